/- An argument that is a slice of colours. -/
import Derived.Test.YtkjnheikimpliaaOpen
import Derived.Test.YtkjnheikimpliaaRefA
import Derived.Deep.SlicePairs
namespace Go.Proofs.Ytkjnheikimpliaa
set_option linter.unusedVariables false
set_option linter.unusedSimpArgs false
set_option maxRecDepth 100000
open Go.ChangeShapes Go.WideShapes Go.RowKit Go.Deep Go.Joins

instance : Inhabited Col := ⟨⟨0, 0, 0, 0⟩⟩
section
variable {H : Type} {enc : TypeId × Value → H} {W : World} {base : Nat} {p : List MemPlace} {d : DataW H} {v : Value}

theorem col_of_trod {n : Nat} {cs : List Value} {x : DataW H × List MemPlace} (h : DataW.trod enc Try.prog W 0 (fun _ => true) true n 36 cs = some x) (hl : cs.length = 4) : ∃ c : Col, c.ok ∧ cs = [.int .u8 c.r, .int .u8 c.g, .int .u8 c.b, .int .u8 c.a] := by
  obtain ⟨xs, k, hk, hxy, _, hxl, hf⟩ := DataW.trod_struct Try.underlying36 h
  match xs, hxl, cs, hl with
  | [y0, y1, y2, y3], _, [v0, v1, v2, v3], _ =>
    have g0 := hf 0 _ rfl
    have g1 := hf 1 _ rfl
    have g2 := hf 2 _ rfl
    have g3 := hf 3 _ rfl
    simp [cells5] at g0 g1 g2 g3
    obtain ⟨a, e0, _, w0⟩ := DataW.trod_int Try.underlying5 g0
    obtain ⟨b, e1, _, w1⟩ := DataW.trod_int Try.underlying5 g1
    obtain ⟨c, e2, _, w2⟩ := DataW.trod_int Try.underlying5 g2
    obtain ⟨e, e3, _, w3⟩ := DataW.trod_int Try.underlying5 g3
    simp at e0 e1 e2 e3
    subst e0 e1 e2 e3
    exact ⟨⟨a, b, c, e⟩, ⟨wf8 w0, wf8 w1, wf8 w2, wf8 w3⟩, rfl⟩

theorem open_cols (hv : Value.okWide Try.prog W .any base 58 v) (h : DataW.Trod enc Try.prog W 0 (fun _ => true) true 58 v d p) : ∃ (A : Option Addr) (cs : List Col) (cap : Nat), v = .slice A cs.length cap ∧ RowAt W W.heap.size .u8 A (bytesL cs) ∧ (∀ k, k < cs.length → (cs.getD k ⟨0, 0, 0, 0⟩).ok) ∧ cs.length ≤ maxLen := by
  obtain ⟨a0, n0, c0, rfl⟩ := okWide_slice Try.underlying58 hv
  obtain ⟨fuel, hf⟩ := h
  rcases open_slice Try.underlying58 (by simpa [Value.cells] using hf) with ⟨hcs, _⟩ | ⟨a, len, cap, m, n, D, Pl, hcs, hb, hl, hm, hmm, _, hx⟩
  · simp at hcs
    obtain ⟨rfl, rfl, rfl⟩ := hcs
    exact ⟨none, [], 0, rfl, fun i hi => by simp [bytesL] at hi, fun k hk => by simp at hk, by simp⟩
  · simp at hcs
    obtain ⟨rfl, rfl, rfl⟩ := hcs
    simp at hmm
    subst hmm
    have each : ∀ i, i < n0 → ∃ c : Col, c.ok ∧ ∀ q : Nat, q < 4 → W.cell? (a.add (i * 4 + q)) = some (.int .u8 ([c.r, c.g, c.b, c.a].getD q 0)) := fun i hi => by
      obtain ⟨cs', h1, h2⟩ := hx i (by omega)
      rw [cells36] at h1
      obtain ⟨_, hlen, hcell⟩ := World.cells?_some h1
      obtain ⟨c, hc, rfl⟩ := col_of_trod h2 hlen
      refine ⟨c, hc, fun q hq => ?_⟩
      have e := hcell q hq
      rw [add_add] at e
      rw [e]
      match q, hq with
      | 0, _ => rfl
      | 1, _ => rfl
      | 2, _ => rfl
      | 3, _ => rfl
    obtain ⟨f, hf'⟩ := choose_lt each
    have hlen : ((List.range n0).map f).length = n0 := by simp
    refine ⟨some a, (List.range n0).map f, _, by rw [hlen], fun i hi => ?_, fun k hk => ?_, by rw [hlen]; omega⟩
    · rw [bytesL_len, hlen] at hi
      obtain ⟨k, q, hq, rfl⟩ : ∃ k q, q < 4 ∧ i = 4 * k + q := ⟨i / 4, i % 4, by omega, by omega⟩
      have hk : k < n0 := by omega
      have hc := (hf' k hk).2 q hq
      have hp : pix (bytesL ((List.range n0).map f)) k = f k := pix_bytesL _ k (f k) (by simp [hk])
      obtain ⟨b, off, spot⟩ := a
      have hspot : spot = none := by
        have := World.cell?_spot ((hf' 0 (by omega)).2 0 (by omega))
        rw [Addr.add, if_pos rfl] at this
        exact this
      subst hspot
      have ea : ∀ j, (⟨b, off, none⟩ : Addr).add j = ⟨b, off + j, none⟩ := fun j => by
        rw [Addr.add]; split
        · rename_i e; simp [e]
        · rfl
      rw [ea] at hc
      have e4 : k * 4 + q = 4 * k + q := by omega
      rw [e4] at hc
      refine ⟨b, off, rfl, World.block_lt_of_cell? W ⟨b, off + (4 * k + q), none⟩ hc, hc.trans ?_⟩
      rw [← hp]
      unfold pix
      match q, hq with
      | 0, _ => rfl
      | 1, _ => rfl
      | 2, _ => rfl
      | 3, _ => rfl
    · rw [hlen] at hk
      simp [List.getD, hk]
      exact (hf' k hk).1
end
end Go.Proofs.Ytkjnheikimpliaa
