/- The arguments of the laws, opened: what an argument that can be read as data is as a value, for each type that the laws take. -/
import Derived.Test.YtkjnheikimpliaaBase
import Derived.Test.YtkjnheikimpliaaRows
import Derived.ProofKit
import Derived.Lib.SmallJoins
import Derived.Deep.Slices
namespace Go.Proofs.Ytkjnheikimpliaa
set_option linter.unusedVariables false
set_option linter.unusedSimpArgs false
set_option maxRecDepth 100000
open Go.ChangeShapes Go.WideShapes Go.RowKit Go.Deep Go.Joins

theorem tryOwn : ownKnob Try.prog.godebug = none := by kernel_rfl
theorem tryLaidOut : laidOutB Try.prog = true := by kernel_rfl
theorem cells3 : Try.prog.cellsOf 3 = 1 := by kernel_rfl
theorem cells5 : Try.prog.cellsOf 5 = 1 := by kernel_rfl
theorem cells34 : Try.prog.cellsOf 34 = 3 := by kernel_rfl
theorem cells36 : Try.prog.cellsOf 36 = 4 := by kernel_rfl

section
variable {H : Type} {enc : TypeId × Value → H} {W : World} {base : Nat} {p : List MemPlace} {d : DataW H} {v : Value}

theorem wf64 {x : Int} (h : (Lit.int .i64 x).wf = true) : I64 x := by
  simp [Lit.wf, IntKind.min, IntKind.max, IntKind.signed, IntKind.bits] at h
  exact ⟨by omega, by omega⟩
theorem wf8 {x : Int} (h : (Lit.int .u8 x).wf = true) : 0 ≤ x ∧ x ≤ 255 := by
  simp [Lit.wf, IntKind.min, IntKind.max, IntKind.signed, IntKind.bits] at h
  exact ⟨by omega, by omega⟩

theorem open_i64 (hv : Value.okWide Try.prog W .any base 3 v) (h : DataW.Trod enc Try.prog W 0 (fun _ => true) true 3 v d p) : ∃ x, v = .int .i64 x ∧ I64 x := by
  obtain ⟨x, rfl, _, _, wx⟩ := open_int Try.underlying3 hv h
  exact ⟨x, rfl, wf64 wx⟩

theorem row_of_cells {k : IntKind} {a : Addr} {zs : List Int} {n : Nat} (hn : n ≤ zs.length) (hc : ∀ i, i < zs.length → W.cell? (a.add i) = some (.int k (zs.getD i 0))) : RowAt W W.heap.size k (some a) (zs.take n) := fun i hi => by
  have hi' : i < n := by rw [List.length_take] at hi; omega
  have h := hc i (by omega)
  obtain ⟨b, off, spot⟩ := a
  have hspot : spot = none := by
    have := World.cell?_spot (hc 0 (by omega))
    rw [Addr.add, if_pos rfl] at this
    exact this
  subst hspot
  have ea : (⟨b, off, none⟩ : Addr).add i = ⟨b, off + i, none⟩ := by
    rw [Addr.add]; split
    · rename_i e; simp [e]
    · rfl
  rw [ea] at h
  refine ⟨b, off, rfl, World.block_lt_of_cell? W ⟨b, off + i, none⟩ h, ?_⟩
  have e : (zs.take n).getD i 0 = zs.getD i 0 := by
    simp only [List.getD, List.getElem?_take]; rw [if_pos hi']
  rw [e]; exact h

theorem trod_ints {e : TypeId} {t : TypeId} {k : IntKind} {n : Nat} {x : DataW H × List MemPlace} (ht : Try.prog.underlying t = some (.slice e)) (he : Try.prog.underlying e = some (.int k)) (hc : Try.prog.cellsOf e = 1)
    (h : DataW.trod enc Try.prog W 0 (fun _ => true) true n t [v] = some x) : ∃ A l cap, v = .slice A l.length cap ∧ RowAt W W.heap.size k A l ∧ (∀ z ∈ l, (Lit.int k z).wf = true) ∧ l.length ≤ maxLen ∧ l.length ≤ cap := by
  rcases open_ints ht he hc h with ⟨hcs, _⟩ | ⟨a, len, cap, zs, hcs, _, hl, hm, hz, _, hcell, hwz⟩
  · simp at hcs
    exact ⟨none, [], 0, hcs, fun i hi => absurd hi (by simp), by simp, by simp, by simp⟩
  · simp at hcs
    simp at hz
    have e1 : (zs.take len).length = len := by rw [List.length_take]; omega
    exact ⟨some a, zs.take len, cap, by rw [e1]; exact hcs, row_of_cells (by omega) hcell, fun z hz' => hwz z (List.mem_of_mem_take hz'), by rw [e1]; omega, by rw [e1]; omega⟩

theorem open_ints64 (hv : Value.okWide Try.prog W .any base 29 v) (h : DataW.Trod enc Try.prog W 0 (fun _ => true) true 29 v d p) : ∃ A l cap, v = .slice A l.length cap ∧ RowAt W W.heap.size .i64 A l ∧ (∀ z ∈ l, I64 z) ∧ l.length ≤ maxLen := by
  obtain ⟨a0, n0, c0, rfl⟩ := okWide_slice Try.underlying29 hv
  obtain ⟨fuel, hf⟩ := h
  obtain ⟨A, l, cap, h1, h2, h3, h4, _⟩ := trod_ints Try.underlying29 Try.underlying3 cells3 (by simpa [Value.cells] using hf)
  exact ⟨A, l, cap, h1, h2, fun z hz => wf64 (h3 z hz), h4⟩

/-- An argument that is an image. -/
theorem open_img (hv : Value.okWide Try.prog W .any base 34 v) (h : DataW.Trod enc Try.prog W 0 (fun _ => true) true 34 v d p) :
    ∃ (x y : Int) (A : Option Addr) (l : List Int) (cap : Nat), v = .agg #[.int .i64 x, .int .i64 y, .slice A l.length cap] ∧ I64 x ∧ I64 y ∧ RowAt W W.heap.size .u8 A l ∧ U8s l ∧ l.length ≤ maxLen ∧ l.length ≤ cap := by
  obtain ⟨v0, v1, v2, y0, y1, y2, n, rfl, rfl, rfl, t0, t1, t2⟩ := open_agg3 Try.underlying34 (by kernel_rfl) cells34 hv h
  obtain ⟨x, e0, _, w0⟩ := DataW.trod_int Try.underlying3 t0
  obtain ⟨y, e1, _, w1⟩ := DataW.trod_int Try.underlying3 t1
  obtain ⟨A, l, cap, rfl, hr, hw, hm, hc⟩ := trod_ints Try.underlying32 Try.underlying5 cells5 t2
  simp at e0 e1
  subst e0 e1
  exact ⟨x, y, A, l, cap, rfl, wf64 w0, wf64 w1, hr, fun z hz => wf8 (hw z hz), hm, hc⟩

/-- An argument that is a colour. -/
theorem open_col (hv : Value.okWide Try.prog W .any base 36 v) (h : DataW.Trod enc Try.prog W 0 (fun _ => true) true 36 v d p) :
    ∃ c : Col, v = colV c ∧ c.ok := by
  obtain ⟨v0, v1, v2, v3, y0, y1, y2, y3, n, rfl, rfl, rfl, t0, t1, t2, t3⟩ := open_agg4 Try.underlying36 (by kernel_rfl) cells36 hv h
  obtain ⟨a, e0, _, w0⟩ := DataW.trod_int Try.underlying5 t0
  obtain ⟨b, e1, _, w1⟩ := DataW.trod_int Try.underlying5 t1
  obtain ⟨c, e2, _, w2⟩ := DataW.trod_int Try.underlying5 t2
  obtain ⟨e, e3, _, w3⟩ := DataW.trod_int Try.underlying5 t3
  simp at e0 e1 e2 e3
  subst e0 e1 e2 e3
  exact ⟨⟨a, b, c, e⟩, rfl, wf8 w0, wf8 w1, wf8 w2, wf8 w3⟩
end
end Go.Proofs.Ytkjnheikimpliaa
