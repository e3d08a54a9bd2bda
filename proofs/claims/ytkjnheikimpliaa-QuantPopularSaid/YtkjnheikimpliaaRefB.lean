/- The reference's Image: of rows of colours. -/
import Derived.Test.YtkjnheikimpliaaRefA
namespace Go.Proofs.Ytkjnheikimpliaa
set_option linter.unusedVariables false
set_option linter.unusedSimpArgs false
open Go.RowKit
attribute [local go_sem ↓] Go.wp_at_zero Go.wp_at_succ

/-- A slice of colours, in blocks below B. -/
def TRow (w : World) (B : Nat) (A : Option Addr) (cs : List Col) : Prop :=
  ∀ i, i < (bytesL cs).length → ∃ b off cur fr, A = some ⟨b, off, none⟩ ∧ b < B ∧ w.heap[b]? = some (.cells cur 36 fr) ∧ w.cell? ⟨b, off + i, none⟩ = some (.int .u8 ((bytesL cs).getD i 0))
theorem TRow.row {w : World} {B : Nat} {A : Option Addr} {cs : List Col} (h : TRow w B A cs) : RowAt w B .u8 A (bytesL cs) := fun i hi => by
  obtain ⟨b, off, cur, fr, hA, hb, _, hc⟩ := h i hi
  exact ⟨b, off, hA, hb, hc⟩
theorem TRow.more {w : World} {B B' : Nat} {A : Option Addr} {cs : List Col} (h : TRow w B A cs) (hB : B ≤ B') : TRow w B' A cs := fun i hi => by
  obtain ⟨b, off, cur, fr, hA, hb, hh, hc⟩ := h i hi
  exact ⟨b, off, cur, fr, hA, by omega, hh, hc⟩
theorem TRow.blocks {w w' : World} {B : Nat} {A : Option Addr} {cs : List Col} (h : TRow w B A cs) (hs : ∀ b cur fr, b < B → w.heap[b]? = some (.cells cur 36 fr) → w'.heap[b]? = w.heap[b]?) : TRow w' B A cs := fun i hi => by
  obtain ⟨b, off, cur, fr, hA, hb, hh, hc⟩ := h i hi
  have e := hs b cur fr hb hh
  exact ⟨b, off, cur, fr, hA, hb, e.trans hh, (World.cell?_of_block (a := ⟨b, off + i, none⟩) e).trans hc⟩
theorem TRow.below {w w' : World} {B B' : Nat} {A : Option Addr} {cs : List Col} (h : TRow w B A cs) (hb : Below B' w w') (hB : B ≤ B') : TRow w' B A cs := h.blocks fun b _ _ hlt _ => hb.block b (by omega)
theorem TRow.of_own {w : World} {base n g c : Nat} {cs : List Col} (h : w.ownsRow base 36 4 (.slice (some ⟨g, 0, none⟩) n c) n (u8L (bytesL cs))) : n = cs.length ∧ cs.length ≤ c ∧ TRow w w.heap.size (some ⟨g, 0, none⟩) cs := by
  have h1 := h.1
  rcases h.2 with ⟨h2, _⟩ | ⟨g', cap, cur, hv, hb, hh, hc, _⟩
  · cases h2
  · injection hv with hv h3 h4; injection hv with hv; injection hv with hv
    subst hv h4
    have hlen : n = cs.length := by simp [u8L, bytesL_len] at h1; omega
    refine ⟨hlen, by omega, fun i hi => ⟨g, 0, cur, (0, 0), rfl, Blk.lt (t := 36) (cs := cur) hh, hh, ?_⟩⟩
    rw [Nat.zero_add, h.cellAt i (by rw [bytesL_len] at hi; omega)]
    simp [u8L, List.getD, hi]

/-- A slice of rows of colours. -/
def RowsAt (w : World) (B : Nat) (A : Option Addr) (rows : List (List Col)) : Prop :=
  ∀ i, i < rows.length → ∃ b off, A = some ⟨b, off, none⟩ ∧ b < B ∧ ∃ Ai ci, w.cell? ⟨b, off + i, none⟩ = some (.slice Ai (rows.getD i []).length ci) ∧ TRow w B Ai (rows.getD i []) ∧ (rows.getD i []).length ≤ ci
theorem RowsAt.below {w w' : World} {B B' : Nat} {A : Option Addr} {rows : List (List Col)} (h : RowsAt w B A rows) (hb : Below B' w w') (hB : B ≤ B') : RowsAt w' B A rows := fun i hi => by
  obtain ⟨b, off, hA, hlt, Ai, ci, hc, hr, hl⟩ := h i hi
  exact ⟨b, off, hA, hlt, Ai, ci, (hb.cell (p := ⟨b, off + i, none⟩) (Nat.lt_of_lt_of_le hlt hB)).trans hc, hr.below hb hB, hl⟩
theorem RowsAt.more {w : World} {B B' : Nat} {A : Option Addr} {rows : List (List Col)} (h : RowsAt w B A rows) (hB : B ≤ B') : RowsAt w B' A rows := fun i hi => by
  obtain ⟨b, off, hA, hlt, Ai, ci, hc, hr, hl⟩ := h i hi
  exact ⟨b, off, hA, by omega, Ai, ci, hc, hr.more hB, hl⟩

/-- A slice of rows that a call makes: its own row of slices, from B0 on, all of it below B. -/
structure OutR (w : World) (B0 B g c : Nat) (rows : List (List Col)) : Prop where
  lt : g < B
  own : ∃ vs, w.ownsRow B0 58 1 (.slice (some ⟨g, 0, none⟩) rows.length c) rows.length vs ∧
    ∀ i, i < rows.length → ∃ Ai ci, vs[i]? = some (.slice Ai (rows.getD i []).length ci) ∧ TRow w B Ai (rows.getD i []) ∧ (rows.getD i []).length ≤ ci
theorem OutR.below {w w' : World} {B0 B g c : Nat} {rows : List (List Col)} (h : OutR w B0 B g c rows) (hb : Below B w w') : OutR w' B0 B g c rows := by
  obtain ⟨hlt, vs, ho, hv⟩ := h
  refine ⟨hlt, vs, owns_same ho (hb.block g hlt), fun i hi => ?_⟩
  obtain ⟨Ai, ci, h1, h2, h3⟩ := hv i hi
  exact ⟨Ai, ci, h1, h2.below hb (Nat.le_refl _), h3⟩
theorem OutR.more {w : World} {B0 B B' g c : Nat} {rows : List (List Col)} (h : OutR w B0 B g c rows) (hB : B ≤ B') : OutR w B0 B' g c rows := by
  obtain ⟨hlt, vs, ho, hv⟩ := h
  refine ⟨by omega, vs, ho, fun i hi => ?_⟩
  obtain ⟨Ai, ci, h1, h2, h3⟩ := hv i hi
  exact ⟨Ai, ci, h1, h2.more hB, h3⟩
theorem OutR.rows {w : World} {B0 B g c : Nat} {rows : List (List Col)} (h : OutR w B0 B g c rows) : RowsAt w B (some ⟨g, 0, none⟩) rows := fun i hi => by
  obtain ⟨hlt, vs, ho, hv⟩ := h
  obtain ⟨Ai, ci, h1, h2, h3⟩ := hv i hi
  refine ⟨g, 0, rfl, hlt, Ai, ci, ?_, h2, h3⟩
  rw [Nat.zero_add]; exact owns_cell ho i _ h1
theorem OutR.push {w w1 : World} {B0 g c g' c' : Nat} {rows : List (List Col)} {vs : List Value} {row : List Col} {Ai : Option Addr} {ci : Nat} (o : Obj)
    (hv : ∀ i, i < rows.length → ∃ Ai ci, vs[i]? = some (.slice Ai (rows.getD i []).length ci) ∧ TRow w w.heap.size Ai (rows.getD i []) ∧ (rows.getD i []).length ≤ ci)
    (h0 : w.ownsRow B0 58 1 (.slice (some ⟨g, 0, none⟩) rows.length c) rows.length vs)
    (ht : TRow w w.heap.size Ai row) (hci : row.length ≤ ci)
    (h1 : w1.ownsRow B0 58 1 (.slice (some ⟨g', 0, none⟩) (rows.length + 1) c') (rows.length + 1) (vs ++ [.slice Ai row.length ci])) (hg : (w.alloc o).grownBy w1 (some g)) (hl : g' < w1.heap.size) :
    OutR w1 B0 w1.heap.size g' c' (rows ++ [row]) := by
  have hgt : ∃ cur, w.heap[g]? = some (.cells cur 58 (0, 0)) := by
    rcases h0.2 with ⟨h2, _⟩ | ⟨g', cap, cur, hv, hb, hh, hc, _⟩
    · cases h2
    · injection hv with hv h3 h4; injection hv with hv; injection hv with hv
      subst hv; exact ⟨cur, hh⟩
  obtain ⟨cur, hgt⟩ := hgt
  have hbl : ∀ b cur fr, b < w.heap.size → w.heap[b]? = some (.cells cur 36 fr) → w1.heap[b]? = w.heap[b]? := fun b cur' fr hb hh => by
    refine (hg.block b (Nat.lt_of_lt_of_le hb (below_alloc w o).size) ?_).trans (Below.heap_alloc w o b hb)
    intro e; injection e with e; subst e
    rw [hgt] at hh; injection hh with hh; injection hh with _ ht; simp at ht
  have hs : w.heap.size ≤ w1.heap.size := Nat.le_trans (below_alloc w o).size hg.size
  refine ⟨hl, vs ++ [.slice Ai row.length ci], by simpa using h1, fun i hi => ?_⟩
  have hvl : vs.length = rows.length := by have := h0.1; omega
  rw [List.length_append, List.length_singleton] at hi
  rcases Nat.lt_or_ge i rows.length with hlt | hge
  · obtain ⟨A', c', e1, e2, e3⟩ := hv i hlt
    have e : (rows ++ [row]).getD i [] = rows.getD i [] := by simp only [List.getD]; rw [List.getElem?_append_left hlt]
    rw [e]
    exact ⟨A', c', by rw [List.getElem?_append_left (by omega)]; exact e1, (e2.blocks hbl).more hs, e3⟩
  · have hi' : i = rows.length := by omega
    subst hi'
    have e : (rows ++ [row]).getD rows.length [] = row := by simp [List.getD]
    rw [e]
    exact ⟨Ai, ci, by rw [List.getElem?_append_right (by omega), hvl]; simp, (ht.blocks hbl).more hs, hci⟩

theorem strOfNums_append (a b : List Int) : strOfNums (a ++ b) = strOfNums a ++ strOfNums b := by
  apply ByteArray.ext
  simp [strOfNums]
theorem u8_round {n : Int} (h : 0 ≤ n ∧ n ≤ 255) : ((UInt8.ofNat n.toNat).toNat : Int) = n := by
  simp; omega
theorem new_bytes (W : World) (lo : Nat) (hlo : lo ≤ W.heap.size) (l : List Int) (hu : U8s l) (cap : Nat) (fr : Nat × Nat) (hc : l.length ≤ cap) : ImgNew (W.alloc (.cells (bytesRow (strOfNums l) cap) 5 fr)) lo (some ⟨W.heap.size, 0, none⟩) cap l := by
  refine ⟨fun i hi => ⟨W.heap.size, 0, rfl, hlo, by simp, ?_⟩, hc⟩
  simp only [Nat.zero_add]
  rw [World.cell?_alloc_mark, bytesRow_at _ _ _ (by simpa [strOfNums] using hi)]
  have := hu (l[i]) (List.getElem_mem hi)
  simp [strOfNums, List.getD, hi]
  omega

theorem new_bytes' (W : World) (g : Nat) (hg : g = W.heap.size) (lo : Nat) (hlo : lo ≤ g) (l : List Int) (hu : U8s l) (cap : Nat) (fr : Nat × Nat) (hc : l.length ≤ cap) : ImgNew (W.alloc (.cells (bytesRow (strOfNums l) cap) 5 fr)) lo (some ⟨g, 0, none⟩) cap l := by
  subst hg; exact new_bytes W lo hlo l hu cap fr hc
theorem ImgNew.drew {w : World} {lo : Nat} {A : Option Addr} {cap : Nat} {l : List Int} (h : ImgNew w lo A cap l) : ImgNew w.drew lo A cap l := h

theorem bytesL_append (a b : List Col) : bytesL (a ++ b) = bytesL a ++ bytesL b := by simp [bytesL]
theorem flat_take_succ (rows : List (List Col)) (k : Nat) (h : k < rows.length) : bytesL (rows.take (k + 1)).flatten = bytesL (rows.take k).flatten ++ bytesL (rows.getD k []) := by
  rw [List.take_succ_eq_append_getElem h, List.flatten_append, bytesL_append]
  simp [List.getD, h]
theorem flat_le (rows : List (List Col)) (k : Nat) (h : k < rows.length) : (bytesL (rows.take k).flatten).length + (bytesL (rows.getD k [])).length ≤ (bytesL rows.flatten).length := by
  have h1 := congrArg List.length (flat_take_succ rows k h)
  rw [List.length_append] at h1
  rw [← h1]
  have e : rows.flatten = (rows.take (k + 1)).flatten ++ (rows.drop (k + 1)).flatten := by rw [← List.flatten_append, List.take_append_drop]
  rw [e, bytesL_append, List.length_append]
  omega

set_option maxRecDepth 100000 in
set_option maxHeartbeats 2000000 in
theorem refImage_any (A : Option Addr) (rows : List (List Col)) (cap : Nat) (w : World) (hr : RowsAt w w.heap.size A rows) (hne : 0 < rows.length) (hm : (bytesL rows.flatten).length ≤ 1073741824) (hn : rows.length ≤ 1073741824) (hu : U8s (bytesL rows.flatten)) :
    Calls Try.prog 55 #[.slice A rows.length cap] w fun e w' => ∃ A' cap', e = .returned (imgV (rows.getD 0 []).length rows.length A' (bytesL rows.flatten).length cap') ∧ ImgNew w' w.heap.size A' cap' (bytesL rows.flatten) ∧ Below w.heap.size w w' := by
  have HR := hide hr
  obtain ⟨b, off, rfl, hbl, A0, ci, hc, -, -⟩ := hr 0 hne
  simp only [Nat.add_zero] at hc
  obtain ⟨n0, hn0⟩ : ∃ n0, n0 = (rows.getD 0 []).length := ⟨_, rfl⟩
  rw [← hn0] at hc ⊢
  clear hr hn0
  have hne' : (0 : Int) < (rows.length : Int) := by omega
  go_enter Try.func55, Try.ntmps55
  go_wp2
  go_loopw [4, 5] (fun s i wr => ∃ k : Nat, k ≤ rows.length ∧ i = .int .i64 k ∧ s = .string (strOfNums (bytesL (rows.take k).flatten)) ∧ Below w.heap.size w wr ∧ Blk wr w.heap.size 34 #[.int .i64 0, .int .i64 0, .slice none 0 0] ∧ Blk wr (w.heap.size + 1) 34 #[.int .i64 n0, .int .i64 rows.length, .slice none 0 0]) (fun _ i _ => rows.length - (intOf i).toNat)
  case atStart => exact ⟨0, Nat.zero_le _, rfl, rfl, balloc (below_alloc w _) _, (Blk.new w _ _).alloc _, Blk.new' _ _ _ _ (by simp)⟩
  case round =>
    obtain ⟨k, hk, rfl, rfl, hb, hB1, hB2⟩ := hrel
    by_cases hlt : k < rows.length
    · obtain ⟨b', off', e1, hbl', Ai, ci', hc', hri, hli⟩ := (HR.out.below hb (Nat.le_refl _)) k hlt
      injection e1 with e1; injection e1 with e1 e2; subst e1 e2
      have hfl := flat_le rows k hlt
      have hts := hide (flat_take_succ rows k hlt)
      have hlen : (rows.getD k []).length ≤ 1073741824 := by
        have := bytesL_len (rows.getD k []); omega
      obtain ⟨row, hrow⟩ : ∃ row, row = rows.getD k [] := ⟨_, rfl⟩
      rw [← hrow] at hc' hri hfl hlen
      have hts' := hts.out
      rw [← hrow] at hts'
      have HTS := hide hts'
      have HRI := hide (hri.row.more hb.size)
      have hsum : (strOfNums (bytesL (rows.take k).flatten)).size + (strOfNums (bytesL row)).size ≤ 9223372036854775807 := by
        rw [strOfNums_size, strOfNums_size]; omega
      have HB := hide hb
      clear hts hts' hri hrow hb hfl
      go_wp2_with (go_at_call 84; (with_reducible refine (bytes_any _ row _ _ HRI.out hlen).mono ?_); rintro e w1 ⟨rfl, hb1⟩)
      go_roundw
      case rel => exact ⟨k + 1, by omega, by go_num, by rw [HTS.out, strOfNums_append], HB.out.trans (hb1.mono HB.out.size), hB1.below hb1 hB1.lt, hB2.below hb1 hB2.lt⟩
      case measure => simp [intOf]; omega
    · have hkl : k = rows.length := by omega
      have es : rows.take k = rows := List.take_of_length_le (by omega)
      have hsz : (strOfNums (bytesL rows.flatten)).size = (bytesL rows.flatten).length := strOfNums_size _
      have kb := fun W => run_bytes_of_string (P := Try.prog) W 9 32 5 (strOfNums (bytesL rows.flatten)) Try.underlying9 Try.underlying32 Try.underlying5
      rw [hsz] at kb
      obtain ⟨m0, m1, m2, f0, f1, f2⟩ := blk3 hB1
      obtain ⟨r0, r1, r2, g0, g1, g2⟩ := blk3 hB2
      have z1 := hB1.lt
      have z2 := hB2.lt
      rw [es]
      clear es hkl hsz
      go_wp2
      refine bodyPost_ret (v := imgV n0 rows.length (some ⟨wr.heap.size, 0, none⟩) (bytesL rows.flatten).length (grownCap wr (bytesL rows.flatten).length 0 5)) (by simp [results, Try.results55, go_sem, m0, m1, m2, r0, r1, r2, z1, z2]) rfl ⟨_, _, rfl, ?_, ?_⟩
      · exact (new_bytes' _ wr.heap.size (by simp [World.setCell]) w.heap.size hb.size (bytesL rows.flatten) hu _ _ (grownCap_ge wr _ 0 5)).drew
      · exact (balloc (bset (bset (bset (bset hb _ _ (by omega) _) _ _ (by omega) _) _ _ (by omega) _) _ _ (by omega) _) _).drew
end Go.Proofs.Ytkjnheikimpliaa
