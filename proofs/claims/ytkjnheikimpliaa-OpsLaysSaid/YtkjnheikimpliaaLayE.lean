/- Rows that are written in place; a part laid pixel by pixel: plain. -/
import Derived.Test.YtkjnheikimpliaaLayC
import Derived.Test.YtkjnheikimpliaaLayD
import Derived.Test.YtkjnheikimpliaaDithB
namespace Go.Proofs.Ytkjnheikimpliaa
set_option linter.unusedVariables false
set_option linter.unusedSimpArgs false
open Go.RowKit

/-- One pixel changed. -/
def updPx (px : Nat → Nat → Col) (j i : Nat) (d : Col) (a b : Nat) : Col := if a = j ∧ b = i then d else px a b
theorem bytesL_set : ∀ (cs : List Col) (j : Nat) (d : Col), j < cs.length → bytesL (cs.set j d) = ((((bytesL cs).set (j * 4) d.r).set (j * 4 + 1) d.g).set (j * 4 + 2) d.b).set (j * 4 + 3) d.a
  | [], j, d, h => by simp at h
  | c :: cs, 0, d, h => rfl
  | c :: cs, j + 1, d, h => by
    have e : bytesL (c :: cs) = c.r :: c.g :: c.b :: c.a :: bytesL cs := rfl
    have e2 : bytesL ((c :: cs).set (j + 1) d) = c.r :: c.g :: c.b :: c.a :: bytesL (cs.set j d) := rfl
    rw [e, e2, bytesL_set cs j d (by simpa using h)]
    have q : (j + 1) * 4 = j * 4 + 1 + 1 + 1 + 1 := by omega
    rw [q]
    rfl
theorem pxRow_set (px : Nat → Nat → Col) (W i j : Nat) (d : Col) (hj : j < W) : pxRow (updPx px j i d) W i = ((((pxRow px W i).set (j * 4) (.int .u8 d.r)).set (j * 4 + 1) (.int .u8 d.g)).set (j * 4 + 2) (.int .u8 d.b)).set (j * 4 + 3) (.int .u8 d.a) := by
  have e : ((List.range W).map fun a => updPx px j i d a i) = ((List.range W).map fun a => px a i).set j d := by
    apply List.ext_getElem
    · simp
    · intro a h1 h2
      simp only [List.length_map, List.length_range] at h1
      rw [List.getElem_set]
      simp only [List.getElem_map, List.getElem_range, updPx]
      by_cases h : a = j
      · subst h; simp
      · simp [h]
        exact fun e => absurd e.symm h
  unfold pxRow
  rw [e, bytesL_set _ _ _ (by simpa using hj)]
  unfold u8L
  simp only [List.map_set]
theorem pxRow_other (px : Nat → Nat → Col) (W i i' j : Nat) (d : Col) (h : i' ≠ i) : pxRow (updPx px j i d) W i' = pxRow px W i' := by
  unfold pxRow
  congr 2
  refine List.map_congr_left fun a _ => ?_
  simp [updPx, h]

abbrev put4 (w : World) (b q : Nat) (d : Col) : World := (((w.setCell ⟨b, q, none⟩ (.int .u8 d.r)).setCell ⟨b, q + 1, none⟩ (.int .u8 d.g)).setCell ⟨b, q + 2, none⟩ (.int .u8 d.b)).setCell ⟨b, q + 3, none⟩ (.int .u8 d.a)
theorem put4_far (w : World) (b q : Nat) (d : Col) (k : Nat) (h : k ≠ b) : (put4 w b q d).heap[k]? = w.heap[k]? := by
  unfold put4
  rw [Below.heap_setCell _ _ _ _ h, Below.heap_setCell _ _ _ _ h, Below.heap_setCell _ _ _ _ h, Below.heap_setCell _ _ _ _ h]
theorem put4_below {B : Nat} (w : World) (b q : Nat) (d : Col) (h : B ≤ b) : Below B w (put4 w b q d) :=
  ((((Below.refl B w).setCell (p := ⟨b, q, none⟩) h _).setCell (p := ⟨b, q + 1, none⟩) h _).setCell (p := ⟨b, q + 2, none⟩) h _).setCell (p := ⟨b, q + 3, none⟩) h _

theorem SepR.put {w : World} {B0 W k : Nat} {px : Nat → Nat → Col} {g c : Nat} {bl ci : Nat → Nat} (h : SepR w B0 W k px g c bl ci) {i j : Nat} (hi : i < k) (hj : j < W) (d : Col) : SepR (put4 w (bl i) (j * 4) d) B0 W k (updPx px j i d) g c bl ci := by
  obtain ⟨cs0, hb0, -⟩ := own_blk (h.row i hi)
  refine ⟨owns_same h.own (put4_far w _ _ d g (own_ne h.own hb0 (by decide))), fun i' hi' => ?_, h.inc⟩
  by_cases he : i' = i
  · subst he
    rw [pxRow_set px W i' j d hj]
    obtain ⟨hl, h2⟩ := h.row i' hi
    rcases h2 with ⟨h2, _⟩ | ⟨g', cap, cur, hv, hb, hh, hc, hm, h3, h4⟩
    · cases h2
    · injection hv with hv h5 h6; injection hv with hv; injection hv with hv
      subst hv h6
      have hB : Blk w (bl i') 36 cur := hh
      have hN := (((hB.set_ (j * 4) (.int .u8 d.r)).set_ (j * 4 + 1) (.int .u8 d.g)).set_ (j * 4 + 2) (.int .u8 d.b)).set_ (j * 4 + 3) (.int .u8 d.a)
      refine ⟨by simpa using hl, .inr ⟨bl i', _, _, rfl, hb, hN, hc, hm, by simpa using h3, ?_⟩⟩
      simp only [Array.toList_setIfInBounds, List.take_set, h4]
  · rw [pxRow_other px W i i' j d he]
    refine owns_same (h.row i' hi') (put4_far w _ _ d (bl i') fun e => ?_)
    rcases Nat.lt_or_gt_of_ne he with h1 | h1
    · have := h.inc i' i h1 hi; omega
    · have := h.inc i i' h1 hi'; omega
theorem SepR.congr {w : World} {B0 W k : Nat} {px px' : Nat → Nat → Col} {g c : Nat} {bl ci : Nat → Nat} (h : SepR w B0 W k px g c bl ci) (he : ∀ a i, a < W → i < k → px a i = px' a i) : SepR w B0 W k px' g c bl ci := by
  refine ⟨h.own, fun i hi => ?_, h.inc⟩
  have e : pxRow px' W i = pxRow px W i := by
    unfold pxRow
    congr 2
    refine List.map_congr_left fun a ha => ?_
    exact (he a i (List.mem_range.1 ha) hi).symm
  rw [e]
  exact h.row i hi
theorem SepR.keep {w w' : World} {B0 W k : Nat} {px : Nat → Nat → Col} {g c : Nat} {bl ci : Nat → Nat} (h : SepR w B0 W k px g c bl ci) (hk : ∀ b, B0 ≤ b → w'.heap[b]? = w.heap[b]?) : SepR w' B0 W k px g c bl ci :=
  ⟨owns_same h.own (hk _ (own_ge h.own)), fun i hi => owns_same (h.row i hi) (hk _ (own_ge (h.row i hi))), h.inc⟩
/-- What a slice of rows reads as, cell by cell. -/
theorem SepR.outer {w : World} {B0 W k : Nat} {px : Nat → Nat → Col} {g c : Nat} {bl ci : Nat → Nat} (h : SepR w B0 W k px g c bl ci) {i : Nat} (hi : i < k) : w.cell? ⟨g, i, none⟩ = some (.slice (some ⟨bl i, 0, none⟩) W (ci i)) :=
  owns_cell h.own i _ (by simp [hi])
theorem SepR.inner {w : World} {B0 W k : Nat} {px : Nat → Nat → Col} {g c : Nat} {bl ci : Nat → Nat} (h : SepR w B0 W k px g c bl ci) {i j : Nat} (hi : i < k) (hj : j < W) :
    (w.cell? ⟨bl i, j * 4, none⟩ = some (.int .u8 (px j i).r) ∧ w.cell? ⟨bl i, j * 4 + 1, none⟩ = some (.int .u8 (px j i).g) ∧ w.cell? ⟨bl i, j * 4 + 2, none⟩ = some (.int .u8 (px j i).b) ∧ w.cell? ⟨bl i, j * 4 + 3, none⟩ = some (.int .u8 (px j i).a)) ∧
    (w.frozen? ⟨bl i, j * 4, none⟩ = false ∧ w.frozen? ⟨bl i, j * 4 + 1, none⟩ = false ∧ w.frozen? ⟨bl i, j * 4 + 2, none⟩ = false ∧ w.frozen? ⟨bl i, j * 4 + 3, none⟩ = false) := by
  obtain ⟨-, -, ht⟩ := TRow.of_own (h.row i hi)
  obtain ⟨b, off, he, -, c0, c1, c2, c3⟩ := colAt ht.row j (by simpa using hj) (px j i) (by simp [hj])
  injection he with he; injection he with h1 h2
  subst h1 h2
  simp only [Nat.zero_add] at c0 c1 c2 c3
  obtain ⟨cs, hb, -⟩ := own_blk (h.row i hi)
  exact ⟨⟨c0, c1, c2, c3⟩, hb.frozen _, hb.frozen _, hb.frozen _, hb.frozen _⟩
theorem SepR.rows {w : World} {B0 W k : Nat} {px : Nat → Nat → Col} {g c : Nat} {bl ci : Nat → Nat} (h : SepR w B0 W k px g c bl ci) : RowsAt w w.heap.size (some ⟨g, 0, none⟩) (grid px W k) := fun i hi => by
  rw [grid_len] at hi
  rw [grid_at _ _ _ _ hi]
  obtain ⟨e1, e2, ht⟩ := TRow.of_own (h.row i hi)
  refine ⟨g, 0, rfl, own_lt h.own, _, ci i, ?_, ht, by simpa using e2⟩
  rw [Nat.zero_add, h.outer hi]
  simp

/-- The pixels after so many of the part's. -/
def layN (f : Col → Col → Col) (l lp : List Int) (W PW PH : Nat) (x y : Int) (n a b : Nat) : Col :=
  if inPart x y PW PH a b ∧ ((b : Int) - y).toNat * PW + ((a : Int) - x).toNat < n then f (imgPx lp PW ((a : Int) - x).toNat ((b : Int) - y).toNat) (imgPx l W a b) else imgPx l W a b
theorem layN_zero (f : Col → Col → Col) (l lp : List Int) (W PW PH : Nat) (x y : Int) (a b : Nat) : layN f l lp W PW PH x y 0 a b = imgPx l W a b := by
  unfold layN; rw [if_neg (by omega)]
theorem layN_all (f : Col → Col → Col) (l lp : List Int) (W PW PH : Nat) (x y : Int) (a b : Nat) : layN f l lp W PW PH x y (PH * PW) a b = layPx f l lp W PW PH x y a b := by
  unfold layN layPx
  by_cases h : inPart x y PW PH a b
  · have h1 : ((b : Int) - y).toNat + 1 ≤ PH := by omega
    have h2 := Nat.mul_le_mul_right PW h1
    rw [Nat.add_mul] at h2
    rw [if_pos ⟨h, by omega⟩, if_pos h]
  · rw [if_neg (fun hh => h hh.1), if_neg h]
theorem idx_inj {PW r s q t : Nat} (hr : r < PW) (hs : s < PW) (h : q * PW + r = t * PW + s) : q = t ∧ r = s := by
  have h1 := at_mod PW r q hr
  have h2 := at_mod PW s t hs
  have h3 := at_div PW r q hr
  have h4 := at_div PW s t hs
  rw [h] at h1 h3
  exact ⟨by rw [← h3, h4], by rw [← h1, h2]⟩
theorem layN_out (f : Col → Col → Col) (l lp : List Int) {W H PW PH : Nat} {x y : Int} {p q : Nat} (hp : p < PW) (hq : q < PH) (h : x + p < 0 ∨ (W : Int) ≤ x + p ∨ y + q < 0 ∨ (H : Int) ≤ y + q) (a b : Nat) (ha : a < W) (hb : b < H) :
    layN f l lp W PW PH x y (q * PW + p) a b = layN f l lp W PW PH x y (q * PW + p + 1) a b := by
  unfold layN
  by_cases hin : inPart x y PW PH a b
  · have hne : ((b : Int) - y).toNat * PW + ((a : Int) - x).toNat ≠ q * PW + p := fun e => by
      obtain ⟨e1, e2⟩ := idx_inj (by omega) hp e
      omega
    by_cases hlt : ((b : Int) - y).toNat * PW + ((a : Int) - x).toNat < q * PW + p
    · rw [if_pos ⟨hin, hlt⟩, if_pos ⟨hin, by omega⟩]
    · rw [if_neg (fun hh => hlt hh.2), if_neg (fun hh => by have := hh.2; omega)]
  · rw [if_neg (fun hh => hin hh.1), if_neg (fun hh => hin hh.1)]
theorem layN_in (f : Col → Col → Col) (l lp : List Int) {W PW PH : Nat} {x y : Int} {p q u v : Nat} (hp : p < PW) (hq : q < PH) (hu : x + p = (u : Int)) (hv : y + q = (v : Int)) (a b : Nat) :
    updPx (layN f l lp W PW PH x y (q * PW + p)) u v (f (imgPx lp PW p q) (imgPx l W u v)) a b = layN f l lp W PW PH x y (q * PW + p + 1) a b := by
  unfold updPx
  by_cases he : a = u ∧ b = v
  · obtain ⟨rfl, rfl⟩ := he
    have e1 : ((a : Int) - x).toNat = p := by omega
    have e2 : ((b : Int) - y).toNat = q := by omega
    rw [if_pos ⟨rfl, rfl⟩]
    unfold layN
    rw [e1, e2, if_pos ⟨⟨⟨by omega, by omega⟩, by omega, by omega⟩, by omega⟩]
  · rw [if_neg he]
    unfold layN
    by_cases hin : inPart x y PW PH a b
    · have hne : ((b : Int) - y).toNat * PW + ((a : Int) - x).toNat ≠ q * PW + p := fun e => by
        obtain ⟨e1, e2⟩ := idx_inj (by omega) hp e
        exact he ⟨by omega, by omega⟩
      by_cases hlt : ((b : Int) - y).toNat * PW + ((a : Int) - x).toNat < q * PW + p
      · rw [if_pos ⟨hin, hlt⟩, if_pos ⟨hin, by omega⟩]
      · rw [if_neg (fun hh => hlt hh.2), if_neg (fun hh => by have := hh.2; omega)]
    · rw [if_neg (fun hh => hin hh.1), if_neg (fun hh => hin hh.1)]
theorem layN_own (f : Col → Col → Col) (l lp : List Int) {W PW PH : Nat} {x y : Int} {p q u v : Nat} (hp : p < PW) (hu : x + p = (u : Int)) (hv : y + q = (v : Int)) : layN f l lp W PW PH x y (q * PW + p) u v = imgPx l W u v := by
  unfold layN
  have e1 : ((u : Int) - x).toNat = p := by omega
  have e2 : ((v : Int) - y).toNat = q := by omega
  rw [e1, e2, if_neg (by omega)]
end Go.Proofs.Ytkjnheikimpliaa
