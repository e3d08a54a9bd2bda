/- Images: pixels of the program's own. -/
import Derived.Test.YtkjnheikimpliaaImgB
namespace Go.Proofs.Ytkjnheikimpliaa
set_option linter.unusedVariables false
set_option linter.unusedSimpArgs false
open Go.RowKit
attribute [local go_sem ↓] Go.wp_at_zero Go.wp_at_succ

/-- The four cells of a pixel. -/
theorem four {w : World} {B : Nat} {A : Option Addr} {l : List Int} (hr : RowAt w B .u8 A l) (m : Nat) (h : 4 * m + 3 < l.length) :
    ∃ b off : Nat, A = some ⟨b, off, none⟩ ∧ b < B ∧ ∃ q : Nat, q = 4 * m ∧ w.cell? ⟨b, off + q, none⟩ = some (.int .u8 (pix l m).r) ∧ w.cell? ⟨b, off + (q + 1), none⟩ = some (.int .u8 (pix l m).g) ∧
      w.cell? ⟨b, off + (q + 2), none⟩ = some (.int .u8 (pix l m).b) ∧ w.cell? ⟨b, off + (q + 3), none⟩ = some (.int .u8 (pix l m).a) := by
  obtain ⟨b, off, rfl, hb, c0⟩ := hr (4 * m) (by omega)
  obtain ⟨b', off', e1, _, c1⟩ := hr (4 * m + 1) (by omega)
  injection e1 with e1; injection e1 with e1 e2; subst e1 e2
  obtain ⟨b', off', e1, _, c2⟩ := hr (4 * m + 2) (by omega)
  injection e1 with e1; injection e1 with e1 e2; subst e1 e2
  obtain ⟨b', off', e1, _, c3⟩ := hr (4 * m + 3) (by omega)
  injection e1 with e1; injection e1 with e1 e2; subst e1 e2
  exact ⟨b, off, rfl, hb, 4 * m, rfl, c0, c1, c2, c3⟩

set_option maxHeartbeats 1000000 in
theorem pixel_yes (x y : Int) (A : Option Addr) (l : List Int) (cap : Nat) (i j : Int) (w : World) (hR : rightI x y l.length) (hr : RowAt w w.heap.size .u8 A l) (hcap : l.length ≤ cap) (hi : 0 ≤ i ∧ i < x) (hj : 0 ≤ j ∧ j < y) :
    Calls Try.prog 120 #[imgV x y A l.length cap, .int .i64 i, .int .i64 j] w fun e w' => e = .returned (.tuple #[colV (pix l (j * x + i).toNat), .bool true]) ∧ Below w.heap.size w w' := by
  obtain ⟨b1, b2, b3⟩ := at_bounds hR hi hj
  have K := hide (fun w => (right_any x y A l.length cap w).mono (R' := fun e w' => e = .returned (.bool true) ∧ Below w.heap.size w w') (by rintro e w' ⟨rfl, hb⟩; rw [rightB_mk hR]; exact ⟨rfl, hb⟩))
  have hl := right_le hR
  obtain ⟨⟨h1, h2⟩, ⟨h3, h4⟩, h5⟩ := hR
  have H5 := hide h5
  clear h5
  obtain ⟨m, hm⟩ : ∃ m : Nat, (m : Int) = j * x + i := ⟨(j * x + i).toNat, by omega⟩
  have em : (j * x + i).toNat = m := by omega
  rw [em]
  obtain ⟨b, off, rfl, hb, q, hq, c0, c1, c2, c3⟩ := four hr m (by omega)
  have hqi : 4 * (j * x + i) = (q : Int) := by omega
  have q0 : (q : Int) + 3 < (l.length : Int) := by omega
  have qc : (q : Int) + 4 ≤ (cap : Int) := by omega
  obtain ⟨⟨y0, y1, y2, y3⟩, ep⟩ : ∃ c, c = pix l m := ⟨_, rfl⟩
  rw [← ep] at c0 c1 c2 c3 ⊢
  rw [← Nat.add_assoc] at c1 c2 c3
  have HQ := hide hqi
  clear hm em hr hq hqi ep
  go_enter Try.func120, Try.ntmps120
  go_wp2_with fail
  refine (K.out _).mono ?_
  rintro e w1 ⟨rfl, hb1⟩
  obtain ⟨hc, hf⟩ := bcell hb1
  have hz : w.heap.size + 2 ≤ w1.heap.size := by have := hb1.size; simp at this; omega
  go_wp2_with fail
  rw [show (4 * (j * x + i) + 4).toNat - (4 * (j * x + i)).toNat = 4 from by omega, show (4 * (j * x + i)).toNat = q from by have := HQ.out; omega]
  have hb0 : Below w.heap.size w w1 := bstep (balloc (below_alloc w _) _) hb1
  have d0 := (hb0.cell (p := ⟨b, off + q, none⟩) hb).trans c0
  have d1 := (hb0.cell (p := ⟨b, off + q + 1, none⟩) hb).trans c1
  have d2 := (hb0.cell (p := ⟨b, off + q + 2, none⟩) hb).trans c2
  have d3 := (hb0.cell (p := ⟨b, off + q + 3, none⟩) hb).trans c3
  have ne1 : ¬ (w.heap.size + 1 = b) := by omega
  have ne2 : ¬ (b = w.heap.size + 1) := by omega
  go_region_held3 (fun w' => w'.cell? ⟨b, off + q, none⟩ = some (.int .u8 y0) ∧ w'.cell? ⟨b, off + q + 1, none⟩ = some (.int .u8 y1) ∧ w'.cell? ⟨b, off + q + 2, none⟩ = some (.int .u8 y2) ∧ w'.cell? ⟨b, off + q + 3, none⟩ = some (.int .u8 y3)) (go_keep) (fail)
  go_wp2
  exact bodyPost_ret (v := .tuple #[colV ⟨y0, y1, y2, y3⟩, .bool true]) (by simp [results, Try.results120, go_sem, hc, hz]) rfl ⟨rfl, bset (bset (bset (bset hb0.drew _ _ (by omega) _) _ _ (by omega) _) _ _ (by omega) _) _ _ (by omega) _⟩
set_option maxHeartbeats 1000000 in
theorem pixel_no (x y : Int) (A : Option Addr) (l : List Int) (cap : Nat) (i j : Int) (w : World) (hR : rightI x y l.length) (h : i < 0 ∨ x ≤ i ∨ j < 0 ∨ y ≤ j) :
    Calls Try.prog 120 #[imgV x y A l.length cap, .int .i64 i, .int .i64 j] w fun e w' => e = .returned (.tuple #[colV ⟨0, 0, 0, 0⟩, .bool false]) ∧ Below w.heap.size w w' := by
  have K := hide (fun w => (right_any x y A l.length cap w).mono (R' := fun e w' => e = .returned (.bool true) ∧ Below w.heap.size w w') (by rintro e w' ⟨rfl, hb⟩; rw [rightB_mk hR]; exact ⟨rfl, hb⟩))
  obtain ⟨⟨h1, h2⟩, ⟨h3, h4⟩, h5⟩ := hR
  have H5 := hide h5
  clear h5
  have h' : i < 0 ∨ (0 ≤ i ∧ x ≤ i) ∨ ((0 ≤ i ∧ i < x) ∧ j < 0) ∨ ((0 ≤ i ∧ i < x) ∧ 0 ≤ j ∧ y ≤ j) := by omega
  clear h
  rcases h' with h | ⟨h, h6⟩ | ⟨⟨h, h6⟩, h7⟩ | ⟨⟨h, h6⟩, h7, h8⟩
  all_goals
    go_enter Try.func120, Try.ntmps120
    go_wp2_with fail
    refine (K.out _).mono ?_
    rintro e w1 ⟨rfl, hb1⟩
    obtain ⟨hc, hf⟩ := bcell hb1
    have hz : w.heap.size + 2 ≤ w1.heap.size := by have := hb1.size; simp at this; omega
    have hb0 : Below w.heap.size w w1 := bstep (balloc (below_alloc w _) _) hb1
    go_wp2_with fail
    exact bodyPost_ret (v := .tuple #[colV ⟨0, 0, 0, 0⟩, .bool false]) (by simp [results, Try.results120, go_sem, hc, hz]) rfl ⟨rfl, bset (bset (bset (bset hb0 _ _ (by omega) _) _ _ (by omega) _) _ _ (by omega) _) _ _ (by omega) _⟩

set_option maxHeartbeats 1000000 in
theorem at_any (x y : Int) (A : Option Addr) (l : List Int) (cap : Nat) (i j : Int) (w : World) (hR : rightI x y l.length) (hr : RowAt w w.heap.size .u8 A l) (hcap : l.length ≤ cap) (hi : 0 ≤ i ∧ i < x) (hj : 0 ≤ j ∧ j < y) :
    Calls Try.prog 106 #[imgV x y A l.length cap, .int .i64 i, .int .i64 j] w fun e w' => e = .returned (colV (pix l (j * x + i).toNat)) ∧ Below w.heap.size w w' := by
  have K := hide (fun w' (h : Below w.heap.size w w') => pixel_yes x y A l cap i j w' hR ((hr.below h (Nat.le_refl _)).more h.size) hcap hi hj)
  obtain ⟨c, hc⟩ : ∃ c, c = pix l (j * x + i).toNat := ⟨_, rfl⟩
  rw [← hc] at K ⊢
  clear hR hr hc hcap hi hj
  have hb := hide (balloc (below_alloc w (.cells #[.int .i64 x, .int .i64 y, .slice A l.length cap] 34)) (.cells #[.int .u8 0, .int .u8 0, .int .u8 0, .int .u8 0] 36))
  go_enter Try.func106, Try.ntmps106
  go_wp2_with fail
  refine (K.out _ hb.out).mono ?_
  rintro e w1 ⟨rfl, hb1⟩
  obtain ⟨hc, hf⟩ := bcell hb1
  have hz : w.heap.size + 1 < w1.heap.size := by have := hb1.size; simp at this; omega
  have hb0 : Below w.heap.size w w1 := bstep hb.out hb1
  go_wp2_with fail
  exact bodyPost_ret (v := colV c) (by simp [results, Try.results106, go_sem, hc, hz]) rfl ⟨rfl, by repeat (first | (with_reducible exact hb0) | (with_reducible refine bset ?_ _ _ (by omega) _) | (with_reducible refine balloc ?_ _) | (with_reducible apply Below.drew))⟩
end Go.Proofs.Ytkjnheikimpliaa
