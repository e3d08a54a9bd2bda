/- Images: what the small functions on images compute. -/
import Derived.Test.YtkjnheikimpliaaBase
import Derived.Deep.QuietTactic
import Derived.BigQuiet
import Derived.Deep.RegionHeld3
import Derived.StillTailTactics
import Derived.Deep.DrawnRows
namespace Go.Proofs.Ytkjnheikimpliaa
set_option linter.unusedVariables false
set_option linter.unusedSimpArgs false
open Go.RowKit
attribute [local go_sem ↓] Go.wp_at_zero Go.wp_at_succ

/-- An image as a value. -/
abbrev imgV (x y : Int) (A : Option Addr) (n cap : Nat) : Value := .agg #[.int .i64 x, .int .i64 y, .slice A n cap]
/-- Pixel k of bytes. -/
def pix (l : List Int) (k : Nat) : Col := ⟨l.getD (4 * k) 0, l.getD (4 * k + 1) 0, l.getD (4 * k + 2) 0, l.getD (4 * k + 3) 0⟩
/-- Is it a right image? -/
def rightI (x y : Int) (n : Nat) : Prop := (1 ≤ x ∧ x ≤ 16384) ∧ (1 ≤ y ∧ y ≤ 16384) ∧ (n : Int) = 4 * x * y

theorem at_bounds {x y i j : Int} {n : Nat} (h : rightI x y n) (hi : 0 ≤ i ∧ i < x) (hj : 0 ≤ j ∧ j < y) :
    0 ≤ j * x ∧ j * x ≤ 268435456 ∧ 4 * (j * x + i) + 3 < (n : Int) := by
  obtain ⟨⟨h1, h2⟩, ⟨h3, h4⟩, h5⟩ := h
  have a1 : 0 ≤ j * x := Int.mul_nonneg hj.1 (by omega)
  have a2 : j * x ≤ 16384 * 16384 := Int.mul_le_mul (by omega) h2 (by omega) (by omega)
  have a3 : (j + 1) * x ≤ y * x := Int.mul_le_mul_of_nonneg_right (by omega) (by omega)
  have a4 : (j + 1) * x = j * x + x := by rw [Int.add_mul]; omega
  have a5 : 4 * x * y = 4 * (y * x) := by rw [Int.mul_assoc, Int.mul_comm x y]
  omega

theorem right_le {x y : Int} {n : Nat} (h : rightI x y n) : (n : Int) ≤ 1073741824 := by
  obtain ⟨⟨h1, h2⟩, ⟨h3, h4⟩, h5⟩ := h
  have a2 : x * y ≤ 16384 * 16384 := Int.mul_le_mul h2 h4 (by omega) (by omega)
  have : 4 * x * y = 4 * (x * y) := Int.mul_assoc 4 x y
  omega
/-- The facts on four indexes in a row that a drawn region wants. -/
theorem idx4 (q n : Nat) (h : (q : Int) + 3 < (n : Int)) (hn : (n : Int) ≤ 1073741824) :
    (q : Int) < n ∧ (q : Int) + 1 < n ∧ (q : Int) + 2 < n ∧ (q : Int) + 3 < n ∧ (0 : Int) ≤ (q : Int) + 1 ∧ (0 : Int) ≤ (q : Int) + 2 ∧ (0 : Int) ≤ (q : Int) + 3 ∧
    ((q : Int) + 1).toNat = q + 1 ∧ ((q : Int) + 2).toNat = q + 2 ∧ ((q : Int) + 3).toNat = q + 3 ∧
    IntKind.i64.wrap ((q : Int) + 1) = (q : Int) + 1 ∧ IntKind.i64.wrap ((q : Int) + 2) = (q : Int) + 2 ∧ IntKind.i64.wrap ((q : Int) + 3) = (q : Int) + 3 :=
  ⟨by omega, by omega, by omega, by omega, by omega, by omega, by omega, by omega, by omega, by omega, IntWalk.i64_in _ (by omega), IntWalk.i64_in _ (by omega), IntWalk.i64_in _ (by omega)⟩

set_option maxHeartbeats 1000000 in
theorem refPixel_any (x y : Int) (A : Option Addr) (l : List Int) (cap : Nat) (i j : Int) (w : World) (hR : rightI x y l.length) (hr : RowAt w w.heap.size .u8 A l) (hi : 0 ≤ i ∧ i < x) (hj : 0 ≤ j ∧ j < y) :
    Calls Try.prog 39 #[imgV x y A l.length cap, .int .i64 i, .int .i64 j] w fun e w' => e = .returned (colV (pix l (j * x + i).toNat)) ∧ Below w.heap.size w w' := by
  obtain ⟨b1, b2, b3⟩ := at_bounds hR hi hj
  obtain ⟨⟨h1, h2⟩, ⟨h3, h4⟩, h5⟩ := hR
  have H5 := hide h5
  clear h5
  obtain ⟨m, hm⟩ : ∃ m : Nat, (m : Int) = j * x + i := ⟨(j * x + i).toNat, by omega⟩
  have em : (j * x + i).toNat = m := by omega
  rw [em]
  unfold pix
  obtain ⟨q, hq⟩ : ∃ q, q = 4 * m := ⟨_, rfl⟩
  rw [← hq]
  obtain ⟨b, off, rfl, hb, c0⟩ := hr q (by omega)
  obtain ⟨b', off', e1, _, c1⟩ := hr (q + 1) (by omega)
  injection e1 with e1; injection e1 with e1 e2; subst e1 e2
  obtain ⟨b', off', e1, _, c2⟩ := hr (q + 2) (by omega)
  injection e1 with e1; injection e1 with e1 e2; subst e1 e2
  obtain ⟨b', off', e1, _, c3⟩ := hr (q + 3) (by omega)
  injection e1 with e1; injection e1 with e1 e2; subst e1 e2
  have hqi : 4 * (j * x + i) = (q : Int) := by omega
  have q0 : (q : Int) + 3 < (l.length : Int) := by omega
  obtain ⟨y0, e0⟩ : ∃ y0, y0 = l.getD q 0 := ⟨_, rfl⟩
  obtain ⟨y1, e1⟩ : ∃ y0, y0 = l.getD (q + 1) 0 := ⟨_, rfl⟩
  obtain ⟨y2, e2⟩ : ∃ y0, y0 = l.getD (q + 2) 0 := ⟨_, rfl⟩
  obtain ⟨y3, e3⟩ : ∃ y0, y0 = l.getD (q + 3) 0 := ⟨_, rfl⟩
  rw [← e0, ← e1, ← e2, ← e3]
  rw [← e0] at c0
  rw [← e1] at c1
  rw [← e2] at c2
  rw [← e3] at c3
  have HQ := hide hqi
  have hl : (l.length : Int) ≤ 1073741824 := by
    have := right_le ⟨⟨h1, h2⟩, ⟨h3, h4⟩, H5.out⟩; omega
  clear hm em hr hq hqi e0 e1 e2 e3
  go_enter Try.func39, Try.ntmps39
  go_wp2
  rw [HQ.out]
  obtain ⟨p0, p1, p2, p3, r1, r2, r3, t1, t2, t3, s1, s2, s3⟩ := idx4 q l.length q0 hl
  go_region_held3 (fun w' => w'.cell? ⟨w.heap.size, 2, none⟩ = some (.slice (some ⟨b, off, none⟩) l.length cap) ∧ w'.cell? ⟨b, off + q, none⟩ = some (.int .u8 y0) ∧ w'.cell? ⟨b, off + (q + 1), none⟩ = some (.int .u8 y1) ∧ w'.cell? ⟨b, off + (q + 2), none⟩ = some (.int .u8 y2) ∧ w'.cell? ⟨b, off + (q + 3), none⟩ = some (.int .u8 y3)) (go_keep) (fail)
  go_wp2
  exact bodyPost_ret (v := colV ⟨y0, y1, y2, y3⟩) (by simp [results, Try.results39, go_sem]) rfl ⟨rfl, by repeat (first | exact Below.refl _ _ | apply Below.drew | (refine Below.setCell ?_ (by simp) _) | (refine Below.alloc ?_ (by simp) _))⟩
end Go.Proofs.Ytkjnheikimpliaa
