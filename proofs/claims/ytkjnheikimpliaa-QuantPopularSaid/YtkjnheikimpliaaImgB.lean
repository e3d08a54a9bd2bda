/- Images: sides, right images, pixels of the program's own. -/
import Derived.Test.YtkjnheikimpliaaImg
namespace Go.Proofs.Ytkjnheikimpliaa
set_option linter.unusedVariables false
set_option linter.unusedSimpArgs false
open Go.RowKit
attribute [local go_sem ↓] Go.wp_at_zero Go.wp_at_succ

def sideB (v : Int) : Bool := decide (1 ≤ v ∧ v ≤ 16384)
theorem sideB_true {v : Int} (h : sideB v = true) : 1 ≤ v ∧ v ≤ 16384 := of_decide_eq_true h
theorem sideB_false {v : Int} (h : sideB v = false) : v < 1 ∨ 16384 < v := by
  have := of_decide_eq_false h; omega
theorem sideB_mk {v : Int} (h : 1 ≤ v ∧ v ≤ 16384) : sideB v = true := decide_eq_true h
theorem sideB_not {v : Int} (h : v < 1 ∨ 16384 < v) : sideB v = false := decide_eq_false (by omega)

set_option maxHeartbeats 400000 in
theorem rside_any (v : Int) (w : World) : Calls Try.prog 135 #[.int .i64 v] w fun e w' => e = .returned (.bool (sideB v)) ∧ w = w' := by
  go_enter Try.func135, Try.ntmps135
  go_wp2
  all_goals go_ret
  · exact ⟨by simp [sideB, *], rfl⟩
  · exact ⟨ret_bool (sideB_not (by omega)).symm, rfl⟩
set_option maxHeartbeats 400000 in
theorem oside_any (v : Int) (w : World) : Calls Try.prog 137 #[.int .i64 v] w fun e w' => e = .returned (.bool (sideB v)) ∧ w = w' := by
  go_enter Try.func137, Try.ntmps137
  go_wp2
  all_goals go_ret
  · exact ⟨by simp [sideB, *], rfl⟩
  · exact ⟨ret_bool (sideB_not (by omega)).symm, rfl⟩

/-- Is it a right image, as a bool? -/
noncomputable def rightB (x y : Int) (n : Nat) : Bool := @decide (rightI x y n) (Classical.propDecidable _)
theorem rightB_mk {x y : Int} {n : Nat} (h : rightI x y n) : rightB x y n = true := by unfold rightB; exact @decide_eq_true _ (Classical.propDecidable _) h
theorem rightB_not {x y : Int} {n : Nat} (h : ¬ rightI x y n) : rightB x y n = false := by unfold rightB; exact @decide_eq_false _ (Classical.propDecidable _) h
theorem rightB_true {x y : Int} {n : Nat} (h : rightB x y n = true) : rightI x y n := by unfold rightB at h; exact @of_decide_eq_true _ (Classical.propDecidable _) h
theorem rightB_false {x y : Int} {n : Nat} (h : rightB x y n = false) : ¬ rightI x y n := by unfold rightB at h; exact @of_decide_eq_false _ (Classical.propDecidable _) h

theorem mul_sides {x y : Int} (h : 1 ≤ x ∧ x ≤ 16384) (k : 1 ≤ y ∧ y ≤ 16384) : 0 ≤ 4 * x * y ∧ 4 * x * y ≤ 1073741824 := by
  have a1 : 0 ≤ 4 * x * y := Int.mul_nonneg (by omega) (by omega)
  have a2 : x * y ≤ 16384 * 16384 := Int.mul_le_mul h.2 k.2 (by omega) (by omega)
  have a3 : 4 * x * y = 4 * (x * y) := Int.mul_assoc 4 x y
  omega

set_option maxHeartbeats 1000000 in
theorem right_any (x y : Int) (A : Option Addr) (n cap : Nat) (w : World) :
    Calls Try.prog 94 #[imgV x y A n cap] w fun e w' => e = .returned (.bool (rightB x y n)) ∧ Below w.heap.size w w' := by
  cases hx : sideB x
  · have hf := hide (rightB_not (n := n) fun (h : rightI x y n) => by rw [sideB_mk h.1] at hx; cases hx)
    go_enter Try.func94, Try.ntmps94
    go_wp2_with (go_at_call 135; (with_reducible refine (rside_any _ _).mono ?_); rintro e w1 ⟨rfl, rfl⟩)
    go_ret
    exact ⟨ret_bool hf.out.symm, (Below.refl _ _).alloc (Nat.le_refl _) _⟩
  cases hy : sideB y
  · have hf := hide (rightB_not (n := n) fun (h : rightI x y n) => by rw [sideB_mk h.2.1] at hy; cases hy)
    go_enter Try.func94, Try.ntmps94
    go_wp2_with (go_at_call 135; (with_reducible refine (rside_any _ _).mono ?_); rintro e w1 ⟨rfl, rfl⟩)
    go_ret
    exact ⟨ret_bool hf.out.symm, (Below.refl _ _).alloc (Nat.le_refl _) _⟩
  have hx' := sideB_true hx
  have hy' := sideB_true hy
  obtain ⟨m0, m1⟩ := mul_sides hx' hy'
  by_cases h : (n : Int) = 4 * x * y
  · have hf := hide (rightB_mk (x := x) (y := y) (n := n) ⟨hx', hy', h⟩)
    have hb : ((n : Int) == 4 * x * y) = true := by simpa using h
    clear h
    go_enter Try.func94, Try.ntmps94
    go_wp2_with (go_at_call 135; (with_reducible refine (rside_any _ _).mono ?_); rintro e w1 ⟨rfl, rfl⟩)
    go_ret
    exact ⟨ret_bool hf.out.symm, (Below.refl _ _).alloc (Nat.le_refl _) _⟩
  · have hf := hide (rightB_not (x := x) (y := y) (n := n) fun k => h k.2.2)
    have hb : ((n : Int) == 4 * x * y) = false := by simpa using h
    clear h
    go_enter Try.func94, Try.ntmps94
    go_wp2_with (go_at_call 135; (with_reducible refine (rside_any _ _).mono ?_); rintro e w1 ⟨rfl, rfl⟩)
    go_ret
    exact ⟨ret_bool hf.out.symm, (Below.refl _ _).alloc (Nat.le_refl _) _⟩

set_option maxHeartbeats 1000000 in
theorem refRight_any (x y : Int) (A : Option Addr) (n cap : Nat) (w : World) :
    Calls Try.prog 36 #[imgV x y A n cap] w fun e w' => e = .returned (.bool (rightB x y n)) ∧ Below w.heap.size w w' := by
  by_cases hx : 1 ≤ x ∧ x ≤ 16384
  · by_cases hy : 1 ≤ y ∧ y ≤ 16384
    · obtain ⟨m0, m1⟩ := mul_sides hx hy
      by_cases h : (n : Int) = 4 * x * y
      · have hf := hide (rightB_mk (x := x) (y := y) (n := n) ⟨hx, hy, h⟩)
        have hb : ((n : Int) == 4 * x * y) = true := by simpa using h
        clear h
        go_enter Try.func36, Try.ntmps36
        go_wp2
        go_ret
        exact ⟨ret_bool hf.out.symm, (Below.refl _ _).alloc (Nat.le_refl _) _⟩
      · have hf := hide (rightB_not (x := x) (y := y) (n := n) fun k => h k.2.2)
        have hb : ((n : Int) == 4 * x * y) = false := by simpa using h
        clear h
        go_enter Try.func36, Try.ntmps36
        go_wp2
        go_ret
        exact ⟨ret_bool hf.out.symm, (Below.refl _ _).alloc (Nat.le_refl _) _⟩
    · have hf := hide (rightB_not (x := x) (y := y) (n := n) fun k => hy k.2.1)
      have hy' : y < 1 ∨ 16384 < y := by omega
      clear hy
      rcases hy' with hy | hy
      all_goals
        go_enter Try.func36, Try.ntmps36
        go_wp2
        go_ret
        exact ⟨ret_bool hf.out.symm, (Below.refl _ _).alloc (Nat.le_refl _) _⟩
  · have hf := hide (rightB_not (x := x) (y := y) (n := n) fun k => hx k.1)
    have hx' : x < 1 ∨ 16384 < x := by omega
    clear hx
    rcases hx' with hx | hx
    all_goals
      go_enter Try.func36, Try.ntmps36
      go_wp2
      go_ret
      exact ⟨ret_bool hf.out.symm, (Below.refl _ _).alloc (Nat.le_refl _) _⟩
end Go.Proofs.Ytkjnheikimpliaa
