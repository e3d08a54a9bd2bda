/- Thresholds. -/
import Derived.Test.YtkjnheikimpliaaMap
import Derived.Test.YtkjnheikimpliaaCol
import Derived.Test.YtkjnheikimpliaaOpsD
namespace Go.Proofs.Ytkjnheikimpliaa
set_option linter.unusedVariables false
set_option linter.unusedSimpArgs false
open Go.RowKit
attribute [local go_sem ↓] Go.wp_at_zero Go.wp_at_succ

/-- The threshold of a place. -/
def thr : Nat → Nat → Int
  | 0, 0 => 7 | 1, 0 => 135 | 2, 0 => 39 | 3, 0 => 167
  | 0, 1 => 199 | 1, 1 => 71 | 2, 1 => 231 | 3, 1 => 103
  | 0, 2 => 55 | 1, 2 => 183 | 2, 2 => 23 | 3, 2 => 151
  | 0, 3 => 247 | 1, 3 => 119 | 2, 3 => 215 | _, _ => 87
theorem thr_bd (x y : Nat) : 0 ≤ thr x y ∧ thr x y ≤ 255 := by
  unfold thr; split <;> omega
theorem tmod_nat (x : Nat) (m : Nat) : (x : Int).tmod (m : Int) = ((x % m : Nat) : Int) := by
  rw [Int.tmod_eq_emod_of_nonneg (by omega)]; simp
theorem tdiv_nat (x : Nat) (m : Nat) : (x : Int).tdiv (m : Int) = ((x / m : Nat) : Int) := by
  rw [Int.tdiv_eq_ediv_of_nonneg (by omega)]; simp
theorem four_cases (x : Nat) : x % 4 = 0 ∨ x % 4 = 1 ∨ x % 4 = 2 ∨ x % 4 = 3 := by omega

set_option maxHeartbeats 4000000 in
theorem threshold_any (x y : Nat) (w : World) : Calls Try.prog 102 #[.int .i64 (x : Int), .int .i64 (y : Int)] w fun e w' => e = .returned (.int .i64 (thr (x % 4) (y % 4))) ∧ Below w.heap.size w w' := by
  have hx := four_cases x
  have hy := four_cases y
  have ex : (x : Int).tmod 4 = ((x % 4 : Nat) : Int) := tmod_nat x 4
  have ey : (y : Int).tmod 4 = ((y % 4 : Nat) : Int) := tmod_nat y 4
  rcases hx with hx | hx | hx | hx <;> rcases hy with hy | hy | hy | hy
  all_goals
    rw [hx] at ex ⊢
    rw [hy] at ey ⊢
    clear hx hy
    go_enter Try.func102, Try.ntmps102
    go_wp2
    go_ret
    exact ⟨rfl, below_alloc w _⟩

def sqN (x y : Nat) : Int := if y = 0 then 2 * (x : Int) else 3 - 2 * (x : Int)
set_option maxHeartbeats 1000000 in
theorem square_any (x y : Nat) (hx : x < 2) (hy : y < 2) (w : World) : Calls Try.prog 103 #[.int .i64 (x : Int), .int .i64 (y : Int)] w fun e w' => e = .returned (.int .i64 (sqN x y)) ∧ w' = w := by
  have hx' : x = 0 ∨ x = 1 := by omega
  have hy' : y = 0 ∨ y = 1 := by omega
  rcases hx' with rfl | rfl <;> rcases hy' with rfl | rfl
  all_goals
    go_enter Try.func103, Try.ntmps103
    go_wp2
    go_ret
    exact ⟨rfl, rfl⟩
theorem thr_sq (x y : Nat) : 16 * (4 * sqN (x % 2) (y % 2) + sqN (x / 2 % 2) (y / 2 % 2)) + 7 = thr (x % 4) (y % 4) := by
  have e1 : x % 2 = x % 4 % 2 := by omega
  have e2 : x / 2 % 2 = x % 4 / 2 := by omega
  have e3 : y % 2 = y % 4 % 2 := by omega
  have e4 : y / 2 % 2 = y % 4 / 2 := by omega
  rw [e1, e2, e3, e4]
  rcases four_cases x with hx | hx | hx | hx <;> rcases four_cases y with hy | hy | hy | hy <;> rw [hx, hy] <;> decide +kernel
theorem sqN_bd (x y : Nat) (hx : x < 2) : 0 ≤ sqN x y ∧ sqN x y ≤ 3 := by unfold sqN; split <;> omega

set_option maxHeartbeats 1000000 in
theorem refThreshold_any (x y : Nat) (hx : x ≤ 16384) (hy : y ≤ 16384) (w : World) : Calls Try.prog 49 #[.int .i64 (x : Int), .int .i64 (y : Int)] w fun e w' => e = .returned (.int .i64 (thr (x % 4) (y % 4))) ∧ w' = w := by
  have hT := thr_sq x y
  have a1 : (x : Int).tmod 2 = ((x % 2 : Nat) : Int) := tmod_nat x 2
  have a2 : (y : Int).tmod 2 = ((y % 2 : Nat) : Int) := tmod_nat y 2
  have a3 : (x : Int).tdiv 2 = ((x / 2 : Nat) : Int) := tdiv_nat x 2
  have a4 : (y : Int).tdiv 2 = ((y / 2 : Nat) : Int) := tdiv_nat y 2
  have a5 : ((x / 2 : Nat) : Int).tmod 2 = ((x / 2 % 2 : Nat) : Int) := tmod_nat _ 2
  have a6 : ((y / 2 : Nat) : Int).tmod 2 = ((y / 2 % 2 : Nat) : Int) := tmod_nat _ 2
  have b3 : x / 2 ≤ x := Nat.div_le_self _ _
  have b4 : y / 2 ≤ y := Nat.div_le_self _ _
  have b1 : x % 2 < 2 := Nat.mod_lt _ (by decide)
  have b2 : y % 2 < 2 := Nat.mod_lt _ (by decide)
  have b5 : x / 2 % 2 < 2 := Nat.mod_lt _ (by decide)
  have b6 : y / 2 % 2 < 2 := Nat.mod_lt _ (by decide)
  generalize x / 2 % 2 = p3 at hT a5 b5
  generalize y / 2 % 2 = p4 at hT a6 b6
  generalize x % 2 = p1 at hT a1 b1
  generalize y % 2 = p2 at hT a2 b2
  generalize x / 2 = x2 at a3 a5 b3
  generalize y / 2 = y2 at a4 a6 b4
  have K1 := hide (square_any p1 p2 b1 b2)
  have K2 := hide (square_any p3 p4 b5 b6)
  have h1 := sqN_bd p1 p2 b1
  have h2 := sqN_bd p3 p4 b5
  generalize sqN p1 p2 = s1 at hT K1 h1
  generalize sqN p3 p4 = s2 at hT K2 h2
  rw [← hT]
  clear hT
  go_enter Try.func49, Try.ntmps49
  go_wp2_with (first | (go_at_call 103; (with_reducible refine (K1.out _).mono ?_); rintro e w1 ⟨rfl, rfl⟩) | (go_at_call 103; (with_reducible refine (K2.out _).mono ?_); rintro e w1 ⟨rfl, rfl⟩))
  go_ret
  exact ⟨rfl, rfl⟩
end Go.Proofs.Ytkjnheikimpliaa
