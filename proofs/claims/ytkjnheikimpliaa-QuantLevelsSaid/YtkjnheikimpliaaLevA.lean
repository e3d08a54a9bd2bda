/- Levels: of a channel, of a colour. -/
import Derived.Test.YtkjnheikimpliaaDithC
namespace Go.Proofs.Ytkjnheikimpliaa
set_option linter.unusedVariables false
set_option linter.unusedSimpArgs false
open Go.RowKit
attribute [local go_sem ↓] Go.wp_at_zero Go.wp_at_succ

def levK (v n : Int) : Int := (2 * v * (n - 1) + 255) / 510
/-- The level of a channel. -/
def lev (v n : Int) : Int := (2 * levK v n * 255 + n - 1) / (2 * (n - 1))
theorem lev_prod {v n : Int} (hv : 0 ≤ v ∧ v ≤ 255) (hn : 2 ≤ n ∧ n ≤ 256) : 0 ≤ 2 * v * (n - 1) ∧ 2 * v * (n - 1) ≤ 510 * (n - 1) := by
  have h1 : 0 ≤ 2 * v * (n - 1) := Int.mul_nonneg (by omega) (by omega)
  have h2 : 2 * v * (n - 1) ≤ 510 * (n - 1) := Int.mul_le_mul_of_nonneg_right (by omega) (by omega)
  exact ⟨h1, h2⟩
theorem levK_bd {v n : Int} (hv : 0 ≤ v ∧ v ≤ 255) (hn : 2 ≤ n ∧ n ≤ 256) : 0 ≤ levK v n ∧ levK v n ≤ n - 1 := by
  obtain ⟨h1, h2⟩ := lev_prod hv hn
  unfold levK
  omega
theorem lev_spec {k n : Int} (hn : 2 ≤ n ∧ n ≤ 256) : (n - 1) * ((2 * k * 255 + n - 1) / (2 * (n - 1))) * 2 ≤ 510 * k + (n - 1) ∧ 510 * k + (n - 1) < (n - 1) * ((2 * k * 255 + n - 1) / (2 * (n - 1))) * 2 + 2 * (n - 1) := by
  have hp : (0 : Int) < 2 * (n - 1) := by omega
  have h1 := Int.ediv_mul_le (2 * k * 255 + n - 1) (show (2 * (n - 1) : Int) ≠ 0 by omega)
  have h2 := Int.lt_ediv_add_one_mul_self (2 * k * 255 + n - 1) hp
  generalize (2 * k * 255 + n - 1) / (2 * (n - 1)) = w at h1 h2
  have e : w * (2 * (n - 1)) = (n - 1) * w * 2 := by rw [← Int.mul_assoc, Int.mul_comm w 2, Int.mul_assoc, Int.mul_comm w, Int.mul_comm 2]
  have e2 : (w + 1) * (2 * (n - 1)) = (n - 1) * w * 2 + 2 * (n - 1) := by rw [Int.add_mul, e]; omega
  rw [e] at h1
  rw [e2] at h2
  omega
theorem lev_bd {v n : Int} (hv : 0 ≤ v ∧ v ≤ 255) (hn : 2 ≤ n ∧ n ≤ 256) : 0 ≤ lev v n ∧ lev v n ≤ 255 := by
  obtain ⟨h1, h2⟩ := levK_bd hv hn
  unfold lev
  constructor
  · exact Int.ediv_nonneg (by omega) (by omega)
  · have h3 := (lev_spec (k := levK v n) hn).1
    generalize (2 * levK v n * 255 + n - 1) / (2 * (n - 1)) = w at h3
    have h4 : (n - 1) * w < (n - 1) * 256 := by omega
    have := Int.lt_of_mul_lt_mul_left h4 (by omega)
    omega
theorem lev_lev {v n : Int} (hv : 0 ≤ v ∧ v ≤ 255) (hn : 2 ≤ n ∧ n ≤ 256) : lev (lev v n) n = lev v n := by
  have hk : levK (lev v n) n = levK v n := by
    obtain ⟨h3, h4⟩ := lev_spec (k := levK v n) hn
    obtain ⟨h5, h6⟩ := lev_bd hv hn
    show (2 * lev v n * (n - 1) + 255) / 510 = levK v n
    have e : (2 * levK v n * 255 + n - 1) / (2 * (n - 1)) = lev v n := rfl
    rw [e] at h3 h4
    have e2 : 2 * lev v n * (n - 1) = (n - 1) * lev v n * 2 := by rw [Int.mul_comm, Int.mul_comm 2, Int.mul_assoc]
    rw [e2]
    by_cases hm : n = 256
    · rw [hm] at h3 h4 ⊢
      omega
    · omega
  show (2 * levK (lev v n) n * 255 + n - 1) / (2 * (n - 1)) = (2 * levK v n * 255 + n - 1) / (2 * (n - 1))
  rw [hk]

/-- The facts that a walk of a level wants. -/
theorem lev_walk {v n : Int} (hv : 0 ≤ v ∧ v ≤ 255) (hn : 2 ≤ n ∧ n ≤ 256) : ∃ P k q : Int, 2 * v * (n - 1) = P ∧ (0 ≤ P ∧ P ≤ 130050) ∧ (P + 255).tdiv 510 = k ∧ (0 ≤ k ∧ k ≤ 255) ∧ (2 * k * 255 + n - 1).tdiv (2 * (n - 1)) = q ∧ (0 ≤ q ∧ q ≤ 255) ∧ lev v n = q := by
  obtain ⟨h1, h2⟩ := lev_prod hv hn
  obtain ⟨h3, h4⟩ := levK_bd hv hn
  refine ⟨_, levK v n, lev v n, rfl, ⟨h1, by omega⟩, ?_, ⟨h3, by omega⟩, ?_, lev_bd hv hn, rfl⟩
  · rw [Int.tdiv_eq_ediv_of_nonneg (by omega)]; rfl
  · rw [Int.tdiv_eq_ediv_of_nonneg (by omega)]; rfl

set_option maxHeartbeats 1000000 in
theorem refLevel_any (v n : Int) (hv : 0 ≤ v ∧ v ≤ 255) (hn : 2 ≤ n ∧ n ≤ 256) (w : World) : Calls Try.prog 67 #[.int .u8 v, .int .i64 n] w fun e w' => e = .returned (.int .u8 (lev v n)) ∧ w' = w := by
  obtain ⟨P, k, q, e1, b1, e2, b2, e3, b3, e4⟩ := lev_walk hv hn
  rw [e4]
  clear e4
  go_enter Try.func67, Try.ntmps67
  go_wp2
  go_ret
  exact ⟨rfl, rfl⟩
set_option maxHeartbeats 1000000 in
theorem lev1_any (v n : Int) (hv : 0 ≤ v ∧ v ≤ 255) (hn : 2 ≤ n ∧ n ≤ 256) (g : Nat) (w : World) (hc : w.cell? ⟨g, 0, none⟩ = some (.int .i64 n)) : Calls Try.prog 116 #[.int .u8 v, .pointer (some ⟨g, 0, none⟩)] w fun e w' => e = .returned (.int .u8 (lev v n)) ∧ w' = w := by
  obtain ⟨P, k, q, e1, b1, e2, b2, e3, b3, e4⟩ := lev_walk hv hn
  rw [e4]
  clear e4
  go_enter Try.func116, Try.ntmps116
  go_wp2
  go_ret
  exact ⟨rfl, rfl⟩
end Go.Proofs.Ytkjnheikimpliaa
