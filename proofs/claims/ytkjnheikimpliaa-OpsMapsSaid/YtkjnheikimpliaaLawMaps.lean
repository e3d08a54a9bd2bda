/- The law OpsMaps: what is let pass; the image of one colour. -/
import Derived.Test.YtkjnheikimpliaaMapsA
import Derived.Test.YtkjnheikimpliaaLawDithB
namespace Go.Proofs.Ytkjnheikimpliaa
set_option linter.unusedVariables false
set_option linter.unusedSimpArgs false
open Go.RowKit
attribute [local go_sem ↓] Go.wp_at_zero Go.wp_at_succ

set_option maxRecDepth 100000 in
set_option maxHeartbeats 2000000 in
theorem maps_awake (x y : Int) (A : Option Addr) (n cap : Nat) (a b : Int) (c : Col) (w : World) (h : 600 < n ∨ (¬ 600 < n ∧ 40 < a ∧ a ≤ 16384) ∨ (¬ 600 < n ∧ a ≤ 40 ∧ 40 < b ∧ b ≤ 16384) ∨ (¬ 600 < n ∧ 40 < a ∧ 16384 < a ∧ 40 < b ∧ b ≤ 16384)) :
    Calls Try.prog 11 #[imgV x y A n cap, .int .i64 a, .int .i64 b, colV c] w fun e w' => e = .returned (.bool true) ∧ Below w.heap.size w w' := by
  obtain ⟨y0, y1, y2, y3⟩ := c
  rcases h with h | ⟨h, h1, h2⟩ | ⟨h, h1, h2, h3⟩ | ⟨h, h0, h1, h2, h3⟩
  · have K1 := hide (big_yes h x y A cap)
    clear h
    go_enter Try.func11, Try.ntmps11
    go_wp2_with (first | (go_at_call 50; (with_reducible refine (K1.out _).mono ?_); rintro e w1 ⟨rfl, hb1⟩; obtain ⟨B1, B2, hz, HW⟩ := own2 hb1; clear hb1) | (go_at_call 51; (with_reducible refine (awake34 _).mono ?_); rintro e w2 ⟨rfl, hb2⟩))
    go_ret
    exact ⟨rfl, bstep HW hb2⟩
  all_goals
    have K1 := hide (big_no h x y A cap)
    clear h
    go_enter Try.func11, Try.ntmps11
    go_wp2_with (first | (go_at_call 50; (with_reducible refine (K1.out _).mono ?_); rintro e w1 ⟨rfl, hb1⟩; obtain ⟨B1, B2, hz, HW⟩ := own2 hb1; clear hb1) | (go_at_call 51; (with_reducible refine (awake34 _).mono ?_); rintro e w2 ⟨rfl, hb2⟩))
    go_ret
    exact ⟨rfl, bstep HW hb2⟩

/-- What Fill hands back. -/
def FillR (w : World) (a b : Int) (c : Col) (fx fy : Int) (A : Option Addr) (n cap : Nat) (err : Int) (w' : World) : Prop :=
  (∃ (W H : Nat) (l : List Int), (1 ≤ W ∧ W ≤ 40) ∧ (1 ≤ H ∧ H ≤ 40) ∧ a = W ∧ b = H ∧ fx = W ∧ fy = H ∧ n = l.length ∧ err = 0 ∧ rightI W H l.length ∧ (∀ x y, x < W → y < H → imgPx l W x y = c) ∧ RowAt w' w'.heap.size .u8 A l) ∨
  ((a < 1 ∨ (1 ≤ a ∧ 16384 < a) ∨ ((1 ≤ a ∧ a ≤ 16384) ∧ b < 1) ∨ ((1 ≤ a ∧ a ≤ 16384) ∧ 1 ≤ b ∧ 16384 < b)) ∧ fx = 0 ∧ fy = 0 ∧ A = none ∧ n = 0 ∧ cap = 0 ∧ err = 11)
theorem fill_any (a b : Int) (c : Col) (ha : a ≤ 40 ∨ 16384 < a) (hb : b ≤ 40 ∨ 16384 < b) (w : World) :
    Calls Try.prog 58 #[.int .i64 a, .int .i64 b, colV c] w fun e w' => ∃ fx fy A n cap err, e = .returned (.tuple #[imgV fx fy A n cap, .int .i64 err]) ∧ FillR w a b c fx fy A n cap err w' ∧ Below w.heap.size w w' := by
  by_cases h : (1 ≤ a ∧ a ≤ 40) ∧ 1 ≤ b ∧ b ≤ 40
  · obtain ⟨W, rfl⟩ := Int.eq_ofNat_of_zero_le (show 0 ≤ a by omega)
    obtain ⟨H, rfl⟩ := Int.eq_ofNat_of_zero_le (show 0 ≤ b by omega)
    refine (fill_yes W H c (by omega) (by omega) w).mono ?_
    rintro e w' ⟨A', cap', rfl, him, hb⟩
    refine ⟨_, _, _, _, _, _, rfl, .inl ⟨W, H, _, by omega, by omega, rfl, rfl, rfl, rfl, rfl, rfl, ?_, fun x y hx hy => ?_, him.row⟩, hb⟩
    · rw [pxs_grid]; exact right_grid _ (by omega) (by omega)
    · rw [pxs_grid, img_grid _ hx hy]
  · refine (fill_no a b c (by omega) w).mono ?_
    rintro e w' ⟨rfl, hb⟩
    exact ⟨_, _, _, _, _, _, rfl, .inr ⟨by omega, rfl, rfl, rfl, rfl, rfl, rfl⟩, hb⟩
end Go.Proofs.Ytkjnheikimpliaa
