/- The law OpsFrames, where no frame is told. -/
import Derived.Test.YtkjnheikimpliaaFrameB
namespace Go.Proofs.Ytkjnheikimpliaa
set_option linter.unusedVariables false
set_option linter.unusedSimpArgs false
open Go.RowKit
attribute [local go_sem ↓] Go.wp_at_zero Go.wp_at_succ

theorem small_any (n : Int) (w : World) : Calls Try.prog 72 #[.int .i64 n] w fun e w' => e = .returned (.bool (decide (n ≤ 20))) ∧ w = w' := by
  go_enter Try.func72, Try.ntmps72
  go_wp2
  go_ret
  exact ⟨rfl, rfl⟩
theorem small_yes (n : Int) (h : n ≤ 20) (w : World) : Calls Try.prog 72 #[.int .i64 n] w fun e w' => e = .returned (.bool true) ∧ w = w' :=
  (small_any n w).mono (by rintro e w' ⟨rfl, hb⟩; rw [decide_eq_true h]; exact ⟨rfl, hb⟩)
theorem small_no (n : Int) (h : 20 < n) (w : World) : Calls Try.prog 72 #[.int .i64 n] w fun e w' => e = .returned (.bool false) ∧ w = w' :=
  (small_any n w).mono (by rintro e w' ⟨rfl, hb⟩; rw [decide_eq_false (by omega)]; exact ⟨rfl, hb⟩)

set_option maxRecDepth 100000 in
set_option maxHeartbeats 4000000 in
theorem frames_big (x y : Int) (A : Option Addr) (n cap : Nat) (a b c d : Int) (u : Col) (w : World) (h : 600 < n) :
    Calls Try.prog 16 #[imgV x y A n cap, .int .i64 a, .int .i64 b, .int .i64 c, .int .i64 d, colV u] w fun e w' => e = .returned (.bool true) ∧ Below w.heap.size w w' := by
  have K1 := hide (big_yes h x y A cap)
  obtain ⟨y0, y1, y2, y3⟩ := u
  clear h
  go_enter Try.func16, Try.ntmps16
  go_wp2_with (first | (go_at_call 50; (with_reducible refine (K1.out _).mono ?_); rintro e w1 ⟨rfl, hb1⟩) | (go_at_call 51; (with_reducible refine (awake34 _).mono ?_); rintro e w2 ⟨rfl, hb2⟩))
  go_ret
  exact ⟨rfl, bstep (bstep (balloc (below_alloc w _) _) hb1) hb2⟩

set_option maxRecDepth 100000 in
set_option maxHeartbeats 4000000 in
theorem frames_no (x y : Int) (A : Option Addr) (n cap : Nat) (a b c d : Int) (u : Col) (w : World) (h : ¬ 600 < n) (hR : ¬ rightI x y n) :
    Calls Try.prog 16 #[imgV x y A n cap, .int .i64 a, .int .i64 b, .int .i64 c, .int .i64 d, colV u] w fun e w' => e = .returned (.bool true) ∧ Below w.heap.size w w' := by
  have K1 := hide (big_no h x y A cap)
  have K2 := hide fun w' => frame_no hR A cap a b c d u w'
  have K3 := hide (refRight_no hR A cap)
  unfold Refused at K2
  obtain ⟨y0, y1, y2, y3⟩ := u
  clear h hR
  go_enter Try.func16, Try.ntmps16
  go_wp2_with (first | (go_at_call 50; (with_reducible refine (K1.out _).mono ?_); rintro e w1 ⟨rfl, hb1⟩; obtain ⟨B1, B2, hz, HW⟩ := own2 hb1; obtain ⟨m0, m1, m2, -⟩ := blk3 B1; obtain ⟨u0, u1, u2, u3, -⟩ := blk4 B2; clear hb1) | (go_at_call 36; (with_reducible refine (K3.out _).mono ?_); rintro e w2 ⟨rfl, hb2⟩; have C1 := B1.below hb2 B1.lt; have C2 := B2.below hb2 B2.lt; obtain ⟨m0, m1, m2, -⟩ := blk3 C1; obtain ⟨u0, u1, u2, u3, -⟩ := blk4 C2; have HW2 := bstep HW hb2; clear hb2 B1 B2 HW) | (go_at_call 73; (with_reducible refine (K2.out _).mono ?_); rintro e w3 ⟨rfl, hb3⟩; have D1 := C1.below hb3 C1.lt; obtain ⟨m0, m1, m2, -⟩ := blk3x D1; have HW3 := bstep HW2 hb3; clear hb3 C1 C2 HW2) | (go_at_call 36; (with_reducible refine (K3.out _).mono ?_); rintro e w4 ⟨rfl, hb4⟩; obtain ⟨E1, hz4, HW4'⟩ := own1 hb4; obtain ⟨p0, p1, p2, -⟩ := blk3 E1; have HW4 := bstep HW3 HW4'; clear hb4) | (go_at_call 51; (with_reducible refine (awake34 _).mono ?_); rintro e w5 ⟨rfl, hb5⟩) | (go_at_call 53; (with_reducible refine (none_true _ _).mono ?_); rintro e w6 ⟨rfl, hb6⟩))
  go_ret
  exact ⟨rfl, bstep (bstep HW4 hb6) hb5⟩

set_option maxRecDepth 100000 in
set_option maxHeartbeats 8000000 in
theorem frames_wide (x y : Int) (A : Option Addr) (n cap : Nat) (a b c d : Int) (u : Col) (w : World) (h : ¬ 600 < n) (hR : rightI x y n) (ho : 20 < a ∨ (a ≤ 20 ∧ 20 < b) ∨ (a ≤ 20 ∧ b ≤ 20 ∧ 20 < c) ∨ (a ≤ 20 ∧ b ≤ 20 ∧ c ≤ 20 ∧ 20 < d)) :
    Calls Try.prog 16 #[imgV x y A n cap, .int .i64 a, .int .i64 b, .int .i64 c, .int .i64 d, colV u] w fun e w' => e = .returned (.bool true) ∧ Below w.heap.size w w' := by
  have K1 := hide (big_no h x y A cap)
  have K3 := hide (refRight_yes hR A cap)
  have KT := hide small_yes
  have KF := hide small_no
  obtain ⟨y0, y1, y2, y3⟩ := u
  clear h hR
  rcases ho with h1 | ⟨h1, h2⟩ | ⟨h1, h2, h3⟩ | ⟨h1, h2, h3, h4⟩
  all_goals
    go_enter Try.func16, Try.ntmps16
    go_wp2_with (first | (go_at_call 50; (with_reducible refine (K1.out _).mono ?_); rintro e w1 ⟨rfl, hb1⟩; obtain ⟨B1, B2, hz, HW⟩ := own2 hb1; obtain ⟨m0, m1, m2, -⟩ := blk3 B1; clear hb1) | (go_at_call 36; (with_reducible refine (K3.out _).mono ?_); rintro e w2 ⟨rfl, hb2⟩; have HW2 := bstep HW hb2; clear hb2) | (go_at_call 72; (with_reducible refine (KT.out _ (by omega) _).mono ?_); rintro e w5 ⟨rfl, rfl⟩) | (go_at_call 72; (with_reducible refine (KF.out _ (by omega) _).mono ?_); rintro e w5 ⟨rfl, rfl⟩) | (go_at_call 51; (with_reducible refine (awake34 _).mono ?_); rintro e w6 ⟨rfl, hb6⟩))
    go_ret
    exact ⟨rfl, bstep HW2 hb6⟩

set_option maxRecDepth 100000 in
set_option maxHeartbeats 8000000 in
theorem frames_neg (x y : Int) (A : Option Addr) (n cap : Nat) (a b c d : Int) (u : Col) (w : World) (h : ¬ 600 < n) (hR : rightI x y n) (hs : a ≤ 20 ∧ b ≤ 20 ∧ c ≤ 20 ∧ d ≤ 20) (ho : a < 0 ∨ (0 ≤ a ∧ b < 0) ∨ (0 ≤ a ∧ 0 ≤ b ∧ c < 0) ∨ (0 ≤ a ∧ 0 ≤ b ∧ 0 ≤ c ∧ d < 0)) :
    Calls Try.prog 16 #[imgV x y A n cap, .int .i64 a, .int .i64 b, .int .i64 c, .int .i64 d, colV u] w fun e w' => e = .returned (.bool true) ∧ Below w.heap.size w w' := by
  have K1 := hide (big_no h x y A cap)
  have K2 := hide fun w' => frame_range hR A cap a b c d (by omega) u w'
  have K3 := hide (refRight_yes hR A cap)
  have KT := hide small_yes
  unfold Refused at K2
  obtain ⟨y0, y1, y2, y3⟩ := u
  obtain ⟨s1, s2, s3, s4⟩ := hs
  clear h hR
  rcases ho with h1 | ⟨h1, h2⟩ | ⟨h1, h2, h3⟩ | ⟨h1, h2, h3, h4⟩
  all_goals
    go_enter Try.func16, Try.ntmps16
    go_wp2_with (first | (go_at_call 50; (with_reducible refine (K1.out _).mono ?_); rintro e w1 ⟨rfl, hb1⟩; obtain ⟨B1, B2, hz, HW⟩ := own2 hb1; obtain ⟨m0, m1, m2, -⟩ := blk3 B1; obtain ⟨u0, u1, u2, u3, -⟩ := blk4 B2; clear hb1) | (go_at_call 36; (with_reducible refine (K3.out _).mono ?_); rintro e w2 ⟨rfl, hb2⟩; have C1 := B1.below hb2 B1.lt; have C2 := B2.below hb2 B2.lt; obtain ⟨m0, m1, m2, -⟩ := blk3 C1; obtain ⟨u0, u1, u2, u3, -⟩ := blk4 C2; have HW2 := bstep HW hb2; clear hb2 B1 B2 HW) | (go_at_call 72; (with_reducible refine (KT.out _ (by omega) _).mono ?_); rintro e w7 ⟨rfl, rfl⟩) | (go_at_call 73; (with_reducible refine (K2.out _).mono ?_); rintro e w3 ⟨rfl, hb3⟩; have D1 := C1.below hb3 C1.lt; obtain ⟨m0, m1, m2, -⟩ := blk3x D1; have HW3 := bstep HW2 hb3; clear hb3 C1 C2 HW2) | (go_at_call 36; (with_reducible refine (K3.out _).mono ?_); rintro e w4 ⟨rfl, hb4⟩; obtain ⟨E1, hz4, HW4'⟩ := own1 hb4; obtain ⟨p0, p1, p2, -⟩ := blk3 E1; have HW4 := bstep HW3 HW4'; clear hb4) | (go_at_call 51; (with_reducible refine (awake34 _).mono ?_); rintro e w5 ⟨rfl, hb5⟩) | (go_at_call 53; (with_reducible refine (none_true _ _).mono ?_); rintro e w6 ⟨rfl, hb6⟩))
    go_ret
    exact ⟨rfl, bstep (bstep HW4 hb6) hb5⟩
end Go.Proofs.Ytkjnheikimpliaa
