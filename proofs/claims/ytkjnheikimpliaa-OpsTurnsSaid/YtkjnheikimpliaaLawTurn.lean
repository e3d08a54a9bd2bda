/- The law OpsTurns: walked. -/
import Derived.Test.YtkjnheikimpliaaTurnA
import Derived.Test.YtkjnheikimpliaaLawSize
namespace Go.Proofs.Ytkjnheikimpliaa
set_option linter.unusedVariables false
set_option linter.unusedSimpArgs false
open Go.RowKit
attribute [local go_sem ↓] Go.wp_at_zero Go.wp_at_succ

set_option maxRecDepth 100000 in
set_option maxHeartbeats 4000000 in
theorem turns_big (x y : Int) (A : Option Addr) (n cap : Nat) (k : Int) (w : World) (h : 600 < n) :
    Calls Try.prog 13 #[imgV x y A n cap, .int .i64 k] w fun e w' => e = .returned (.bool true) ∧ Below w.heap.size w w' := by
  have K1 := hide (big_yes h x y A cap)
  clear h
  go_enter Try.func13, Try.ntmps13
  go_wp2_with (first | (go_at_call 50; (with_reducible refine (K1.out _).mono ?_); rintro e w1 ⟨rfl, hb1⟩) | (go_at_call 51; (with_reducible refine (awake34 _).mono ?_); rintro e w2 ⟨rfl, hb2⟩))
  go_ret
  exact ⟨rfl, bstep (bstep (below_alloc w _) hb1) hb2⟩

set_option maxRecDepth 100000 in
set_option maxHeartbeats 8000000 in
theorem turns_no (x y : Int) (A : Option Addr) (n cap : Nat) (k : Int) (w : World) (h : ¬ 600 < n) (hR : ¬ rightI x y n) :
    Calls Try.prog 13 #[imgV x y A n cap, .int .i64 k] w fun e w' => e = .returned (.bool true) ∧ Below w.heap.size w w' := by
  have K1 := hide (big_no h x y A cap)
  have K2 := hide fun w' => turn_no x y A n cap k w' hR
  have K3 := hide fun w' => flipRows_no x y A n cap w' hR
  have K4 := hide fun w' => flipColumns_no x y A n cap w' hR
  have K5 := hide (refRight_no hR A cap)
  unfold Refused at K2 K3 K4
  clear h hR
  go_enter Try.func13, Try.ntmps13
  go_wp2_with (first | (go_at_call 50; (with_reducible refine (K1.out _).mono ?_); rintro e w1 ⟨rfl, hb1⟩; obtain ⟨B1, hz, HW⟩ := own1 hb1; obtain ⟨m0, m1, m2, -⟩ := blk3 B1; clear hb1) | (go_at_call 61; (with_reducible refine (K2.out _).mono ?_); rintro e w2 ⟨rfl, hb2⟩; have B2 := B1.below hb2 hz; obtain ⟨n0, n1, n2, -⟩ := blk3x B2; have HW2 := bstep HW hb2; have hz2 := B2.lt; clear hb2) | (go_at_call 62; (with_reducible refine (K3.out _).mono ?_); rintro e w3 ⟨rfl, hb3⟩; obtain ⟨C1, hz3, HX3⟩ := own1 hb3; have B3 := B2.below HX3 hz2; obtain ⟨p0, p1, p2, -⟩ := blk3x B3; have HW3 := bstep HW2 HX3; have hz3' := B3.lt; clear hb3) | (go_at_call 63; (with_reducible refine (K4.out _).mono ?_); rintro e w4 ⟨rfl, hb4⟩; obtain ⟨D1, hz4, HX4⟩ := own1 hb4; have B4 := B3.below HX4 hz3'; have C4 := C1.below HX4 hz3; obtain ⟨q0, q1, q2, -⟩ := blk3x B4; have HW4 := bstep HW3 HX4; have hz4' := B4.lt; clear hb4) | (go_at_call 36; (with_reducible refine (K5.out _).mono ?_); rintro e w5 ⟨rfl, hb5⟩; obtain ⟨E1, hz5, HX5⟩ := own1 hb5; have C5 := C4.below HX5 C4.lt; have D5 := D1.below HX5 hz4; obtain ⟨r0, r1, r2, -⟩ := blk3 C5; obtain ⟨s0, s1, s2, -⟩ := blk3 D5; obtain ⟨t0, t1, t2, -⟩ := blk3 E1; have HW5 := bstep HW4 HX5; have z1 := C5.lt; have z2 := D5.lt; clear hb5) | (go_at_call 53; (with_reducible refine (none_true _ _).mono ?_); rintro e w6 ⟨rfl, hb6⟩; have HW6 := bstep HW5 hb6; obtain ⟨u0, u1, u2, -⟩ := blk3 (D5.below hb6 z2); have E6 := E1.below hb6 hz5; obtain ⟨v0, v1, v2, -⟩ := blk3 E6; have D6 := D5.below hb6 z2; have z3 := D6.lt; have z4 := E6.lt; clear HW5) | (go_at_call 53; (with_reducible refine (none_true _ _).mono ?_); rintro e w7 ⟨rfl, hb7⟩; have HW7 := bstep HW6 hb7; have E7 := E6.below hb7 z4; obtain ⟨y0, y1, y2, -⟩ := blk3 E7; clear HW6) | (go_at_call 53; (with_reducible refine (none_true _ _).mono ?_); rintro e w8 ⟨rfl, hb8⟩; have HW8 := bstep HW7 hb8) | (go_at_call 51; (with_reducible refine (awake34 _).mono ?_); rintro e w9 ⟨rfl, hb9⟩))
  go_ret
  exact ⟨rfl, bstep HW8 hb9⟩
end Go.Proofs.Ytkjnheikimpliaa
