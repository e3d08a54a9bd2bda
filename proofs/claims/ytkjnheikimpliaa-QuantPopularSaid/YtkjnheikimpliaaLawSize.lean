/- The law OpsSizes: walked. -/
import Derived.Test.YtkjnheikimpliaaLawCropB
import Derived.Test.YtkjnheikimpliaaOpsE
namespace Go.Proofs.Ytkjnheikimpliaa
set_option linter.unusedVariables false
set_option linter.unusedSimpArgs false
open Go.RowKit
attribute [local go_sem ↓] Go.wp_at_zero Go.wp_at_succ

theorem blk3x {w : World} {g : Nat} {t : TypeId} {a b c : Value} (h : Blk w g t #[a, b, c]) : (∀ o, (w.alloc o).cell? ⟨g, 0, none⟩ = some a) ∧ (∀ o, (w.alloc o).cell? ⟨g, 1, none⟩ = some b) ∧ (∀ o, (w.alloc o).cell? ⟨g, 2, none⟩ = some c) ∧ True :=
  ⟨fun o => (h.alloc o).cell 0, fun o => (h.alloc o).cell 1, fun o => (h.alloc o).cell 2, trivial⟩

set_option maxRecDepth 100000 in
set_option maxHeartbeats 4000000 in
theorem sizes_big (x y : Int) (A : Option Addr) (n cap : Nat) (a b : Int) (w : World) (h : 600 < n) :
    Calls Try.prog 10 #[imgV x y A n cap, .int .i64 a, .int .i64 b] w fun e w' => e = .returned (.bool true) ∧ Below w.heap.size w w' := by
  have K1 := hide (big_yes h x y A cap)
  clear h
  go_enter Try.func10, Try.ntmps10
  go_wp2_with (first | (go_at_call 50; (with_reducible refine (K1.out _).mono ?_); rintro e w1 ⟨rfl, hb1⟩) | (go_at_call 51; (with_reducible refine (awake34 _).mono ?_); rintro e w2 ⟨rfl, hb2⟩))
  go_ret
  exact ⟨rfl, bstep (bstep (below_alloc w _) hb1) hb2⟩

set_option maxRecDepth 100000 in
set_option maxHeartbeats 8000000 in
theorem sizes_wide (x y : Int) (A : Option Addr) (n cap : Nat) (a b : Int) (w : World) (h : ¬ 600 < n) (hR : rightI x y n) (hw : (40 < a ∧ a ≤ 16384) ∨ (40 < b ∧ b ≤ 16384)) :
    Calls Try.prog 10 #[imgV x y A n cap, .int .i64 a, .int .i64 b] w fun e w' => e = .returned (.bool true) ∧ Below w.heap.size w w' := by
  have K1 := hide (big_no h x y A cap)
  have K3 := hide (refRight_yes hR A cap)
  have hw' : (40 < a ∧ a ≤ 16384) ∨ (a ≤ 40 ∧ 40 < b ∧ b ≤ 16384) ∨ (16384 < a ∧ 40 < a ∧ 40 < b ∧ b ≤ 16384) := by omega
  clear h hR hw
  rcases hw' with ⟨h1, h2⟩ | ⟨h1, h2, h3⟩ | ⟨h1, h2, h3, h4⟩
  all_goals
    go_enter Try.func10, Try.ntmps10
    go_wp2_with (first | (go_at_call 50; (with_reducible refine (K1.out _).mono ?_); rintro e w1 ⟨rfl, hb1⟩; obtain ⟨B1, hz, HW⟩ := own1 hb1; obtain ⟨m0, m1, m2, -⟩ := blk3 B1; clear hb1) | (go_at_call 36; (with_reducible refine (K3.out _).mono ?_); rintro e w2 ⟨rfl, hb2⟩) | (go_at_call 51; (with_reducible refine (awake34 _).mono ?_); rintro e w3 ⟨rfl, hb3⟩))
    go_ret
    exact ⟨rfl, bstep (bstep HW hb2) hb3⟩

set_option maxRecDepth 100000 in
set_option maxHeartbeats 8000000 in
theorem sizes_no (x y : Int) (A : Option Addr) (n cap : Nat) (a b : Int) (w : World) (h : ¬ 600 < n) (hR : ¬ rightI x y n) :
    Calls Try.prog 10 #[imgV x y A n cap, .int .i64 a, .int .i64 b] w fun e w' => e = .returned (.bool true) ∧ Below w.heap.size w w' := by
  have K1 := hide (big_no h x y A cap)
  have K2 := hide fun w' => resize_no x y A n cap a b w' hR
  have K3 := hide (refRight_no hR A cap)
  unfold Refused at K2
  clear h hR
  go_enter Try.func10, Try.ntmps10
  go_wp2_with (first | (go_at_call 50; (with_reducible refine (K1.out _).mono ?_); rintro e w1 ⟨rfl, hb1⟩; obtain ⟨B1, hz, HW⟩ := own1 hb1; obtain ⟨m0, m1, m2, -⟩ := blk3 B1; clear hb1) | (go_at_call 36; (with_reducible refine (K3.out _).mono ?_); rintro e w2 ⟨rfl, hb2⟩; have B2 := B1.below hb2 hz; obtain ⟨n0, n1, n2, -⟩ := blk3 B2; have HW2 := bstep HW hb2; have hz2 := B2.lt; clear hb2 B1) | (go_at_call 52; (with_reducible refine (K2.out _).mono ?_); rintro e w3 ⟨rfl, hb3⟩; have B3 := B2.below hb3 hz2; obtain ⟨p0, p1, p2, -⟩ := blk3x B3; have HW3 := bstep HW2 hb3; have hz3 := B3.lt; clear hb3) | (go_at_call 36; (with_reducible refine (K3.out _).mono ?_); rintro e w4 ⟨rfl, hb4⟩; obtain ⟨B5, hz5, HW5⟩ := own1 hb4; obtain ⟨q0, q1, q2, -⟩ := blk3 B5; have HW4 := bstep HW3 HW5; clear hb4) | (go_at_call 53; (with_reducible refine (none_true _ _).mono ?_); rintro e w5 ⟨rfl, hb5⟩) | (go_at_call 51; (with_reducible refine (awake34 _).mono ?_); rintro e w6 ⟨rfl, hb6⟩))
  go_ret
  exact ⟨rfl, bstep (bstep HW4 hb5) hb6⟩

set_option maxRecDepth 100000 in
set_option maxHeartbeats 16000000 in
theorem sizes_side (x y : Int) (A : Option Addr) (n cap : Nat) (a b : Int) (w : World) (h : ¬ 600 < n) (hR : rightI x y n) (hw : ¬ ((40 < a ∧ a ≤ 16384) ∨ (40 < b ∧ b ≤ 16384))) (ho : a < 1 ∨ 16384 < a ∨ b < 1 ∨ 16384 < b) :
    Calls Try.prog 10 #[imgV x y A n cap, .int .i64 a, .int .i64 b] w fun e w' => e = .returned (.bool true) ∧ Below w.heap.size w w' := by
  have K1 := hide (big_no h x y A cap)
  have K2 := hide fun w' => resize_side x y A n cap a b w' hR ho
  have K3 := hide (refRight_yes hR A cap)
  unfold Refused at K2
  have hw' : (a < 1 ∧ b < 1) ∨ (a < 1 ∧ 1 ≤ b ∧ b ≤ 40) ∨ (a < 1 ∧ 16384 < b) ∨ (16384 < a ∧ b < 1) ∨ (16384 < a ∧ 1 ≤ b ∧ b ≤ 40) ∨ (16384 < a ∧ 16384 < b) ∨ ((1 ≤ a ∧ a ≤ 40) ∧ b < 1) ∨ ((1 ≤ a ∧ a ≤ 40) ∧ 16384 < b) := by omega
  clear h hR hw ho
  rcases hw' with ⟨h1, h2⟩ | ⟨h1, h2, h3⟩ | ⟨h1, h2⟩ | ⟨h1, h2⟩ | ⟨h1, h2, h3⟩ | ⟨h1, h2⟩ | ⟨⟨h1, h3⟩, h2⟩ | ⟨⟨h1, h3⟩, h2⟩
  all_goals
    go_enter Try.func10, Try.ntmps10
    go_wp2_with (first | (go_at_call 50; (with_reducible refine (K1.out _).mono ?_); rintro e w1 ⟨rfl, hb1⟩; obtain ⟨B1, hz, HW⟩ := own1 hb1; obtain ⟨m0, m1, m2, -⟩ := blk3 B1; clear hb1) | (go_at_call 36; (with_reducible refine (K3.out _).mono ?_); rintro e w2 ⟨rfl, hb2⟩; have B2 := B1.below hb2 hz; obtain ⟨n0, n1, n2, -⟩ := blk3 B2; have HW2 := bstep HW hb2; have hz2 := B2.lt; clear hb2 B1) | (go_at_call 52; (with_reducible refine (K2.out _).mono ?_); rintro e w3 ⟨rfl, hb3⟩; have B3 := B2.below hb3 hz2; obtain ⟨p0, p1, p2, -⟩ := blk3x B3; have HW3 := bstep HW2 hb3; have hz3 := B3.lt; clear hb3) | (go_at_call 36; (with_reducible refine (K3.out _).mono ?_); rintro e w4 ⟨rfl, hb4⟩; obtain ⟨B5, hz5, HW5⟩ := own1 hb4; obtain ⟨q0, q1, q2, -⟩ := blk3 B5; have HW4 := bstep HW3 HW5; clear hb4) | (go_at_call 53; (with_reducible refine (none_true _ _).mono ?_); rintro e w5 ⟨rfl, hb5⟩) | (go_at_call 51; (with_reducible refine (awake34 _).mono ?_); rintro e w6 ⟨rfl, hb6⟩))
    go_ret
    exact ⟨rfl, bstep (bstep HW4 hb5) hb6⟩
end Go.Proofs.Ytkjnheikimpliaa
