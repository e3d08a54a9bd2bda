/- The law OpsCrops: walked. -/
import Derived.Test.YtkjnheikimpliaaOpsD
import Derived.Test.YtkjnheikimpliaaRefC
namespace Go.Proofs.Ytkjnheikimpliaa
set_option linter.unusedVariables false
set_option linter.unusedSimpArgs false
open Go.RowKit
attribute [local go_sem ↓] Go.wp_at_zero Go.wp_at_succ

set_option maxHeartbeats 2000000 in
theorem crop_no (x y : Int) (A : Option Addr) (n cap : Nat) (i j a b : Int) (w : World) (hR : ¬ rightI x y n) : Calls Try.prog 59 #[imgV x y A n cap, .int .i64 i, .int .i64 j, .int .i64 a, .int .i64 b] w (Refused w 11) := by
  have K1 := hide (right_no hR A cap)
  unfold Refused
  clear hR
  go_enter Try.func59, Try.ntmps59
  go_wp2_with (first | (go_at_call 94; (with_reducible refine (K1.out _).mono ?_); rintro e w1 ⟨rfl, hb1⟩; obtain ⟨B1, B2, B3, B4, hz, HW⟩ := own4 hb1; obtain ⟨r0, r1, r2, f0, f1, f2⟩ := blk3 B4; clear hb1))
  refine bodyPost_ret (v := .tuple #[imgV 0 0 none 0 0, .int .i64 11]) (by simp [results, Try.results59, go_sem, r0, r1, r2, hz]) rfl ⟨rfl, bset (bset (bset HW _ _ (by omega) _) _ _ (by omega) _) _ _ (by omega) _⟩

set_option maxHeartbeats 2000000 in
theorem crop_range (x y : Int) (A : Option Addr) (n cap : Nat) (i j a b : Int) (w : World) (hR : rightI x y n) (h : ¬ (0 ≤ i ∧ 0 ≤ a ∧ i ≤ x ∧ a ≤ x - i) ∨ ¬ (0 ≤ j ∧ 0 ≤ b ∧ j ≤ y ∧ b ≤ y - j)) :
    Calls Try.prog 59 #[imgV x y A n cap, .int .i64 i, .int .i64 j, .int .i64 a, .int .i64 b] w (Refused w 2) := by
  have K1 := hide (right_yes hR A cap)
  have hx := hR.1
  have hy := hR.2.1
  unfold Refused
  by_cases h1 : 0 ≤ i ∧ 0 ≤ a ∧ i ≤ x ∧ a ≤ x - i
  · have K2 := hide fun w' => (within_any i a x hx w').mono (R' := fun e w'' => e = .returned (.bool true) ∧ w' = w'') (by rintro e w' ⟨rfl, hb⟩; rw [withinB_mk (by omega)]; exact ⟨rfl, hb⟩)
    have K3 := hide fun w' => (within_any j b y hy w').mono (R' := fun e w'' => e = .returned (.bool false) ∧ w' = w'') (by rintro e w' ⟨rfl, hb⟩; rw [withinB_not (by omega)]; exact ⟨rfl, hb⟩)
    clear h hR h1 hx hy
    go_enter Try.func59, Try.ntmps59
    go_wp2_with (first | (go_at_call 94; (with_reducible refine (K1.out _).mono ?_); rintro e w1 ⟨rfl, hb1⟩; obtain ⟨B1, B2, B3, B4, hz, HW⟩ := own4 hb1; obtain ⟨m0, m1, m2, -⟩ := blk3 B1; obtain ⟨i0, -⟩ := blk1 B2; obtain ⟨j0, -⟩ := blk1 B3; obtain ⟨r0, r1, r2, f0, f1, f2⟩ := blk3 B4; clear hb1) | (go_at_call 109; (with_reducible refine (K2.out _).mono ?_); rintro e w1 ⟨rfl, rfl⟩) | (go_at_call 109; (with_reducible refine (K3.out _).mono ?_); rintro e w1 ⟨rfl, rfl⟩))
    refine bodyPost_ret (v := .tuple #[imgV 0 0 none 0 0, .int .i64 2]) (by simp [results, Try.results59, go_sem, r0, r1, r2, hz]) rfl ⟨rfl, bset (bset (bset HW _ _ (by omega) _) _ _ (by omega) _) _ _ (by omega) _⟩
  · have K2 := hide fun w' => (within_any i a x hx w').mono (R' := fun e w'' => e = .returned (.bool false) ∧ w' = w'') (by rintro e w' ⟨rfl, hb⟩; rw [withinB_not (by omega)]; exact ⟨rfl, hb⟩)
    clear h hR h1 hx hy
    go_enter Try.func59, Try.ntmps59
    go_wp2_with (first | (go_at_call 94; (with_reducible refine (K1.out _).mono ?_); rintro e w1 ⟨rfl, hb1⟩; obtain ⟨B1, B2, B3, B4, hz, HW⟩ := own4 hb1; obtain ⟨m0, m1, m2, -⟩ := blk3 B1; obtain ⟨i0, -⟩ := blk1 B2; obtain ⟨j0, -⟩ := blk1 B3; obtain ⟨r0, r1, r2, f0, f1, f2⟩ := blk3 B4; clear hb1) | (go_at_call 109; (with_reducible refine (K2.out _).mono ?_); rintro e w1 ⟨rfl, rfl⟩))
    refine bodyPost_ret (v := .tuple #[imgV 0 0 none 0 0, .int .i64 2]) (by simp [results, Try.results59, go_sem, r0, r1, r2, hz]) rfl ⟨rfl, bset (bset (bset HW _ _ (by omega) _) _ _ (by omega) _) _ _ (by omega) _⟩

set_option maxHeartbeats 2000000 in
theorem crop_zero (x y : Int) (A : Option Addr) (n cap : Nat) (i j a b : Int) (w : World) (hR : rightI x y n) (h : (0 ≤ i ∧ 0 ≤ a ∧ i ≤ x ∧ a ≤ x - i) ∧ (0 ≤ j ∧ 0 ≤ b ∧ j ≤ y ∧ b ≤ y - j)) (h0 : a = 0 ∨ b = 0) :
    Calls Try.prog 59 #[imgV x y A n cap, .int .i64 i, .int .i64 j, .int .i64 a, .int .i64 b] w (Refused w 11) := by
  have K1 := hide (right_yes hR A cap)
  have hx := hR.1
  have hy := hR.2.1
  unfold Refused
  have K2 := hide fun w' => (within_any i a x hx w').mono (R' := fun e w'' => e = .returned (.bool true) ∧ w' = w'') (by rintro e w' ⟨rfl, hb⟩; rw [withinB_mk (by omega)]; exact ⟨rfl, hb⟩)
  have K3 := hide fun w' => (within_any j b y hy w').mono (R' := fun e w'' => e = .returned (.bool true) ∧ w' = w'') (by rintro e w' ⟨rfl, hb⟩; rw [withinB_mk (by omega)]; exact ⟨rfl, hb⟩)
  have K4 := hide fun (F : Value) (w' : World) => build_no F a b (by omega) w'
  clear h hR hx hy h0
  go_enter Try.func59, Try.ntmps59
  go_wp2_with (first | (go_at_call 94; (with_reducible refine (K1.out _).mono ?_); rintro e w1 ⟨rfl, hb1⟩; obtain ⟨B1, B2, B3, B4, hz, HW⟩ := own4 hb1; obtain ⟨m0, m1, m2, -⟩ := blk3 B1; obtain ⟨i0, -⟩ := blk1 B2; obtain ⟨j0, -⟩ := blk1 B3; clear hb1) | (go_at_call 109; (with_reducible refine (K2.out _).mono ?_); rintro e w1 ⟨rfl, rfl⟩) | (go_at_call 109; (with_reducible refine (K3.out _).mono ?_); rintro e w1 ⟨rfl, rfl⟩) | (go_at_call 104; (with_reducible refine (K4.out _ _).mono ?_); rintro e w2 ⟨rfl, hb2⟩; obtain ⟨r0, r1, r2, f0, f1, f2⟩ := blk3 (B4.below hb2 hz); have hz2 : w.heap.size + 1 + 1 + 1 < w2.heap.size := Nat.lt_of_lt_of_le hz hb2.size))
  refine bodyPost_ret (v := .tuple #[imgV 0 0 none 0 0, .int .i64 11]) (by simp [results, Try.results59, go_sem, r0, r1, r2, hz2]) rfl ⟨rfl, bset (bset (bset (bstep HW hb2) _ _ (by omega) _) _ _ (by omega) _) _ _ (by omega) _⟩
theorem refRight_yes {x y : Int} {n : Nat} (hR : rightI x y n) (A : Option Addr) (cap : Nat) (w : World) : Calls Try.prog 36 #[imgV x y A n cap] w fun e w' => e = .returned (.bool true) ∧ Below w.heap.size w w' :=
  (refRight_any x y A n cap w).mono (by rintro e w' ⟨rfl, hb⟩; rw [rightB_mk hR]; exact ⟨rfl, hb⟩)
theorem refRight_no {x y : Int} {n : Nat} (hR : ¬ rightI x y n) (A : Option Addr) (cap : Nat) (w : World) : Calls Try.prog 36 #[imgV x y A n cap] w fun e w' => e = .returned (.bool false) ∧ Below w.heap.size w w' :=
  (refRight_any x y A n cap w).mono (by rintro e w' ⟨rfl, hb⟩; rw [rightB_not hR]; exact ⟨rfl, hb⟩)
theorem big_yes {n : Nat} (h : 600 < n) (x y : Int) (A : Option Addr) (cap : Nat) (w : World) : Calls Try.prog 50 #[imgV x y A n cap] w fun e w' => e = .returned (.bool true) ∧ Below w.heap.size w w' :=
  (big_any x y A n cap w).mono (by rintro e w' ⟨rfl, hb⟩; rw [decide_eq_true h]; exact ⟨rfl, hb⟩)
theorem big_no {n : Nat} (h : ¬ 600 < n) (x y : Int) (A : Option Addr) (cap : Nat) (w : World) : Calls Try.prog 50 #[imgV x y A n cap] w fun e w' => e = .returned (.bool false) ∧ Below w.heap.size w w' :=
  (big_any x y A n cap w).mono (by rintro e w' ⟨rfl, hb⟩; rw [decide_eq_false h]; exact ⟨rfl, hb⟩)

set_option maxRecDepth 100000 in
set_option maxHeartbeats 4000000 in
theorem crops_big (x y : Int) (A : Option Addr) (n cap : Nat) (i j a b : Int) (w : World) (h : 600 < n) :
    Calls Try.prog 12 #[imgV x y A n cap, .int .i64 i, .int .i64 j, .int .i64 a, .int .i64 b] w fun e w' => e = .returned (.bool true) ∧ Below w.heap.size w w' := by
  have K1 := hide (big_yes h x y A cap)
  clear h
  go_enter Try.func12, Try.ntmps12
  go_wp2_with (first | (go_at_call 50; (with_reducible refine (K1.out _).mono ?_); rintro e w1 ⟨rfl, hb1⟩) | (go_at_call 51; (with_reducible refine (awake34 _).mono ?_); rintro e w2 ⟨rfl, hb2⟩))
  go_ret
  exact ⟨rfl, bstep (bstep (below_alloc w _) hb1) hb2⟩

set_option maxRecDepth 100000 in
set_option maxHeartbeats 4000000 in
theorem crops_no (x y : Int) (A : Option Addr) (n cap : Nat) (i j a b : Int) (w : World) (h : ¬ 600 < n) (hR : ¬ rightI x y n) :
    Calls Try.prog 12 #[imgV x y A n cap, .int .i64 i, .int .i64 j, .int .i64 a, .int .i64 b] w fun e w' => e = .returned (.bool true) ∧ Below w.heap.size w w' := by
  have K1 := hide (big_no h x y A cap)
  have K2 := hide fun w' => crop_no x y A n cap i j a b w' hR
  have K3 := hide (refRight_no hR A cap)
  unfold Refused at K2
  clear h hR
  go_enter Try.func12, Try.ntmps12
  go_wp2_with (first | (go_at_call 50; (with_reducible refine (K1.out _).mono ?_); rintro e w1 ⟨rfl, hb1⟩; obtain ⟨B1, hz, HW⟩ := own1 hb1; obtain ⟨m0, m1, m2, -⟩ := blk3 B1; clear hb1) | (go_at_call 59; (with_reducible refine (K2.out _).mono ?_); rintro e w2 ⟨rfl, hb2⟩; obtain ⟨n0, n1, n2, -⟩ := blk3 (B1.below hb2 hz); have hz2 := Nat.lt_of_lt_of_le hz hb2.size; have HW2 := bstep HW hb2; clear hb2) | (go_at_call 36; (with_reducible refine (K3.out _).mono ?_); rintro e w3 ⟨rfl, hb3⟩; obtain ⟨B5, hz5, HW5⟩ := own1 hb3; obtain ⟨p0, p1, p2, -⟩ := blk3 B5; have HW3 := bstep HW2 HW5; clear hb3) | (go_at_call 51; (with_reducible refine (awake34 _).mono ?_); rintro e w5 ⟨rfl, hb5⟩) | (go_at_call 53; (with_reducible refine (none_true _ _).mono ?_); rintro e w4 ⟨rfl, hb4⟩))
  go_ret
  exact ⟨rfl, bstep (bstep HW3 hb4) hb5⟩
set_option maxRecDepth 100000 in
set_option maxHeartbeats 8000000 in
theorem crops_range (x y : Int) (A : Option Addr) (n cap : Nat) (i j a b : Int) (w : World) (h : ¬ 600 < n) (hR : rightI x y n) (ho : ¬ (0 ≤ i ∧ 0 ≤ a ∧ i ≤ x ∧ a ≤ x - i) ∨ ¬ (0 ≤ j ∧ 0 ≤ b ∧ j ≤ y ∧ b ≤ y - j)) :
    Calls Try.prog 12 #[imgV x y A n cap, .int .i64 i, .int .i64 j, .int .i64 a, .int .i64 b] w fun e w' => e = .returned (.bool true) ∧ Below w.heap.size w w' := by
  have K1 := hide (big_no h x y A cap)
  have K2 := hide fun w' => crop_range x y A n cap i j a b w' hR ho
  have K3 := hide (refRight_yes hR A cap)
  unfold Refused at K2
  have hx1 := hR.1.1
  have hx2 := hR.1.2
  have hy1 := hR.2.1.1
  have hy2 := hR.2.1.2
  have ho' : i < 0 ∨ (0 ≤ i ∧ j < 0) ∨ (0 ≤ i ∧ 0 ≤ j ∧ a < 0) ∨ (0 ≤ i ∧ 0 ≤ j ∧ 0 ≤ a ∧ b < 0) ∨ (0 ≤ i ∧ 0 ≤ j ∧ 0 ≤ a ∧ 0 ≤ b ∧ x < i) ∨ (0 ≤ i ∧ 0 ≤ j ∧ 0 ≤ a ∧ 0 ≤ b ∧ i ≤ x ∧ y < j) ∨ (0 ≤ i ∧ 0 ≤ j ∧ 0 ≤ a ∧ 0 ≤ b ∧ i ≤ x ∧ j ≤ y ∧ x - i < a) ∨ (0 ≤ i ∧ 0 ≤ j ∧ 0 ≤ a ∧ 0 ≤ b ∧ i ≤ x ∧ j ≤ y ∧ a ≤ x - i ∧ y - j < b) := by omega
  clear h hR ho
  rcases ho' with h1 | ⟨h1, h2⟩ | ⟨h1, h2, h3⟩ | ⟨h1, h2, h3, h4⟩ | ⟨h1, h2, h3, h4, h5⟩ | ⟨h1, h2, h3, h4, h5, h6⟩ | ⟨h1, h2, h3, h4, h5, h6, h7⟩ | ⟨h1, h2, h3, h4, h5, h6, h7, h8⟩
  all_goals
    go_enter Try.func12, Try.ntmps12
    go_wp2_with (first | (go_at_call 50; (with_reducible refine (K1.out _).mono ?_); rintro e w1 ⟨rfl, hb1⟩; obtain ⟨B1, hz, HW⟩ := own1 hb1; obtain ⟨m0, m1, m2, -⟩ := blk3 B1; clear hb1) | (go_at_call 59; (with_reducible refine (K2.out _).mono ?_); rintro e w2 ⟨rfl, hb2⟩; have B2 := B1.below hb2 hz; obtain ⟨n0, n1, n2, -⟩ := blk3 B2; have hz2 := B2.lt; have HW2 := bstep HW hb2; clear hb2) | (go_at_call 36; (with_reducible refine (K3.out _).mono ?_); rintro e w3 ⟨rfl, hb3⟩; obtain ⟨B5, hz5, HW5⟩ := own1 hb3; obtain ⟨p0, p1, p2, -⟩ := blk3 B5; have HW3 := bstep HW2 HW5; have B3 := B2.below HW5 hz2; have hz3 := B3.lt; obtain ⟨q0, q1, q2, -⟩ := blk3 B3; clear hb3) | (go_at_call 51; (with_reducible refine (awake34 _).mono ?_); rintro e w5 ⟨rfl, hb5⟩) | (go_at_call 53; (with_reducible refine (none_true _ _).mono ?_); rintro e w4 ⟨rfl, hb4⟩))
    go_ret
    exact ⟨rfl, bstep (bstep HW3 hb4) hb5⟩

set_option maxRecDepth 100000 in
set_option maxHeartbeats 8000000 in
theorem crops_zero (x y : Int) (A : Option Addr) (n cap : Nat) (i j a b : Int) (w : World) (h : ¬ 600 < n) (hR : rightI x y n) (ho : (0 ≤ i ∧ 0 ≤ a ∧ i ≤ x ∧ a ≤ x - i) ∧ (0 ≤ j ∧ 0 ≤ b ∧ j ≤ y ∧ b ≤ y - j)) (h0 : a = 0 ∨ b = 0) :
    Calls Try.prog 12 #[imgV x y A n cap, .int .i64 i, .int .i64 j, .int .i64 a, .int .i64 b] w fun e w' => e = .returned (.bool true) ∧ Below w.heap.size w w' := by
  have K1 := hide (big_no h x y A cap)
  have K2 := hide fun w' => crop_zero x y A n cap i j a b w' hR ho h0
  have K3 := hide (refRight_yes hR A cap)
  unfold Refused at K2
  have hx1 := hR.1.1
  have hx2 := hR.1.2
  have hy1 := hR.2.1.1
  have hy2 := hR.2.1.2
  obtain ⟨⟨g1, g2, g3, g4⟩, g5, g6, g7, g8⟩ := ho
  by_cases ha : a = 0
  · subst ha
    clear h hR h0
    go_enter Try.func12, Try.ntmps12
    go_wp2_with (first | (go_at_call 50; (with_reducible refine (K1.out _).mono ?_); rintro e w1 ⟨rfl, hb1⟩; obtain ⟨B1, hz, HW⟩ := own1 hb1; obtain ⟨m0, m1, m2, -⟩ := blk3 B1; clear hb1) | (go_at_call 59; (with_reducible refine (K2.out _).mono ?_); rintro e w2 ⟨rfl, hb2⟩; have B2 := B1.below hb2 hz; obtain ⟨n0, n1, n2, -⟩ := blk3 B2; have hz2 := B2.lt; have HW2 := bstep HW hb2; clear hb2) | (go_at_call 36; (with_reducible refine (K3.out _).mono ?_); rintro e w3 ⟨rfl, hb3⟩; obtain ⟨B5, hz5, HW5⟩ := own1 hb3; obtain ⟨p0, p1, p2, -⟩ := blk3 B5; have HW3 := bstep HW2 HW5; have B3 := B2.below HW5 hz2; have hz3 := B3.lt; obtain ⟨q0, q1, q2, -⟩ := blk3 B3; clear hb3) | (go_at_call 51; (with_reducible refine (awake34 _).mono ?_); rintro e w5 ⟨rfl, hb5⟩) | (go_at_call 53; (with_reducible refine (none_true _ _).mono ?_); rintro e w4 ⟨rfl, hb4⟩))
    go_ret
    exact ⟨rfl, bstep (bstep HW3 hb4) hb5⟩
  · have hb0 : b = 0 := by omega
    subst hb0
    have t1 : (a == 0) = false := by simpa using ha
    clear h hR h0 ha
    go_enter Try.func12, Try.ntmps12
    go_wp2_with (first | (go_at_call 50; (with_reducible refine (K1.out _).mono ?_); rintro e w1 ⟨rfl, hb1⟩; obtain ⟨B1, hz, HW⟩ := own1 hb1; obtain ⟨m0, m1, m2, -⟩ := blk3 B1; clear hb1) | (go_at_call 59; (with_reducible refine (K2.out _).mono ?_); rintro e w2 ⟨rfl, hb2⟩; have B2 := B1.below hb2 hz; obtain ⟨n0, n1, n2, -⟩ := blk3 B2; have hz2 := B2.lt; have HW2 := bstep HW hb2; clear hb2) | (go_at_call 36; (with_reducible refine (K3.out _).mono ?_); rintro e w3 ⟨rfl, hb3⟩; obtain ⟨B5, hz5, HW5⟩ := own1 hb3; obtain ⟨p0, p1, p2, -⟩ := blk3 B5; have HW3 := bstep HW2 HW5; have B3 := B2.below HW5 hz2; have hz3 := B3.lt; obtain ⟨q0, q1, q2, -⟩ := blk3 B3; clear hb3) | (go_at_call 51; (with_reducible refine (awake34 _).mono ?_); rintro e w5 ⟨rfl, hb5⟩) | (go_at_call 53; (with_reducible refine (none_true _ _).mono ?_); rintro e w4 ⟨rfl, hb4⟩))
    go_ret
    exact ⟨rfl, bstep (bstep HW3 hb4) hb5⟩
end Go.Proofs.Ytkjnheikimpliaa
