/- The law QuantLevels, where no image is told. -/
import Derived.Test.YtkjnheikimpliaaLevB
import Derived.Test.YtkjnheikimpliaaLawDith
namespace Go.Proofs.Ytkjnheikimpliaa
set_option linter.unusedVariables false
set_option linter.unusedSimpArgs false
open Go.RowKit
attribute [local go_sem ↓] Go.wp_at_zero Go.wp_at_succ

set_option maxHeartbeats 1000000 in
theorem levels_no {x y : Int} {k : Nat} (h : ¬ rightI x y k) (A : Option Addr) (cap : Nat) (n : Int) (w : World) : Calls Try.prog 66 #[imgV x y A k cap, .int .i64 n] w (Refused w 11) := by
  have K1 := hide (right_no h A cap)
  clear h
  unfold Refused
  go_enter Try.func66, Try.ntmps66
  go_wp2_with (go_at_call 94; (with_reducible refine (K1.out _).mono ?_); rintro e w1 ⟨rfl, hb1⟩; obtain ⟨B1, B2, B3, hz, HW⟩ := own3 hb1; obtain ⟨r0, r1, r2, f0, f1, f2⟩ := blk3 B3; clear hb1)
  exact bodyPost_ret (v := .tuple #[imgV 0 0 none 0 0, .int .i64 11]) (by simp [results, Try.results66, go_sem, hz, r0, r1, r2]) rfl ⟨rfl, bset (bset (bset HW _ _ (by omega) _) _ _ (by omega) _) _ _ (by omega) _⟩
set_option maxHeartbeats 1000000 in
theorem levels_range {x y : Int} {k : Nat} (h : rightI x y k) (A : Option Addr) (cap : Nat) (n : Int) (hn : n < 2 ∨ (2 ≤ n ∧ 256 < n)) (w : World) : Calls Try.prog 66 #[imgV x y A k cap, .int .i64 n] w (Refused w 2) := by
  have K1 := hide (right_yes h A cap)
  clear h
  unfold Refused
  rcases hn with hn | ⟨hn, hn'⟩
  all_goals
    go_enter Try.func66, Try.ntmps66
    go_wp2_with (go_at_call 94; (with_reducible refine (K1.out _).mono ?_); rintro e w1 ⟨rfl, hb1⟩; obtain ⟨B1, B2, B3, hz, HW⟩ := own3 hb1; obtain ⟨r0, r1, r2, f0, f1, f2⟩ := blk3 B3; have k0 := B2.cell 0; simp only [List.getElem?_toArray, List.getElem?_cons_succ, List.getElem?_cons_zero] at k0; clear hb1)
    exact bodyPost_ret (v := .tuple #[imgV 0 0 none 0 0, .int .i64 2]) (by simp [results, Try.results66, go_sem, hz, r0, r1, r2]) rfl ⟨rfl, bset (bset (bset HW _ _ (by omega) _) _ _ (by omega) _) _ _ (by omega) _⟩

set_option maxHeartbeats 1000000 in
theorem lv_big (x y : Int) (A : Option Addr) (k cap : Nat) (n : Int) (w : World) (h : 600 < k) :
    Calls Try.prog 14 #[imgV x y A k cap, .int .i64 n] w fun e w' => e = .returned (.bool true) ∧ Below w.heap.size w w' := by
  go_enter Try.func14, Try.ntmps14
  go_wp2_with (go_at_call 46; (with_reducible refine (awake36 _).mono ?_); rintro e w1 ⟨rfl, hb1⟩)
  go_ret
  exact ⟨rfl, bstep (below_alloc w _) hb1⟩
set_option maxRecDepth 100000 in
set_option maxHeartbeats 2000000 in
theorem lv_no (x y : Int) (A : Option Addr) (k cap : Nat) (n : Int) (w : World) (h : ¬ 600 < k) (hR : ¬ rightI x y k) :
    Calls Try.prog 14 #[imgV x y A k cap, .int .i64 n] w fun e w' => e = .returned (.bool true) ∧ Below w.heap.size w w' := by
  have K1 := hide (levels_no hR A cap n)
  have K2 := hide (refRight_no hR A cap)
  have K3 := hide fun (w' : World) => is_zero w'
  unfold Refused at K1
  clear hR
  go_enter Try.func14, Try.ntmps14
  go_wp2_with (first | (go_at_call 66; (with_reducible refine (K1.out _).mono ?_); rintro e w1 ⟨rfl, hb1⟩; obtain ⟨B1, hz, HW⟩ := own1 hb1; obtain ⟨m0, m1, m2, -⟩ := blk3x B1; clear hb1) | (go_at_call 36; (with_reducible refine (K2.out _).mono ?_); rintro e w2 ⟨rfl, hb2⟩; obtain ⟨B2, hz2, HW2⟩ := own1 hb2; have HWW := bstep HW HW2; obtain ⟨n0, n1, n2, -⟩ := blk3 B2; clear hb2) | (go_at_call 45; (with_reducible refine (K3.out _).mono ?_); rintro e w3 ⟨rfl, hb3⟩; have HW3 := bstep HWW hb3) | (go_at_call 46; (with_reducible refine (awake36 _).mono ?_); rintro e w4 ⟨rfl, hb4⟩))
  go_ret
  exact ⟨rfl, bstep HW3 hb4⟩
set_option maxRecDepth 100000 in
set_option maxHeartbeats 2000000 in
theorem lv_range (x y : Int) (A : Option Addr) (k cap : Nat) (n : Int) (w : World) (h : ¬ 600 < k) (hR : rightI x y k) (hn : n < 2 ∨ (2 ≤ n ∧ 256 < n)) :
    Calls Try.prog 14 #[imgV x y A k cap, .int .i64 n] w fun e w' => e = .returned (.bool true) ∧ Below w.heap.size w w' := by
  have K1 := hide (levels_range hR A cap n hn)
  have K2 := hide (refRight_yes hR A cap)
  have K3 := hide fun (w' : World) => is_zero w'
  unfold Refused at K1
  clear hR
  rcases hn with hn | ⟨hn, hn'⟩
  all_goals
    go_enter Try.func14, Try.ntmps14
    go_wp2_with (first | (go_at_call 66; (with_reducible refine (K1.out _).mono ?_); rintro e w1 ⟨rfl, hb1⟩; obtain ⟨B1, hz, HW⟩ := own1 hb1; obtain ⟨m0, m1, m2, -⟩ := blk3x B1; clear hb1) | (go_at_call 36; (with_reducible refine (K2.out _).mono ?_); rintro e w2 ⟨rfl, hb2⟩; obtain ⟨B2, hz2, HW2⟩ := own1 hb2; have HWW := bstep HW HW2; obtain ⟨n0, n1, n2, -⟩ := blk3 B2; clear hb2) | (go_at_call 45; (with_reducible refine (K3.out _).mono ?_); rintro e w3 ⟨rfl, hb3⟩; have HW3 := bstep HWW hb3) | (go_at_call 46; (with_reducible refine (awake36 _).mono ?_); rintro e w4 ⟨rfl, hb4⟩))
    go_ret
    exact ⟨rfl, bstep HW3 hb4⟩
end Go.Proofs.Ytkjnheikimpliaa
