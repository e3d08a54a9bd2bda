/- The law QuantDithers. -/
import Derived.Test.YtkjnheikimpliaaDithD
import Derived.Test.YtkjnheikimpliaaTurnA
import Derived.Test.YtkjnheikimpliaaLawSize
namespace Go.Proofs.Ytkjnheikimpliaa
set_option linter.unusedVariables false
set_option linter.unusedSimpArgs false
open Go.RowKit
attribute [local go_sem ↓] Go.wp_at_zero Go.wp_at_succ

set_option maxHeartbeats 1000000 in
theorem is_zero (w : World) : Calls Try.prog 45 #[imgV 0 0 none 0 0, imgV 0 0 none 0 0] w fun e w' => e = .returned (.bool true) ∧ Below w.heap.size w w' :=
  (same_any 0 0 none [] 0 0 0 none [] 0 w (fun i hi => by simp at hi) (fun i hi => by simp at hi) (fun z hz => by simp at hz) (fun z hz => by simp at hz)).mono (by
    rintro e w' ⟨rfl, hb⟩
    rw [sameB_mk ⟨rfl, rfl, rfl⟩]
    exact ⟨rfl, hb⟩)
set_option maxHeartbeats 1000000 in
theorem dithers_big (x y : Int) (A : Option Addr) (n cap : Nat) (w : World) (h : 600 < n) :
    Calls Try.prog 9 #[imgV x y A n cap] w fun e w' => e = .returned (.bool true) ∧ Below w.heap.size w w' := by
  go_enter Try.func9, Try.ntmps9
  go_wp2_with (go_at_call 46; (with_reducible refine (awake36 _).mono ?_); rintro e w1 ⟨rfl, hb1⟩)
  go_ret
  exact ⟨rfl, bstep (below_alloc w _) hb1⟩

set_option maxHeartbeats 2000000 in
theorem dithers_no (x y : Int) (A : Option Addr) (n cap : Nat) (w : World) (h : ¬ 600 < n) (hR : ¬ rightI x y n) :
    Calls Try.prog 9 #[imgV x y A n cap] w fun e w' => e = .returned (.bool true) ∧ Below w.heap.size w w' := by
  have K1 := hide (dither_no hR A cap)
  have K2 := hide (refRight_no hR A cap)
  have K3 := hide fun (w' : World) => is_zero w'
  unfold Refused at K1
  clear hR
  go_enter Try.func9, Try.ntmps9
  go_wp2_with (first | (go_at_call 47; (with_reducible refine (K1.out _).mono ?_); rintro e w1 ⟨rfl, hb1⟩; obtain ⟨B1, hz, HW⟩ := own1 hb1; obtain ⟨m0, m1, m2⟩ := blk3x B1; clear hb1) | (go_at_call 36; (with_reducible refine (K2.out _).mono ?_); rintro e w2 ⟨rfl, hb2⟩; obtain ⟨B2, hz2, HW2⟩ := own1 hb2; have HWW := bstep HW HW2; obtain ⟨n0, n1, n2, -⟩ := blk3 B2; clear hb2) | (go_at_call 45; (with_reducible refine (K3.out _).mono ?_); rintro e w3 ⟨rfl, hb3⟩; have HW3 := bstep HWW hb3) | (go_at_call 46; (with_reducible refine (awake36 _).mono ?_); rintro e w4 ⟨rfl, hb4⟩))
  go_ret
  exact ⟨rfl, bstep HW3 hb4⟩
end Go.Proofs.Ytkjnheikimpliaa
