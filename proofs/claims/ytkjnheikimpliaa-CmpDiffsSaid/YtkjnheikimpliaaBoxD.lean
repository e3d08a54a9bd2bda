/- cmp.Trim: walked; the law CmpBoxes, at an image that is not right. -/
import Derived.Test.YtkjnheikimpliaaBoxB
import Derived.Test.YtkjnheikimpliaaBoxC
import Derived.Test.YtkjnheikimpliaaLawCropB
namespace Go.Proofs.Ytkjnheikimpliaa
set_option linter.unusedVariables false
set_option linter.unusedSimpArgs false
open Go.RowKit
attribute [local go_sem ↓] Go.wp_at_zero Go.wp_at_succ

set_option maxHeartbeats 2000000 in
theorem trim_no {x y : Int} {n : Nat} (h : ¬ rightI x y n) (A : Option Addr) (cap : Nat) (c : Col) (w : World) : Calls Try.prog 86 #[imgV x y A n cap, colV c] w (Refused w 11) := by
  have K1 := hide (right_no h A cap)
  unfold Refused
  obtain ⟨y0, y1, y2, y3⟩ := c
  clear h
  go_enter Try.func86, Try.ntmps86
  go_wp2_with (go_at_call 94; (with_reducible refine (K1.out _).mono ?_); rintro e w1 ⟨rfl, hb1⟩; obtain ⟨B1, B2, B3, hz, HW⟩ := own3 hb1; obtain ⟨r0, r1, r2, f0, f1, f2⟩ := blk3 B3; clear hb1)
  exact bodyPost_ret (v := .tuple #[imgV 0 0 none 0 0, .int .i64 11]) (by simp [results, Try.results86, go_sem, hz, r0, r1, r2]) rfl ⟨rfl, bset (bset (bset HW _ _ (by omega) _) _ _ (by omega) _) _ _ (by omega) _⟩

set_option maxHeartbeats 2000000 in
theorem trim_none (W H : Nat) (A : Option Addr) (l : List Int) (cap : Nat) (c : Col) (w : World) (hR : rightI W H l.length) (hr : RowAt w w.heap.size .u8 A l) (hcap : l.length ≤ cap) (hs : (markN W (diffMk l W c) (W * H)).sd = (0, 0, 0, 0)) :
    Calls Try.prog 86 #[imgV W H A l.length cap, colV c] w (Refused w 8) := by
  have K1 := hide (right_yes hR A cap)
  have K2 := hide fun (w' : World) (hw : Below w.heap.size w w') => box_yes W H A l cap c w' hR ((hr.below hw (Nat.le_refl _)).more hw.size) hcap
  rw [hs] at K2
  unfold Refused
  obtain ⟨y0, y1, y2, y3⟩ := c
  clear hR hr hcap hs
  go_enter Try.func86, Try.ntmps86
  go_wp2_with (first | (go_at_call 94; (with_reducible refine (K1.out _).mono ?_); rintro e w1 ⟨rfl, hb1⟩; obtain ⟨B1, B2, B3, hz, HW⟩ := own3 hb1; obtain ⟨m0, m1, m2, -⟩ := blk3 B1; obtain ⟨u0, u1, u2, u3, -⟩ := blk4 B2; clear hb1) | (go_at_call 85; (with_reducible refine (K2.out _ HW).mono ?_); rintro e w2 ⟨rfl, hb2⟩; obtain ⟨r0, r1, r2, f0, f1, f2⟩ := blk3 (B3.below hb2 B3.lt); have hz2 := Nat.lt_of_lt_of_le hz hb2.size; have HW2 := bstep HW hb2; clear hb2))
  exact bodyPost_ret (v := .tuple #[imgV 0 0 none 0 0, .int .i64 8]) (by simp [results, Try.results86, go_sem, hz2, r0, r1, r2]) rfl ⟨rfl, bset (bset (bset HW2 _ _ (by omega) _) _ _ (by omega) _) _ _ (by omega) _⟩

set_option maxHeartbeats 2000000 in
theorem trim_yes (W H : Nat) (A : Option Addr) (l : List Int) (cap : Nat) (c : Col) (w : World) (hR : rightI W H l.length) (hr : RowAt w w.heap.size .u8 A l) (hcap : l.length ≤ cap) (X Y P Q : Nat) (hs : (markN W (diffMk l W c) (W * H)).sd = ((X : Int), (Y : Int), (P : Int), (Q : Int))) (h1 : X + P ≤ W) (h2 : Y + Q ≤ H) (h3 : 1 ≤ P) (h4 : 1 ≤ Q) :
    Calls Try.prog 86 #[imgV W H A l.length cap, colV c] w (MadeL w P Q (bytesL (pxs (partPx l W X Y) P (P * Q)))) := by
  have K1 := hide (right_yes hR A cap)
  have K2 := hide fun (w' : World) (hw : Below w.heap.size w w') => box_yes W H A l cap c w' hR ((hr.below hw (Nat.le_refl _)).more hw.size) hcap
  rw [hs] at K2
  have K3 := hide fun (w' : World) (hw : Below w.heap.size w w') => crop_yes W H A l cap X Y P Q w' hR ((hr.below hw (Nat.le_refl _)).more hw.size) hcap (by omega) (by omega) h3 h4
  have hpx : pxs (cropPx l W X Y) P (P * Q) = pxs (partPx l W X Y) P (P * Q) := pxs_congr _ _ P Q (by omega) fun p q _ _ => cropPx_nat l W X Y p q
  rw [hpx] at K3
  obtain ⟨bs, hbs⟩ : ∃ bs, bs = bytesL (pxs (partPx l W X Y) P (P * Q)) := ⟨_, rfl⟩
  rw [← hbs] at K3 ⊢
  unfold MadeL
  have t1 : ((P : Int) == 0) = false := by simp; omega
  obtain ⟨y0, y1, y2, y3⟩ := c
  clear hR hr hcap hs hpx hbs
  go_enter Try.func86, Try.ntmps86
  go_wp2_with (first | (go_at_call 94; (with_reducible refine (K1.out _).mono ?_); rintro e w1 ⟨rfl, hb1⟩; obtain ⟨B1, B2, B3, hz, HW⟩ := own3 hb1; obtain ⟨m0, m1, m2, -⟩ := blk3 B1; obtain ⟨u0, u1, u2, u3, -⟩ := blk4 B2; clear hb1) | (go_at_call 85; (with_reducible refine (K2.out _ HW).mono ?_); rintro e w2 ⟨rfl, hb2⟩; obtain ⟨m0, m1, m2, -⟩ := blk3 (B1.below hb2 B1.lt); have C3 := B3.below hb2 B3.lt; have hz2 := Nat.lt_of_lt_of_le hz hb2.size; have HW2 := bstep HW hb2; clear hb2) | (go_at_call 59; (with_reducible refine (K3.out _ HW2).mono ?_); rintro e w3 ⟨A', cap', rfl, hi, hb3⟩; obtain ⟨r0, r1, r2, f0, f1, f2⟩ := blk3 (C3.below hb3 C3.lt); have hz3 := Nat.lt_of_lt_of_le hz2 hb3.size; have HW3 := bstep HW2 hb3; have HI := hide hi; clear hb3 hi))
  refine bodyPost_ret (v := .tuple #[imgV P Q A' bs.length cap', .int .i64 0]) (by simp [results, Try.results86, go_sem, hz3, r0, r1, r2]) rfl ⟨A', cap', rfl, ?_, ?_⟩
  · have hww := HW2.size
    exact (((HI.out.set _ _ (by omega) _).set _ _ (by omega) _).set _ _ (by omega) _).less (by omega)
  · exact bset (bset (bset HW3 _ _ (by omega) _) _ _ (by omega) _) _ _ (by omega) _

set_option maxRecDepth 100000 in
set_option maxHeartbeats 4000000 in
theorem boxes_big (x y : Int) (A : Option Addr) (n cap : Nat) (c : Col) (w : World) (h : 600 < n) :
    Calls Try.prog 20 #[imgV x y A n cap, colV c] w fun e w' => e = .returned (.bool true) ∧ Below w.heap.size w w' := by
  have d1 : decide ((600 : Int) < n) = true := by simp; omega
  obtain ⟨y0, y1, y2, y3⟩ := c
  go_enter Try.func20, Try.ntmps20
  go_wp2_with ((go_at_call 34; (with_reducible refine (awake35 _).mono ?_); rintro e w2 ⟨rfl, hb2⟩))
  go_ret
  exact ⟨rfl, bstep (balloc (below_alloc w _) _) hb2⟩

set_option maxRecDepth 100000 in
set_option maxHeartbeats 4000000 in
theorem boxes_no (x y : Int) (A : Option Addr) (n cap : Nat) (c : Col) (w : World) (h : ¬ 600 < n) (hR : ¬ rightI x y n) :
    Calls Try.prog 20 #[imgV x y A n cap, colV c] w fun e w' => e = .returned (.bool true) ∧ Below w.heap.size w w' := by
  have d1 : decide ((600 : Int) < n) = false := by simp; omega
  have K1 := hide fun w' => box_no hR A cap c w'
  have K2 := hide fun w' => trim_no hR A cap c w'
  have K3 := hide (refRight_no hR A cap)
  unfold Refused at K2
  have o2 := hide fun (w1 : World) (h : Below ((w.alloc (.cells #[.int .i64 x, .int .i64 y, .slice A n cap] 34)).alloc (.cells #[.int .u8 c.r, .int .u8 c.g, .int .u8 c.b, .int .u8 c.a] 36)).heap.size ((w.alloc (.cells #[.int .i64 x, .int .i64 y, .slice A n cap] 34)).alloc (.cells #[.int .u8 c.r, .int .u8 c.g, .int .u8 c.b, .int .u8 c.a] 36)) w1) => own2 h
  obtain ⟨y0, y1, y2, y3⟩ := c
  clear hR h
  go_enter Try.func20, Try.ntmps20
  go_wp2_with (first | (go_at_call 85; (with_reducible refine (K1.out _).mono ?_); rintro e w1 ⟨rfl, hb1⟩; obtain ⟨B1, B2, hz, HW⟩ := o2.out _ hb1; obtain ⟨m0, m1, m2, -⟩ := blk3 B1; obtain ⟨u0, u1, u2, u3, -⟩ := blk4 B2; clear hb1) | (go_at_call 86; (with_reducible refine (K2.out _).mono ?_); rintro e w2 ⟨rfl, hb2⟩; have C1 := B1.below hb2 B1.lt; obtain ⟨m0, m1, m2, -⟩ := blk3x C1; have HW2 := bstep HW hb2; clear hb2) | (go_at_call 36; (with_reducible refine (K3.out _).mono ?_); rintro e w3 ⟨rfl, hb3⟩; have HW3 := bstep (balloc HW2 _) hb3; clear hb3) | (go_at_call 34; (with_reducible refine (awake35 _).mono ?_); rintro e w4 ⟨rfl, hb4⟩))
  go_ret
  exact ⟨rfl, bstep HW3 hb4⟩
end Go.Proofs.Ytkjnheikimpliaa
