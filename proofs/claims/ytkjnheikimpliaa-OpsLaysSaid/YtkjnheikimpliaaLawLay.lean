/- The law OpsLays. -/
import Derived.Test.YtkjnheikimpliaaLayF
import Derived.Test.YtkjnheikimpliaaLawCropB
namespace Go.Proofs.Ytkjnheikimpliaa
set_option linter.unusedVariables false
set_option linter.unusedSimpArgs false
open Go.RowKit
attribute [local go_sem ↓] Go.wp_at_zero Go.wp_at_succ

set_option maxRecDepth 100000 in
set_option maxHeartbeats 4000000 in
theorem lays_big (x1 y1 x2 y2 : Int) (A1 A2 : Option Addr) (n1 n2 c1 c2 : Nat) (x y : Int) (w : World) (h : 600 < n1 ∨ (¬ 600 < n1 ∧ 600 < n2)) :
    Calls Try.prog 17 #[imgV x1 y1 A1 n1 c1, imgV x2 y2 A2 n2 c2, .int .i64 x, .int .i64 y] w fun e w' => e = .returned (.bool true) ∧ Below w.heap.size w w' := by
  rcases h with h | ⟨h1, h2⟩
  · have K1 := hide (big_yes h x1 y1 A1 c1)
    clear h
    go_enter Try.func17, Try.ntmps17
    go_wp2_with (first | (go_at_call 50; (with_reducible refine (K1.out _).mono ?_); rintro e w1 ⟨rfl, hb1⟩) | (go_at_call 51; (with_reducible refine (awake34 _).mono ?_); rintro e w2 ⟨rfl, hb2⟩))
    go_ret
    exact ⟨rfl, bstep (bstep (balloc (below_alloc w _) _) hb1) hb2⟩
  · have K1 := hide (big_no h1 x1 y1 A1 c1)
    have K2 := hide (big_yes h2 x2 y2 A2 c2)
    clear h1 h2
    go_enter Try.func17, Try.ntmps17
    go_wp2_with (first | (go_at_call 50; (with_reducible refine (K1.out _).mono ?_); rintro e w1 ⟨rfl, hb1⟩; obtain ⟨B1, B2, hz, HW⟩ := own2 hb1; obtain ⟨b0, b1, b2, -⟩ := blk3 B2) | (go_at_call 50; (with_reducible refine (K2.out _).mono ?_); rintro e w3 ⟨rfl, hb3⟩) | (go_at_call 51; (with_reducible refine (awake34 _).mono ?_); rintro e w2 ⟨rfl, hb2⟩))
    go_ret
    exact ⟨rfl, bstep (bstep HW hb3) hb2⟩

structure LaK (v : World) (p ga gb : Nat) (x1 y1 x2 y2 : Int) (A1 A2 : Option Addr) (n1 n2 c1 c2 : Nat) : Prop where
  a : Blk v p 34 #[.int .i64 x1, .int .i64 y1, .slice A1 n1 c1]
  b : Blk v (p + 1) 34 #[.int .i64 x2, .int .i64 y2, .slice A2 n2 c2]
  c : Blk v ga 34 #[.int .i64 0, .int .i64 0, .slice none 0 0]
  d : Blk v gb 34 #[.int .i64 0, .int .i64 0, .slice none 0 0]
theorem LaK.below {v v' : World} {p ga gb : Nat} {x1 y1 x2 y2 : Int} {A1 A2 : Option Addr} {n1 n2 c1 c2 : Nat} (h : LaK v p ga gb x1 y1 x2 y2 A1 A2 n1 n2 c1 c2) (hb : Below v.heap.size v v') : LaK v' p ga gb x1 y1 x2 y2 A1 A2 n1 n2 c1 c2 :=
  ⟨h.a.below hb h.a.lt, h.b.below hb h.b.lt, h.c.below hb h.c.lt, h.d.below hb h.d.lt⟩

set_option maxRecDepth 100000 in
set_option maxHeartbeats 8000000 in
theorem lays_no (x1 y1 x2 y2 : Int) (A1 A2 : Option Addr) (n1 n2 c1 c2 : Nat) (x y : Int) (w : World) (h1 : ¬ 600 < n1) (h2 : ¬ 600 < n2) (h : ¬ (rightI x1 y1 n1 ∧ rightI x2 y2 n2)) :
    Calls Try.prog 17 #[imgV x1 y1 A1 n1 c1, imgV x2 y2 A2 n2 c2, .int .i64 x, .int .i64 y] w fun e w' => e = .returned (.bool true) ∧ Below w.heap.size w w' := by
  have K1 := hide (big_no h1 x1 y1 A1 c1)
  have K2 := hide (big_no h2 x2 y2 A2 c2)
  have K3 := hide fun w' => paste_no h A1 A2 c1 c2 x y w'
  have K4 := hide fun w' => over_no h A1 A2 c1 c2 x y w'
  unfold Refused at K3 K4
  clear h1 h2
  have hcase : (∃ KA : Hid (∀ w', Calls Try.prog 36 #[imgV x1 y1 A1 n1 c1] w' fun e w'' => e = .returned (.bool false) ∧ Below w'.heap.size w' w''), True) ∨
      (∃ KA : Hid (∀ w', Calls Try.prog 36 #[imgV x1 y1 A1 n1 c1] w' fun e w'' => e = .returned (.bool true) ∧ Below w'.heap.size w' w''), ∃ KB : Hid (∀ w', Calls Try.prog 36 #[imgV x2 y2 A2 n2 c2] w' fun e w'' => e = .returned (.bool false) ∧ Below w'.heap.size w' w''), True) := by
    by_cases g1 : rightI x1 y1 n1
    · exact .inr ⟨hide fun w' => refRight_yes g1 A1 c1 w', hide fun w' => refRight_no (fun g2 => h ⟨g1, g2⟩) A2 c2 w', trivial⟩
    · exact .inl ⟨hide fun w' => refRight_no g1 A1 c1 w', trivial⟩
  clear h
  rcases hcase with ⟨KA, -⟩ | ⟨KA, KB, -⟩
  all_goals
    go_enter Try.func17, Try.ntmps17
    go_wp2_with (first | (go_at_call 50; (with_reducible refine (K1.out _).mono ?_); rintro e w1 ⟨rfl, hb1⟩; obtain ⟨B1, B2, hz, HW⟩ := own2 hb1; obtain ⟨a0, a1, a2, -⟩ := blk3 B1; obtain ⟨b0, b1, b2, -⟩ := blk3 B2; clear hb1) | (go_at_call 50; (with_reducible refine (K2.out _).mono ?_); rintro e w2 ⟨rfl, hb2⟩; have C1 := B1.below hb2 B1.lt; have C2 := B2.below hb2 B2.lt; obtain ⟨a0, a1, a2, -⟩ := blk3 C1; obtain ⟨b0, b1, b2, -⟩ := blk3 C2; have HW2 := bstep HW hb2; clear hb2 B1 B2) | (go_at_call 74; (with_reducible refine (K3.out _).mono ?_); rintro e w3 ⟨rfl, hb3⟩; have D1 := C1.below hb3 C1.lt; have D2 := C2.below hb3 C2.lt; obtain ⟨a0, a1, a2, -⟩ := blk3x D1; obtain ⟨b0, b1, b2, -⟩ := blk3x D2; have HW3 := bstep HW2 hb3; clear hb3 C1 C2) | (go_at_call 75; (with_reducible refine (K4.out _).mono ?_); rintro e w4 ⟨rfl, hb4⟩; obtain ⟨E3, hz4, HW4'⟩ := own1 hb4; have E1 := D1.below HW4' D1.lt; have E2 := D2.below HW4' D2.lt; obtain ⟨a0, a1, a2, -⟩ := blk3x E1; obtain ⟨b0, b1, b2, -⟩ := blk3x E2; have HW4 := bstep HW3 HW4'; clear hb4 D1 D2) | (go_at_call 36; (with_reducible refine (KA.out _).mono ?_); rintro e w5 ⟨rfl, hb5⟩; have NK : LaK w5 w.heap.size w3.heap.size w4.heap.size x1 y1 x2 y2 A1 A2 n1 n2 c1 c2 := LaK.below ⟨E1.alloc _, E2.alloc _, E3.alloc _, Blk.new _ _ _⟩ hb5; have HW5 := bstep (balloc HW4 _) hb5; obtain ⟨a0, a1, a2, -⟩ := blk3 NK.a; obtain ⟨b0, b1, b2, -⟩ := blk3 NK.b; obtain ⟨t0, t1, t2, -⟩ := blk3 NK.c; obtain ⟨u0, u1, u2, -⟩ := blk3 NK.d; clear E1 E2 E3 hb5) | (go_at_call 36; (with_reducible refine (KB.out _).mono ?_); rintro e w6 ⟨rfl, hb6⟩; have NK := NK.below hb6; have HW5 := bstep HW5 hb6; obtain ⟨a0, a1, a2, -⟩ := blk3 NK.a; obtain ⟨b0, b1, b2, -⟩ := blk3 NK.b; obtain ⟨t0, t1, t2, -⟩ := blk3 NK.c; obtain ⟨u0, u1, u2, -⟩ := blk3 NK.d; clear hb6) | (go_at_call 53; (with_reducible refine (none_true _ _).mono ?_); rintro e w7 ⟨rfl, hb7⟩; have NK := NK.below hb7; have HW5 := bstep HW5 hb7; obtain ⟨a0, a1, a2, -⟩ := blk3 NK.a; obtain ⟨b0, b1, b2, -⟩ := blk3 NK.b; obtain ⟨t0, t1, t2, -⟩ := blk3 NK.c; obtain ⟨u0, u1, u2, -⟩ := blk3 NK.d; clear hb7) | (go_at_call 51; (with_reducible refine (awake34 _).mono ?_); rintro e w8 ⟨rfl, hb8⟩))
    go_ret
    exact ⟨rfl, bstep HW5 hb8⟩
end Go.Proofs.Ytkjnheikimpliaa
