/- The law CmpDiffs, where no difference is told. -/
import Derived.Test.YtkjnheikimpliaaDiffB
import Derived.Test.YtkjnheikimpliaaLawBox
namespace Go.Proofs.Ytkjnheikimpliaa
set_option linter.unusedVariables false
set_option linter.unusedSimpArgs false
open Go.RowKit
attribute [local go_sem ↓] Go.wp_at_zero Go.wp_at_succ

set_option maxRecDepth 100000 in
set_option maxHeartbeats 4000000 in
theorem diffs_big (x1 y1 x2 y2 : Int) (A1 A2 : Option Addr) (n1 n2 c1 c2 : Nat) (w : World) (h : 600 < n1 ∨ (¬ 600 < n1 ∧ 600 < n2)) :
    Calls Try.prog 18 #[imgV x1 y1 A1 n1 c1, imgV x2 y2 A2 n2 c2] w fun e w' => e = .returned (.bool true) ∧ Below w.heap.size w w' := by
  rcases h with h | ⟨h1, h2⟩
  · have d1 : decide ((600 : Int) < n1) = true := by simp; omega
    go_enter Try.func18, Try.ntmps18
    go_wp2_with ((go_at_call 34; (with_reducible refine (awake35 _).mono ?_); rintro e w2 ⟨rfl, hb2⟩))
    go_ret
    exact ⟨rfl, bstep (balloc (below_alloc w _) _) hb2⟩
  · have d1 : decide ((600 : Int) < n1) = false := by simp; omega
    have d2 : decide ((600 : Int) < n2) = true := by simp; omega
    go_enter Try.func18, Try.ntmps18
    go_wp2_with ((go_at_call 34; (with_reducible refine (awake35 _).mono ?_); rintro e w2 ⟨rfl, hb2⟩))
    go_ret
    exact ⟨rfl, bstep (balloc (below_alloc w _) _) hb2⟩

structure NoK (v : World) (p gd gm : Nat) (x1 y1 x2 y2 : Int) (A1 A2 : Option Addr) (n1 n2 c1 c2 : Nat) : Prop where
  a : Blk v p 34 #[.int .i64 x1, .int .i64 y1, .slice A1 n1 c1]
  b : Blk v (p + 1) 34 #[.int .i64 x2, .int .i64 y2, .slice A2 n2 c2]
  d : Blk v gd 82 zero82
  m : Blk v gm 34 #[.int .i64 0, .int .i64 0, .slice none 0 0]
theorem NoK.below {v v' : World} {p gd gm : Nat} {x1 y1 x2 y2 : Int} {A1 A2 : Option Addr} {n1 n2 c1 c2 : Nat} (h : NoK v p gd gm x1 y1 x2 y2 A1 A2 n1 n2 c1 c2) (hb : Below v.heap.size v v') : NoK v' p gd gm x1 y1 x2 y2 A1 A2 n1 n2 c1 c2 :=
  ⟨h.a.below hb h.a.lt, h.b.below hb h.b.lt, h.d.below hb h.d.lt, h.m.below hb h.m.lt⟩

set_option maxRecDepth 100000 in
set_option maxHeartbeats 8000000 in
theorem diffs_no (x1 y1 x2 y2 : Int) (A1 A2 : Option Addr) (n1 n2 c1 c2 : Nat) (w : World) (h1 : ¬ 600 < n1) (h2 : ¬ 600 < n2) (h : ¬ (rightI x1 y1 n1 ∧ rightI x2 y2 n2 ∧ x1 = x2 ∧ y1 = y2)) :
    Calls Try.prog 18 #[imgV x1 y1 A1 n1 c1, imgV x2 y2 A2 n2 c2] w fun e w' => e = .returned (.bool true) ∧ Below w.heap.size w w' := by
  have d1 : decide ((600 : Int) < n1) = false := by simp; omega
  have d2 : decide ((600 : Int) < n2) = false := by simp; omega
  have K1 := hide fun w' => of_no h A1 A2 c1 c2 w'
  have K2 := hide fun w' => show_no h A1 A2 c1 c2 w'
  unfold Refused at K2
  clear h1 h2
  have hcase : (∃ KA : Hid (∀ w', Calls Try.prog 36 #[imgV x1 y1 A1 n1 c1] w' fun e w'' => e = .returned (.bool false) ∧ Below w'.heap.size w' w''), True) ∨
      (∃ KA : Hid (∀ w', Calls Try.prog 36 #[imgV x1 y1 A1 n1 c1] w' fun e w'' => e = .returned (.bool true) ∧ Below w'.heap.size w' w''), ∃ KB : Hid (∀ w', Calls Try.prog 36 #[imgV x2 y2 A2 n2 c2] w' fun e w'' => e = .returned (.bool false) ∧ Below w'.heap.size w' w''), True) ∨
      (∃ KA : Hid (∀ w', Calls Try.prog 36 #[imgV x1 y1 A1 n1 c1] w' fun e w'' => e = .returned (.bool true) ∧ Below w'.heap.size w' w''), ∃ KB : Hid (∀ w', Calls Try.prog 36 #[imgV x2 y2 A2 n2 c2] w' fun e w'' => e = .returned (.bool true) ∧ Below w'.heap.size w' w''), (x1 == x2) = false ∨ (x1 = x2 ∧ (y1 == y2) = false)) := by
    by_cases g1 : rightI x1 y1 n1
    · by_cases g2 : rightI x2 y2 n2
      · refine .inr (.inr ⟨hide fun w' => refRight_yes g1 A1 c1 w', hide fun w' => refRight_yes g2 A2 c2 w', ?_⟩)
        by_cases hx : x1 = x2
        · right; exact ⟨hx, by simpa using fun hy => h ⟨g1, g2, hx, hy⟩⟩
        · left; simpa using hx
      · exact .inr (.inl ⟨hide fun w' => refRight_yes g1 A1 c1 w', hide fun w' => refRight_no g2 A2 c2 w', trivial⟩)
    · exact .inl ⟨hide fun w' => refRight_no g1 A1 c1 w', trivial⟩
  clear h
  rcases hcase with ⟨KA, -⟩ | ⟨KA, KB, -⟩ | ⟨KA, KB, q1 | ⟨rfl, q2⟩⟩
  all_goals
    go_enter Try.func18, Try.ntmps18
    go_wp2_with (first | (go_at_call 77; (with_reducible refine (K1.out _).mono ?_); rintro e w1 ⟨rfl, hb1⟩; obtain ⟨B1, B2, hz, HW⟩ := own2 hb1; obtain ⟨a0, a1, a2, -⟩ := blk3x B1; obtain ⟨b0, b1, b2, -⟩ := blk3x B2; clear hb1) | (go_at_call 78; (with_reducible refine (K2.out _).mono ?_); rintro e w2 ⟨rfl, hb2⟩; obtain ⟨D1, hz2, HW2'⟩ := own1 hb2; have C1 := B1.below HW2' B1.lt; have C2 := B2.below HW2' B2.lt; obtain ⟨a0, a1, a2, -⟩ := blk3x C1; obtain ⟨b0, b1, b2, -⟩ := blk3x C2; have HW2 := bstep HW HW2'; clear hb2) | (go_at_call 36; (with_reducible refine (KA.out _).mono ?_); rintro e w3 ⟨rfl, hb3⟩; have NK : NoK w3 w.heap.size w1.heap.size w2.heap.size _ _ _ _ A1 A2 n1 n2 c1 c2 := NoK.below ⟨C1.alloc _, C2.alloc _, D1.alloc _, Blk.new _ _ _⟩ hb3; have HW3 := bstep (balloc HW2 _) hb3; obtain ⟨a0, a1, a2, -⟩ := blk3 NK.a; obtain ⟨b0, b1, b2, -⟩ := blk3 NK.b; obtain ⟨⟨t0, t1, t2, t3, t4, t5, t6⟩, -⟩ := blk7b NK.d; obtain ⟨u0, u1, u2, -⟩ := blk3 NK.m; clear C1 C2 D1 hb3 HW2) | (go_at_call 36; (with_reducible refine (KB.out _).mono ?_); rintro e w4 ⟨rfl, hb4⟩; have NK := NK.below hb4; have HW3 := bstep HW3 hb4; obtain ⟨a0, a1, a2, -⟩ := blk3 NK.a; obtain ⟨b0, b1, b2, -⟩ := blk3 NK.b; obtain ⟨⟨t0, t1, t2, t3, t4, t5, t6⟩, -⟩ := blk7b NK.d; obtain ⟨u0, u1, u2, -⟩ := blk3 NK.m; clear hb4) | (go_at_call 45; (with_reducible refine (is_zero _).mono ?_); rintro e v2 ⟨rfl, hv2⟩) | (go_at_call 34; (with_reducible refine (awake35 _).mono ?_); rintro e v3 ⟨rfl, hv3⟩))
    go_ret
    exact ⟨rfl, bstep (bstep HW3 hv2) hv3⟩
end Go.Proofs.Ytkjnheikimpliaa
