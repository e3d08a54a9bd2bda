/- The law of colours turned. -/
import Derived.Test.YtkjnheikimpliaaColB
import Derived.Test.YtkjnheikimpliaaOpsD
namespace Go.Proofs.Ytkjnheikimpliaa
set_option linter.unusedVariables false
set_option linter.unusedSimpArgs false
open Go.RowKit
attribute [local go_sem ↓] Go.wp_at_zero Go.wp_at_succ

theorem blend_ok {c u : Col} (hc : c.ok) (hu : u.ok) : (blendC c u).ok := by
  obtain ⟨r, g, b, a⟩ := hc
  obtain ⟨R, G, B, A⟩ := hu
  obtain ⟨q0, q1, q2⟩ := blendN_bd a A
  unfold blendC
  split
  · exact ⟨⟨by decide, by decide⟩, ⟨by decide, by decide⟩, ⟨by decide, by decide⟩, ⟨by decide, by decide⟩⟩
  · have hp : 0 < 255 * c.a + u.a * (255 - c.a) := by omega
    have x1 := mix_bd (a := 255 * c.a) (by omega) q0 rfl hp r R
    have x2 := mix_bd (a := 255 * c.a) (by omega) q0 rfl hp g G
    have x3 := mix_bd (a := 255 * c.a) (by omega) q0 rfl hp b B
    exact ⟨x1.2.2, x2.2.2, x3.2.2, by simp only; omega, by simp only; omega⟩
theorem inv_ok {c : Col} (hc : c.ok) : (invC c).ok := by
  obtain ⟨r, g, b, a⟩ := hc
  exact ⟨by simp only [invC]; omega, by simp only [invC]; omega, by simp only [invC]; omega, a⟩
theorem inv_inv (c : Col) : invC (invC c) = c := by
  cases c
  simp only [invC, Col.mk.injEq, and_true]
  omega
theorem blend_solid {c u : Col} (hc : c.a = 255) (hr : c.ok) : blendC c u = c := by
  obtain ⟨r, g, b, a⟩ := c
  simp only at hc
  subst hc
  obtain ⟨⟨r0, r1⟩, ⟨g0, g1⟩, ⟨b0, b1⟩, -⟩ := hr
  simp only at r0 r1 g0 g1 b0 b1
  unfold blendC mixV
  simp only
  rw [if_neg (by omega)]
  simp only [Int.sub_self, Int.mul_zero, Int.zero_mul, Int.add_zero, Col.mk.injEq]
  refine ⟨?_, ?_, ?_, ?_⟩ <;> omega
theorem blend_clear {c : Col} (hc : c.ok) : (blendC c ⟨0, 0, 0, 0⟩).a = c.a := by
  obtain ⟨-, -, -, a0, a1⟩ := hc
  unfold blendC
  simp only [Int.zero_mul, Int.add_zero]
  split <;> simp only <;> omega

/-- A colour in its box. -/
abbrev colB (w : World) (p : Nat) (c : Col) : Prop := Blk w p 36 #[.int .u8 c.r, .int .u8 c.g, .int .u8 c.b, .int .u8 c.a]
/-- Five boxes with a colour each. -/
def Five (w : World) (p1 p2 p3 p4 p5 : Nat) (c1 c2 c3 c4 c5 : Col) : Prop := colB w p1 c1 ∧ colB w p2 c2 ∧ colB w p3 c3 ∧ colB w p4 c4 ∧ colB w p5 c5
theorem Five.below {w w' : World} {p1 p2 p3 p4 p5 : Nat} {c1 c2 c3 c4 c5 : Col} (h : Five w p1 p2 p3 p4 p5 c1 c2 c3 c4 c5) (hb : Below w.heap.size w w') : Five w' p1 p2 p3 p4 p5 c1 c2 c3 c4 c5 :=
  ⟨h.1.below hb h.1.lt, h.2.1.below hb h.2.1.lt, h.2.2.1.below hb h.2.2.1.lt, h.2.2.2.1.below hb h.2.2.2.1.lt, h.2.2.2.2.below hb h.2.2.2.2.lt⟩
def Cells4 (w : World) (p : Nat) (c : Col) : Prop := w.cell? ⟨p, 0, none⟩ = some (.int .u8 c.r) ∧ w.cell? ⟨p, 1, none⟩ = some (.int .u8 c.g) ∧ w.cell? ⟨p, 2, none⟩ = some (.int .u8 c.b) ∧ w.cell? ⟨p, 3, none⟩ = some (.int .u8 c.a)
theorem Five.cells {w : World} {p1 p2 p3 p4 p5 : Nat} {c1 c2 c3 c4 c5 : Col} (h : Five w p1 p2 p3 p4 p5 c1 c2 c3 c4 c5) : Cells4 w p1 c1 ∧ Cells4 w p2 c2 ∧ Cells4 w p3 c3 ∧ Cells4 w p4 c4 ∧ Cells4 w p5 c5 := by
  obtain ⟨h1, h2, h3, h4, h5⟩ := h
  obtain ⟨a1, a2, a3, a4, -⟩ := blk4 h1
  obtain ⟨b1, b2, b3, b4, -⟩ := blk4 h2
  obtain ⟨c1, c2, c3, c4, -⟩ := blk4 h3
  obtain ⟨d1, d2, d3, d4, -⟩ := blk4 h4
  obtain ⟨e1, e2, e3, e4, -⟩ := blk4 h5
  exact ⟨⟨a1, a2, a3, a4⟩, ⟨b1, b2, b3, b4⟩, ⟨c1, c2, c3, c4⟩, ⟨d1, d2, d3, d4⟩, ⟨e1, e2, e3, e4⟩⟩
theorem blk4a {w : World} {g : Nat} {t : TypeId} {a b c d : Value} (h : Blk w g t #[a, b, c, d]) : (∀ o, (w.alloc o).cell? ⟨g, 0, none⟩ = some a) ∧ (∀ o, (w.alloc o).cell? ⟨g, 1, none⟩ = some b) ∧ (∀ o, (w.alloc o).cell? ⟨g, 2, none⟩ = some c) ∧ (∀ o, (w.alloc o).cell? ⟨g, 3, none⟩ = some d) :=
  ⟨fun o => (h.alloc o).cell 0, fun o => (h.alloc o).cell 1, fun o => (h.alloc o).cell 2, fun o => (h.alloc o).cell 3⟩

set_option maxRecDepth 100000 in
set_option maxHeartbeats 4000000 in
theorem opsColors_law (w : World) (c : Col) (hc : c.ok) (u : Col) (hu : u.ok) : Calls Try.prog 15 #[colV c, colV u] w fun e w' => e = .returned (.bool true) ∧ Below w.heap.size w w' := by
  have K1 := hide fun w' => blend_any c u hc hu w'
  have K2 := hide fun w' => inv_any c hc w'
  have J1 := hide fun w' => refBlend_any c u hc hu w'
  have J2 := hide fun w' => gray_any c hc w'
  have J3 := hide fun w' => refGray_any c hc w'
  have J4 := fun w' => inv_any (invC c) (inv_ok hc) w'
  rw [inv_inv] at J4
  have J5 := fun w' => blend_any ⟨c.r, c.g, c.b, 255⟩ u ⟨hc.1, hc.2.1, hc.2.2.1, by simp, by simp⟩ hu w'
  rw [blend_solid (c := ⟨c.r, c.g, c.b, 255⟩) rfl ⟨hc.1, hc.2.1, hc.2.2.1, by simp, by simp⟩] at J5
  have J6 := hide (show ∀ w', Calls Try.prog 68 #[colV c, .agg #[.int .u8 0, .int .u8 0, .int .u8 0, .int .u8 0]] w' fun e w'' => e = .returned (.agg #[.int .u8 (blendC c ⟨0, 0, 0, 0⟩).r, .int .u8 (blendC c ⟨0, 0, 0, 0⟩).g, .int .u8 (blendC c ⟨0, 0, 0, 0⟩).b, .int .u8 c.a]) ∧ Below w'.heap.size w' w'' from fun w' => by
    have h := blend_any c ⟨0, 0, 0, 0⟩ hc ⟨⟨by decide, by decide⟩, ⟨by decide, by decide⟩, ⟨by decide, by decide⟩, by decide, by decide⟩ w'
    have e := blend_clear hc
    refine h.mono ?_
    rintro e1 w'' ⟨rfl, hb⟩
    refine ⟨?_, hb⟩
    unfold colV
    rw [e])
  have J7 := hide fun w' => awake34 w'
  generalize (blendC c ⟨0, 0, 0, 0⟩).r = z1 at J6
  generalize (blendC c ⟨0, 0, 0, 0⟩).g = z2 at J6
  generalize (blendC c ⟨0, 0, 0, 0⟩).b = z3 at J6
  obtain ⟨d, hd⟩ : ∃ d, d = blendC c u := ⟨_, rfl⟩
  obtain ⟨v, hv⟩ : ∃ v, v = invC c := ⟨_, rfl⟩
  obtain ⟨gy, hgy⟩ : ∃ v, v = grayC c := ⟨_, rfl⟩
  obtain ⟨⟨r0, r1⟩, ⟨g0, g1⟩, ⟨b0, b1⟩, ⟨a0, a1⟩⟩ := hc
  have y1 : IntKind.u8.wrap (255 - c.r) = v.r := by rw [hv]; exact IntWalk.u8_in _ (by omega)
  have y2 : IntKind.u8.wrap (255 - c.g) = v.g := by rw [hv]; exact IntWalk.u8_in _ (by omega)
  have y3 : IntKind.u8.wrap (255 - c.b) = v.b := by rw [hv]; exact IntWalk.u8_in _ (by omega)
  have y4 : v.a = c.a := by rw [hv]; rfl
  have Y := hide (And.intro y1 (And.intro y2 (And.intro y3 y4)))
  rw [← hd] at K1 J1
  rw [← hv] at K2 J4
  rw [← hgy] at J2 J3
  simp only [colV, y4] at J4
  have J4 := hide J4
  have J5 := hide (show ∀ w', Calls Try.prog 68 #[.agg #[.int .u8 c.r, .int .u8 c.g, .int .u8 c.b, .int .u8 255], colV u] w' fun e w'' => e = .returned (.agg #[.int .u8 c.r, .int .u8 c.g, .int .u8 c.b, .int .u8 255]) ∧ Below w'.heap.size w' w'' from J5)
  clear hd hv hgy y1 y2 y3 y4 r0 r1 g0 g1 b0 b1 a0 a1 hu
  go_enter Try.func15, Try.ntmps15
  go_wp2_with (first | (go_at_call 68; (with_reducible refine (K1.out _).mono ?_); rintro e w1 ⟨rfl, hb1⟩; obtain ⟨B1, B2, hz, HW⟩ := own2 hb1; obtain ⟨m0, m1, m2, m3⟩ := blk4a B1; clear hb1; have n1 : ¬ (w.heap.size = w1.heap.size) := by omega) | (go_at_call 69; (with_reducible refine (K2.out _).mono ?_); rintro e w2 ⟨rfl, hb2⟩; obtain ⟨D1, hz2, HW2⟩ := own1 hb2; have E1 := B1.below HW2 B1.lt; have E2 := B2.below HW2 B2.lt; obtain ⟨k0, k1, k2, k3⟩ := blk4a E1; clear hb2; have n2 : ¬ (w.heap.size = w2.heap.size) := by omega))
  have F : Five ((w2.alloc (.cells #[.int .u8 v.r, .int .u8 v.g, .int .u8 v.b, .int .u8 v.a] 36)).alloc (.cells #[.int .u8 c.r, .int .u8 c.g, .int .u8 c.b, .int .u8 255] 36)) w.heap.size (w.heap.size + 1) w1.heap.size w2.heap.size (w2.heap.size + 1) c u d v ⟨c.r, c.g, c.b, 255⟩ :=
    ⟨(E1.alloc _).alloc _, (E2.alloc _).alloc _, (D1.alloc _).alloc _, (Blk.new' w2 36 _ _ rfl).alloc _, Blk.new' _ 36 _ _ (by simp)⟩
  have HB := balloc (balloc (bstep HW HW2) (.cells #[.int .u8 v.r, .int .u8 v.g, .int .u8 v.b, .int .u8 v.a] 36)) (.cells #[.int .u8 c.r, .int .u8 c.g, .int .u8 c.b, .int .u8 255] 36)
  generalize (World.alloc (World.alloc _ _) _) = W at *
  clear m0 m1 m2 m3 k0 k1 k2 k3 B1 B2 D1 E1 E2 HW2
  obtain ⟨⟨a1, a2, a3, a4⟩, ⟨b1, b2, b3, b4⟩, ⟨c1, c2, c3, c4⟩, ⟨d1, d2, d3, d4⟩, ⟨e1, e2, e3, e4⟩⟩ := F.cells
  have F0 : Five W.drew _ _ _ _ _ c u d v _ := F
  obtain ⟨y1, y2, y3, y4⟩ := Y.out
  have hfd : ∀ (W : World), (Instr.field 36 (.agg #[.int .u8 z1, .int .u8 z2, .int .u8 z3, .int .u8 c.a]) 3).run Try.prog W = .ok (.int .u8 c.a) W := fun _ => by kernel_rfl
  go_region_held3 (fun w' => w'.cell? ⟨w.heap.size, 0, none⟩ = some (.int .u8 c.r) ∧ w'.cell? ⟨w.heap.size, 1, none⟩ = some (.int .u8 c.g) ∧ w'.cell? ⟨w.heap.size, 2, none⟩ = some (.int .u8 c.b) ∧ w'.cell? ⟨w.heap.size, 3, none⟩ = some (.int .u8 c.a) ∧ w'.cell? ⟨w.heap.size + 1, 0, none⟩ = some (.int .u8 u.r) ∧ w'.cell? ⟨w.heap.size + 1, 1, none⟩ = some (.int .u8 u.g) ∧ w'.cell? ⟨w.heap.size + 1, 2, none⟩ = some (.int .u8 u.b) ∧ w'.cell? ⟨w.heap.size + 1, 3, none⟩ = some (.int .u8 u.a) ∧ w'.cell? ⟨w1.heap.size, 0, none⟩ = some (.int .u8 d.r) ∧ w'.cell? ⟨w1.heap.size, 1, none⟩ = some (.int .u8 d.g) ∧ w'.cell? ⟨w1.heap.size, 2, none⟩ = some (.int .u8 d.b) ∧ w'.cell? ⟨w1.heap.size, 3, none⟩ = some (.int .u8 d.a) ∧ w'.cell? ⟨w2.heap.size, 0, none⟩ = some (.int .u8 v.r) ∧ w'.cell? ⟨w2.heap.size, 1, none⟩ = some (.int .u8 v.g) ∧ w'.cell? ⟨w2.heap.size, 2, none⟩ = some (.int .u8 v.b) ∧ w'.cell? ⟨w2.heap.size, 3, none⟩ = some (.int .u8 v.a) ∧ w'.cell? ⟨w2.heap.size + 1, 0, none⟩ = some (.int .u8 c.r) ∧ w'.cell? ⟨w2.heap.size + 1, 1, none⟩ = some (.int .u8 c.g) ∧ w'.cell? ⟨w2.heap.size + 1, 2, none⟩ = some (.int .u8 c.b) ∧ w'.cell? ⟨w2.heap.size + 1, 3, none⟩ = some (.int .u8 255)) (go_keep) (first | (go_at_call 70; (with_reducible refine (J1.out _).mono ?_); rintro e x1 ⟨rfl, hb1⟩; have G1 := F0.below hb1; obtain ⟨⟨a1, a2, a3, a4⟩, ⟨b1, b2, b3, b4⟩, ⟨c1, c2, c3, c4⟩, ⟨d1, d2, d3, d4⟩, ⟨e1, e2, e3, e4⟩⟩ := G1.cells; have F1 := G1) | (go_at_call 71; (with_reducible refine (J2.out _).mono ?_); rintro e x2 ⟨rfl, hb2⟩; have G2 := F1.below hb2; obtain ⟨⟨a1, a2, a3, a4⟩, ⟨b1, b2, b3, b4⟩, ⟨c1, c2, c3, c4⟩, ⟨d1, d2, d3, d4⟩, ⟨e1, e2, e3, e4⟩⟩ := G2.cells; have F2 := G2) | (go_at_call 48; (with_reducible refine (J3.out _).mono ?_); rintro e x3 ⟨rfl, hb3⟩; have G3 := F2.below hb3; obtain ⟨⟨a1, a2, a3, a4⟩, ⟨b1, b2, b3, b4⟩, ⟨c1, c2, c3, c4⟩, ⟨d1, d2, d3, d4⟩, ⟨e1, e2, e3, e4⟩⟩ := G3.cells; have F3 := G3) | (go_at_call 69; (with_reducible refine (J4.out _).mono ?_); rintro e x4 ⟨rfl, hb4⟩; have G4 := F3.below hb4; obtain ⟨⟨a1, a2, a3, a4⟩, ⟨b1, b2, b3, b4⟩, ⟨c1, c2, c3, c4⟩, ⟨d1, d2, d3, d4⟩, ⟨e1, e2, e3, e4⟩⟩ := G4.cells; have F4 := G4) | (go_at_call 68; (with_reducible refine (J5.out _).mono ?_); rintro e x5 ⟨rfl, hb5⟩; have G5 := F4.below hb5; obtain ⟨⟨a1, a2, a3, a4⟩, ⟨b1, b2, b3, b4⟩, ⟨c1, c2, c3, c4⟩, ⟨d1, d2, d3, d4⟩, ⟨e1, e2, e3, e4⟩⟩ := G5.cells; have F5 := G5) | (go_at_call 68; (with_reducible refine (J6.out _).mono ?_); rintro e x6 ⟨rfl, hb6⟩; have G6 := F5.below hb6; obtain ⟨⟨a1, a2, a3, a4⟩, ⟨b1, b2, b3, b4⟩, ⟨c1, c2, c3, c4⟩, ⟨d1, d2, d3, d4⟩, ⟨e1, e2, e3, e4⟩⟩ := G6.cells; have F6 := G6) | (go_at_call 51; (with_reducible refine (J7.out _).mono ?_); rintro e x7 ⟨rfl, hb7⟩; have G7 := F6.below hb7; obtain ⟨⟨a1, a2, a3, a4⟩, ⟨b1, b2, b3, b4⟩, ⟨c1, c2, c3, c4⟩, ⟨d1, d2, d3, d4⟩, ⟨e1, e2, e3, e4⟩⟩ := G7.cells; have F7 := G7))
  go_wp2
  go_ret
  exact ⟨rfl, bstep (bstep (bstep (bstep (bstep (bstep (bstep (HB.trans (Below.refl _ W).drew) hb1) hb2) hb3) hb4) hb5) hb6) hb7⟩
end Go.Proofs.Ytkjnheikimpliaa
