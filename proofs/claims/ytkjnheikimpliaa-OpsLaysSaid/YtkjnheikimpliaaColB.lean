/- The reference's Blend. -/
import Derived.Test.YtkjnheikimpliaaCol
namespace Go.Proofs.Ytkjnheikimpliaa
set_option linter.unusedVariables false
set_option linter.unusedSimpArgs false
open Go.RowKit
attribute [local go_sem ↓] Go.wp_at_zero Go.wp_at_succ

theorem mix_facts {a b x y : Int} (ha : 0 ≤ a) (hb : 0 ≤ b) (hp : 0 < a + b) (hq : a + b ≤ 65025) (hx : 0 ≤ x ∧ x ≤ 255) (hy : 0 ≤ y ∧ y ≤ 255) :
    IntKind.i64.wrap (a * x) = a * x ∧ IntKind.i64.wrap (b * y) = b * y ∧ IntKind.i64.wrap (a * x + b * y) = a * x + b * y ∧ IntKind.i64.wrap (a * x + b * y + (a + b) / 2) = a * x + b * y + (a + b) / 2 ∧
    (a * x + b * y + (a + b) / 2).tdiv (a + b) = mixV a b (a + b) x y ∧ IntKind.i64.wrap (mixV a b (a + b) x y) = mixV a b (a + b) x y ∧ IntKind.u8.wrap (mixV a b (a + b) x y) = mixV a b (a + b) x y := by
  obtain ⟨⟨q1, q2⟩, ⟨q3, q4⟩, q5, q6⟩ := mix_bd (n := a + b) ha hb rfl hp hx hy
  exact ⟨IntWalk.i64_in _ (by omega), IntWalk.i64_in _ (by omega), IntWalk.i64_in _ (by omega), IntWalk.i64_in _ (by omega), Int.tdiv_eq_ediv_of_nonneg (by omega), IntWalk.i64_in _ (by omega), IntWalk.u8_in _ (by omega)⟩
theorem sum_facts {a b : Int} (ha : 0 ≤ a) (hb : 0 ≤ b) (hq : a + b ≤ 65025) :
    (a + b).tdiv 2 = (a + b) / 2 ∧ IntKind.i64.wrap ((a + b) / 2) = (a + b) / 2 ∧ IntKind.i64.wrap (a + b + 127) = a + b + 127 ∧ (a + b + 127).tdiv 255 = (a + b + 127) / 255 ∧ IntKind.i64.wrap ((a + b + 127) / 255) = (a + b + 127) / 255 ∧ IntKind.u8.wrap ((a + b + 127) / 255) = (a + b + 127) / 255 :=
  ⟨Int.tdiv_eq_ediv_of_nonneg (by omega), IntWalk.i64_in _ (by omega), IntWalk.i64_in _ (by omega), Int.tdiv_eq_ediv_of_nonneg (by omega), IntWalk.i64_in _ (by omega), IntWalk.u8_in _ (by omega)⟩

set_option maxRecDepth 100000 in
set_option maxHeartbeats 4000000 in
theorem refBlend_any (c u : Col) (hc : c.ok) (hu : u.ok) (w : World) : Calls Try.prog 70 #[colV c, colV u] w fun e w' => e = .returned (colV (blendC c u)) ∧ Below w.heap.size w w' := by
  obtain ⟨cr, cg, cb, ca⟩ := c
  obtain ⟨ur, ug, ub, ua⟩ := u
  obtain ⟨⟨r0, r1⟩, ⟨g0, g1⟩, ⟨b0, b1⟩, ⟨a0, a1⟩⟩ := hc
  obtain ⟨⟨R0, R1⟩, ⟨G0, G1⟩, ⟨B0, B1⟩, ⟨A0, A1⟩⟩ := hu
  simp only at r0 r1 g0 g1 b0 b1 a0 a1 R0 R1 G0 G1 B0 B1 A0 A1
  obtain ⟨q0, q1, q2⟩ := blendN_bd ⟨a0, a1⟩ ⟨A0, A1⟩
  have ec : (255 - ca) * ua = ua * (255 - ca) := Int.mul_comm _ _
  have hf0 : blendC ⟨cr, cg, cb, ca⟩ ⟨ur, ug, ub, ua⟩ = if 255 * ca + (255 - ca) * ua = 0 then ⟨0, 0, 0, 0⟩ else ⟨mixV (255 * ca) ((255 - ca) * ua) (255 * ca + (255 - ca) * ua) cr ur, mixV (255 * ca) ((255 - ca) * ua) (255 * ca + (255 - ca) * ua) cg ug, mixV (255 * ca) ((255 - ca) * ua) (255 * ca + (255 - ca) * ua) cb ub, (255 * ca + (255 - ca) * ua + 127) / 255⟩ := by unfold blendC; rw [ec]
  rw [← ec] at q0 q1 q2
  clear ec
  by_cases hn : 255 * ca + (255 - ca) * ua = 0
  · rw [hf0, if_pos hn]
    have hn0 : (255 * ca + (255 - ca) * ua == 0) = true := by simpa using hn
    clear hn hf0
    go_enter Try.func70, Try.ntmps70
    go_wp2
    exact bodyPost_ret (v := colV ⟨0, 0, 0, 0⟩) (by simp [results, Try.results70, go_sem]) rfl ⟨rfl, by repeat (first | (with_reducible exact Below.refl _ _) | (with_reducible refine bset ?_ _ _ (by omega) _) | (with_reducible refine balloc ?_ _))⟩
  · have hn0 : (255 * ca + (255 - ca) * ua == 0) = false := by simpa using hn
    have hp : 0 < 255 * ca + (255 - ca) * ua := by omega
    rw [hf0, if_neg hn]
    have hca : 0 ≤ 255 * ca := by omega
    have F1 := mix_facts (x := cr) (y := ur) hca q0 hp q2 ⟨r0, r1⟩ ⟨R0, R1⟩
    have F2 := mix_facts (x := cg) (y := ug) hca q0 hp q2 ⟨g0, g1⟩ ⟨G0, G1⟩
    have F3 := mix_facts (x := cb) (y := ub) hca q0 hp q2 ⟨b0, b1⟩ ⟨B0, B1⟩
    have F0 := sum_facts hca q0 q2
    have HF1 := hide F1
    have HF2 := hide F2
    have HF3 := hide F3
    have HF0 := hide F0
    clear hn hf0 F0 F1 F2 F3
    go_enter Try.func70, Try.ntmps70
    go_wp2
    obtain ⟨C1, C2, C3, hz, HW⟩ := own3 (w := w) (c1 := #[.int .u8 cr, .int .u8 cg, .int .u8 cb, .int .u8 ca]) (t1 := 36) (c2 := #[.int .u8 ur, .int .u8 ug, .int .u8 ub, .int .u8 ua]) (t2 := 36) (c3 := #[.int .u8 0, .int .u8 0, .int .u8 0, .int .u8 0]) (t3 := 36) (Below.refl _ _)
    generalize World.alloc _ (Obj.cells #[Value.int IntKind.u8 0, Value.int IntKind.u8 0, Value.int IntKind.u8 0, Value.int IntKind.u8 0] 36) = W at *
    generalize eA : 255 * ca = a at *
    generalize eB : (255 - ca) * ua = b at *
    obtain ⟨m0, m1, m2, -⟩ := blk4 C1
    obtain ⟨n0, n1, n2, -⟩ := blk4 C2
    obtain ⟨s0, s1, s2, s3, f0, f1, f2, f3⟩ := blk4 C3
    have ne1 : ¬ (w.heap.size + 1 + 1 = w.heap.size) := by omega
    have ne2 : ¬ (w.heap.size = w.heap.size + 1 + 1) := by omega
    have hne : ¬ (a + b = 0) := by omega
    obtain ⟨t1, t2, t3, t4, t5, t6⟩ := HF0.out
    obtain ⟨u1, u2, u3, u4, u5, u6, u7⟩ := HF1.out
    obtain ⟨v1, v2, v3, v4, v5, v6, v7⟩ := HF2.out
    obtain ⟨x1, x2, x3, x4, x5, x6, x7⟩ := HF3.out
    go_region_held3 (fun w' => w'.cell? ⟨w.heap.size, 0, none⟩ = some (.int .u8 cr) ∧ w'.cell? ⟨w.heap.size, 1, none⟩ = some (.int .u8 cg) ∧ w'.cell? ⟨w.heap.size, 2, none⟩ = some (.int .u8 cb) ∧ w'.cell? ⟨w.heap.size + 1, 0, none⟩ = some (.int .u8 ur) ∧ w'.cell? ⟨w.heap.size + 1, 1, none⟩ = some (.int .u8 ug) ∧ w'.cell? ⟨w.heap.size + 1, 2, none⟩ = some (.int .u8 ub)) (go_keep) (fail)
    go_wp2
    have y1 : IntKind.i64.wrap cr = cr := IntWalk.i64_in _ (by omega)
    have y2 : IntKind.i64.wrap cg = cg := IntWalk.i64_in _ (by omega)
    have y3 : IntKind.i64.wrap cb = cb := IntWalk.i64_in _ (by omega)
    have y4 : IntKind.i64.wrap ur = ur := IntWalk.i64_in _ (by omega)
    have y5 : IntKind.i64.wrap ug = ug := IntWalk.i64_in _ (by omega)
    have y6 : IntKind.i64.wrap ub = ub := IntWalk.i64_in _ (by omega)
    exact bodyPost_ret (v := colV ⟨mixV a b (a + b) cr ur, mixV a b (a + b) cg ug, mixV a b (a + b) cb ub, (a + b + 127) / 255⟩) (by simp [results, Try.results70, go_sem, s0, s1, s2, s3, y1, y2, y3, y4, y5, y6, u1, u2, u3, u4, u5, u6, u7, v1, v2, v3, v4, v5, v6, v7, x1, x2, x3, x4, x5, x6, x7]) rfl ⟨by subst eA; subst eB; rfl, by repeat (first | (with_reducible exact HW) | (with_reducible refine bset ?_ _ _ (by omega) _) | (with_reducible apply Below.drew))⟩
end Go.Proofs.Ytkjnheikimpliaa
