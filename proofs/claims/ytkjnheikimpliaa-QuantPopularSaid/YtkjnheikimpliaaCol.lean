/- Colours turned: Gray, Invert, Blend, of the program and of the reference. -/
import Derived.Test.YtkjnheikimpliaaOwn
namespace Go.Proofs.Ytkjnheikimpliaa
set_option linter.unusedVariables false
set_option linter.unusedSimpArgs false
open Go.RowKit
attribute [local go_sem ↓] Go.wp_at_zero Go.wp_at_succ

/-- A colour without its colour. -/
def grayV (c : Col) : Int := (299 * c.r + 587 * c.g + 114 * c.b + 500) / 1000
def grayC (c : Col) : Col := ⟨grayV c, grayV c, grayV c, c.a⟩
def invC (c : Col) : Col := ⟨255 - c.r, 255 - c.g, 255 - c.b, c.a⟩

set_option maxHeartbeats 1000000 in
theorem gray_any (c : Col) (hc : c.ok) (w : World) : Calls Try.prog 71 #[colV c] w fun e w' => e = .returned (colV (grayC c)) ∧ Below w.heap.size w w' := by
  obtain ⟨r, g, b, a⟩ := c
  obtain ⟨⟨r0, r1⟩, ⟨g0, g1⟩, ⟨b0, b1⟩, ⟨a0, a1⟩⟩ := hc
  simp only at r0 r1 g0 g1 b0 b1 a0 a1
  go_enter Try.func71, Try.ntmps71
  go_wp2
  exact bodyPost_ret (v := colV (grayC ⟨r, g, b, a⟩)) (by simp [results, Try.results71, go_sem, grayC, grayV]) rfl ⟨rfl, balloc (below_alloc w _) _⟩
set_option maxHeartbeats 1000000 in
theorem refGray_any (c : Col) (hc : c.ok) (w : World) : Calls Try.prog 48 #[colV c] w fun e w' => e = .returned (colV (grayC c)) ∧ Below w.heap.size w w' := by
  obtain ⟨r, g, b, a⟩ := c
  obtain ⟨⟨r0, r1⟩, ⟨g0, g1⟩, ⟨b0, b1⟩, ⟨a0, a1⟩⟩ := hc
  simp only at r0 r1 g0 g1 b0 b1 a0 a1
  go_enter Try.func48, Try.ntmps48
  go_wp2
  exact bodyPost_ret (v := colV (grayC ⟨r, g, b, a⟩)) (by simp [results, Try.results48, go_sem, grayC, grayV]) rfl ⟨rfl, balloc (below_alloc w _) _⟩
set_option maxHeartbeats 1000000 in
theorem inv_any (c : Col) (hc : c.ok) (w : World) : Calls Try.prog 69 #[colV c] w fun e w' => e = .returned (colV (invC c)) ∧ Below w.heap.size w w' := by
  obtain ⟨r, g, b, a⟩ := c
  obtain ⟨⟨r0, r1⟩, ⟨g0, g1⟩, ⟨b0, b1⟩, ⟨a0, a1⟩⟩ := hc
  simp only at r0 r1 g0 g1 b0 b1 a0 a1
  go_enter Try.func69, Try.ntmps69
  go_wp2
  exact bodyPost_ret (v := colV (invC ⟨r, g, b, a⟩)) (by simp [results, Try.results69, go_sem, invC]) rfl ⟨rfl, balloc (below_alloc w _) _⟩

/-- A channel of a blend: a and b parts of n. -/
def mixV (a b n x y : Int) : Int := (a * x + b * y + n / 2) / n
def blendC (c u : Col) : Col :=
  if 255 * c.a + u.a * (255 - c.a) = 0 then ⟨0, 0, 0, 0⟩
  else ⟨mixV (255 * c.a) (u.a * (255 - c.a)) (255 * c.a + u.a * (255 - c.a)) c.r u.r, mixV (255 * c.a) (u.a * (255 - c.a)) (255 * c.a + u.a * (255 - c.a)) c.g u.g, mixV (255 * c.a) (u.a * (255 - c.a)) (255 * c.a + u.a * (255 - c.a)) c.b u.b, (255 * c.a + u.a * (255 - c.a) + 127) / 255⟩
theorem mix_bd {a b n x y : Int} (ha : 0 ≤ a) (hb : 0 ≤ b) (hn : n = a + b) (hp : 0 < n) (hx : 0 ≤ x ∧ x ≤ 255) (hy : 0 ≤ y ∧ y ≤ 255) :
    (0 ≤ a * x ∧ a * x ≤ 255 * a) ∧ (0 ≤ b * y ∧ b * y ≤ 255 * b) ∧ 0 ≤ mixV a b n x y ∧ mixV a b n x y ≤ 255 := by
  have a1 : 0 ≤ a * x := Int.mul_nonneg ha hx.1
  have a2 : a * x ≤ a * 255 := Int.mul_le_mul_of_nonneg_left hx.2 ha
  have b1 : 0 ≤ b * y := Int.mul_nonneg hb hy.1
  have b2 : b * y ≤ b * 255 := Int.mul_le_mul_of_nonneg_left hy.2 hb
  have h1 : 0 ≤ mixV a b n x y := Int.ediv_nonneg (by omega) (by omega)
  have h2 : mixV a b n x y < 256 := Int.ediv_lt_of_lt_mul hp (by omega)
  exact ⟨⟨a1, by omega⟩, ⟨b1, by omega⟩, h1, by omega⟩

set_option maxHeartbeats 1000000 in
theorem mix_any (a b n x y : Int) (ha : 0 ≤ a ∧ a ≤ 65025) (hb : 0 ≤ b ∧ b ≤ 65025) (hn : n = a + b) (hp : 0 < n) (hx : 0 ≤ x ∧ x ≤ 255) (hy : 0 ≤ y ∧ y ≤ 255) (pa pb pn : Nat) (w : World) (h1 : Blk w pa 3 #[.int .i64 a]) (h2 : Blk w pb 3 #[.int .i64 b]) (h3 : Blk w pn 3 #[.int .i64 n]) :
    Calls Try.prog 118 #[.int .u8 x, .int .u8 y, .pointer (some ⟨pa, 0, none⟩), .pointer (some ⟨pb, 0, none⟩), .pointer (some ⟨pn, 0, none⟩)] w fun e w' => e = .returned (.int .u8 (mixV a b n x y)) ∧ w = w' := by
  obtain ⟨⟨q1, q2⟩, ⟨q3, q4⟩, q5, q6⟩ := mix_bd ha.1 hb.1 hn hp hx hy
  unfold mixV at q5 q6 ⊢
  obtain ⟨c1, -⟩ := blk1 h1
  obtain ⟨c2, -⟩ := blk1 h2
  obtain ⟨c3, -⟩ := blk1 h3
  have hn1 : 0 < n := hp
  have hn2 : n ≤ 130050 := by omega
  have hn0 : (n == 0) = false := by simp; omega
  clear hn h1 h2 h3
  go_enter Try.func118, Try.ntmps118
  go_wp2
  go_ret
  exact ⟨rfl, rfl⟩
theorem blendN_bd {ca ua : Int} (hc : 0 ≤ ca ∧ ca ≤ 255) (hu : 0 ≤ ua ∧ ua ≤ 255) : 0 ≤ ua * (255 - ca) ∧ ua * (255 - ca) ≤ 65025 ∧ 255 * ca + ua * (255 - ca) ≤ 65025 := by
  have a1 : 0 ≤ ua * (255 - ca) := Int.mul_nonneg hu.1 (by omega)
  have a2 : ua * (255 - ca) ≤ 255 * (255 - ca) := Int.mul_le_mul_of_nonneg_right hu.2 (by omega)
  omega

set_option maxRecDepth 100000 in
set_option maxHeartbeats 4000000 in
theorem blend_any (c u : Col) (hc : c.ok) (hu : u.ok) (w : World) : Calls Try.prog 68 #[colV c, colV u] w fun e w' => e = .returned (colV (blendC c u)) ∧ Below w.heap.size w w' := by
  obtain ⟨cr, cg, cb, ca⟩ := c
  obtain ⟨ur, ug, ub, ua⟩ := u
  obtain ⟨⟨r0, r1⟩, ⟨g0, g1⟩, ⟨b0, b1⟩, ⟨a0, a1⟩⟩ := hc
  obtain ⟨⟨R0, R1⟩, ⟨G0, G1⟩, ⟨B0, B1⟩, ⟨A0, A1⟩⟩ := hu
  simp only at r0 r1 g0 g1 b0 b1 a0 a1 R0 R1 G0 G1 B0 B1 A0 A1
  obtain ⟨q0, q1, q2⟩ := blendN_bd ⟨a0, a1⟩ ⟨A0, A1⟩
  by_cases hn : 255 * ca + ua * (255 - ca) = 0
  · have hf := hide (show blendC ⟨cr, cg, cb, ca⟩ ⟨ur, ug, ub, ua⟩ = ⟨0, 0, 0, 0⟩ by unfold blendC; rw [if_pos hn])
    have hn0 : (255 * ca + ua * (255 - ca) == 0) = true := by simpa using hn
    clear hn
    rw [hf.out]
    go_enter Try.func68, Try.ntmps68
    go_wp2
    exact bodyPost_ret (v := colV ⟨0, 0, 0, 0⟩) (by simp [results, Try.results68, go_sem]) rfl ⟨rfl, by repeat (first | (with_reducible exact Below.refl _ _) | (with_reducible refine bset ?_ _ _ (by omega) _) | (with_reducible refine balloc ?_ _))⟩
  · have hn0 : (255 * ca + ua * (255 - ca) == 0) = false := by simpa using hn
    have hp : 0 < 255 * ca + ua * (255 - ca) := by omega
    have hf := hide (show blendC ⟨cr, cg, cb, ca⟩ ⟨ur, ug, ub, ua⟩ = ⟨mixV (255 * ca) (ua * (255 - ca)) (255 * ca + ua * (255 - ca)) cr ur, mixV (255 * ca) (ua * (255 - ca)) (255 * ca + ua * (255 - ca)) cg ug, mixV (255 * ca) (ua * (255 - ca)) (255 * ca + ua * (255 - ca)) cb ub, (255 * ca + ua * (255 - ca) + 127) / 255⟩ by unfold blendC; rw [if_neg hn])
    have K := hide fun (x y : Int) (hx : 0 ≤ x ∧ x ≤ 255) (hy : 0 ≤ y ∧ y ≤ 255) => mix_any (255 * ca) (ua * (255 - ca)) (255 * ca + ua * (255 - ca)) x y (by omega) ⟨q0, q1⟩ rfl hp hx hy
    clear hn
    rw [hf.out]
    go_enter Try.func68, Try.ntmps68
    go_wp2
    obtain ⟨C1, C2, C3, C4, C5, C6, hz, HW⟩ := own6 (w := w) (c1 := #[.int .u8 cr, .int .u8 cg, .int .u8 cb, .int .u8 ca]) (t1 := 36) (c2 := #[.int .u8 ur, .int .u8 ug, .int .u8 ub, .int .u8 ua]) (t2 := 36) (c3 := #[.int .u8 0, .int .u8 0, .int .u8 0, .int .u8 0]) (t3 := 36) (c4 := #[.int .i64 (255 * ca)]) (t4 := 3) (c5 := #[.int .i64 (ua * (255 - ca))]) (t5 := 3) (c6 := #[.int .i64 (255 * ca + ua * (255 - ca))]) (t6 := 3) (Below.refl _ _)
    generalize World.alloc _ (Obj.cells #[Value.int IntKind.i64 (255 * ca + ua * (255 - ca))] 3) = W at *
    obtain ⟨m0, m1, m2, -⟩ := blk4 C1
    obtain ⟨n0, n1, n2, -⟩ := blk4 C2
    obtain ⟨s0, s1, s2, s3, f0, f1, f2, f3⟩ := blk4 C3
    obtain ⟨k0, -⟩ := blk1 C6
    have ne1 : ¬ (w.heap.size + 1 + 1 = w.heap.size) := by omega
    have ne2 : ¬ (w.heap.size = w.heap.size + 1 + 1) := by omega
    have t1 : IntKind.i64.wrap (255 * ca + ua * (255 - ca) + 127) = 255 * ca + ua * (255 - ca) + 127 := IntWalk.i64_in _ (by omega)
    have t2 : (255 * ca + ua * (255 - ca) + 127).tdiv 255 = (255 * ca + ua * (255 - ca) + 127) / 255 := Int.tdiv_eq_ediv_of_nonneg (by omega)
    have t3 : IntKind.i64.wrap ((255 * ca + ua * (255 - ca) + 127) / 255) = (255 * ca + ua * (255 - ca) + 127) / 255 := IntWalk.i64_in _ (by omega)
    have t4 : IntKind.u8.wrap ((255 * ca + ua * (255 - ca) + 127) / 255) = (255 * ca + ua * (255 - ca) + 127) / 255 := IntWalk.u8_in _ (by omega)
    have D4 : Blk W.drew _ _ _ := C4
    have D5 : Blk W.drew _ _ _ := C5
    have D6 : Blk W.drew _ _ _ := C6
    go_region_held3 (fun w' => w'.cell? ⟨w.heap.size, 0, none⟩ = some (.int .u8 cr) ∧ w'.cell? ⟨w.heap.size, 1, none⟩ = some (.int .u8 cg) ∧ w'.cell? ⟨w.heap.size, 2, none⟩ = some (.int .u8 cb) ∧ w'.cell? ⟨w.heap.size + 1, 0, none⟩ = some (.int .u8 ur) ∧ w'.cell? ⟨w.heap.size + 1, 1, none⟩ = some (.int .u8 ug) ∧ w'.cell? ⟨w.heap.size + 1, 2, none⟩ = some (.int .u8 ub) ∧ w'.cell? ⟨w.heap.size + 1 + 1 + 1 + 1 + 1, 0, none⟩ = some (.int .i64 (255 * ca + ua * (255 - ca)))) (go_keep) (first | (go_at_call 118; (with_reducible refine (K.out _ _ ?_ ?_ _ _ _ _ D4 D5 D6).mono ?_); exact ⟨by assumption, by assumption⟩; exact ⟨by assumption, by assumption⟩; rintro e w6 ⟨rfl, rfl⟩))
    go_wp2
    exact bodyPost_ret (v := colV ⟨mixV (255 * ca) (ua * (255 - ca)) (255 * ca + ua * (255 - ca)) cr ur, mixV (255 * ca) (ua * (255 - ca)) (255 * ca + ua * (255 - ca)) cg ug, mixV (255 * ca) (ua * (255 - ca)) (255 * ca + ua * (255 - ca)) cb ub, (255 * ca + ua * (255 - ca) + 127) / 255⟩) (by simp [results, Try.results68, go_sem, s0, s1, s2, s3]) rfl ⟨rfl, by repeat (first | (with_reducible exact HW) | (with_reducible refine bset ?_ _ _ (by omega) _) | (with_reducible apply Below.drew))⟩
end Go.Proofs.Ytkjnheikimpliaa
