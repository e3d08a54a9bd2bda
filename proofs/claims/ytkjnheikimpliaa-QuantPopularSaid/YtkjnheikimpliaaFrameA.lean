/- ops.Frame: walked. -/
import Derived.Test.YtkjnheikimpliaaDithC
import Derived.Test.YtkjnheikimpliaaLawSize
namespace Go.Proofs.Ytkjnheikimpliaa
set_option linter.unusedVariables false
set_option linter.unusedSimpArgs false
open Go.RowKit
attribute [local go_sem ↓] Go.wp_at_zero Go.wp_at_succ

theorem enters119 (args : Array Value) (w : World) : (callFunc 119 args).run Try.prog w = .ok (.enter 119 args) w := enters_of Try.func119 (by kernel_rfl) rfl args w
/-- The pixels of an image in a frame. -/
def framePx (l : List Int) (W H L T : Nat) (c : Col) (x y : Nat) : Col := if (L ≤ x ∧ x < L + W) ∧ T ≤ y ∧ y < T + H then imgPx l W (x - L) (y - T) else c

theorem blk4f' {w : World} {g : Nat} {t : TypeId} {a b c d : Value} (h : Blk w g t #[a, b, c, d]) :
    (∀ o, (w.alloc o).cell? ⟨g, 0, none⟩ = some a) ∧ (∀ o, (w.alloc o).cell? ⟨g, 1, none⟩ = some b) ∧ (∀ o, (w.alloc o).cell? ⟨g, 2, none⟩ = some c) ∧ (∀ o, (w.alloc o).cell? ⟨g, 3, none⟩ = some d) ∧
    (∀ o, (w.alloc o).frozen? ⟨g, 0, none⟩ = false) ∧ (∀ o, (w.alloc o).frozen? ⟨g, 1, none⟩ = false) ∧ (∀ o, (w.alloc o).frozen? ⟨g, 2, none⟩ = false) ∧ (∀ o, (w.alloc o).frozen? ⟨g, 3, none⟩ = false) :=
  ⟨fun o => (h.alloc o).cell 0, fun o => (h.alloc o).cell 1, fun o => (h.alloc o).cell 2, fun o => (h.alloc o).cell 3, fun o => (h.alloc o).frozen 0, fun o => (h.alloc o).frozen 1, fun o => (h.alloc o).frozen 2, fun o => (h.alloc o).frozen 3⟩
set_option maxHeartbeats 4000000 in
theorem frame1_any (W H L T : Nat) (A : Option Addr) (l : List Int) (cap : Nat) (c : Col) (x y : Nat) (gm gl gt gc : Nat) (v : World) (hR : rightI W H l.length) (hr : RowAt v v.heap.size .u8 A l) (hcap : l.length ≤ cap) (hL : L ≤ 16384) (hT : T ≤ 16384) (hx : x ≤ 65536) (hy : y ≤ 65536)
    (hM : Blk v gm 34 #[.int .i64 W, .int .i64 H, .slice A l.length cap]) (hGL : Blk v gl 3 #[.int .i64 (L : Int)]) (hGT : Blk v gt 3 #[.int .i64 (T : Int)]) (hC : Blk v gc 36 #[.int .u8 c.r, .int .u8 c.g, .int .u8 c.b, .int .u8 c.a]) :
    Calls Try.prog 119 #[.int .i64 (x : Int), .int .i64 (y : Int), .pointer (some ⟨gm, 0, none⟩), .pointer (some ⟨gl, 0, none⟩), .pointer (some ⟨gt, 0, none⟩), .pointer (some ⟨gc, 0, none⟩)] v fun e v' => e = .returned (colV (framePx l W H L T c x y)) ∧ Below v.heap.size v v' := by
  have hb0 := below_alloc v (.cells #[.int .u8 0, .int .u8 0, .int .u8 0, .int .u8 0] 36)
  have hr0 := (hr.below hb0 (Nat.le_refl _)).more hb0.size
  have hM0 := hM.below hb0 hM.lt
  have hL0 := hGL.below hb0 hGL.lt
  have hT0 := hGT.below hb0 hGT.lt
  have hC0 := hC.below hb0 hC.lt
  have hO0 := Blk.new v 36 #[.int .u8 0, .int .u8 0, .int .u8 0, .int .u8 0]
  have lm := hM.lt
  have ll := hGL.lt
  have lt := hGT.lt
  have lc := hC.lt
  by_cases hin : (L ≤ x ∧ x < L + W) ∧ T ≤ y ∧ y < T + H
  · have K := hide fun (w' : World) (hr' : RowAt w' w'.heap.size .u8 A l) => (pixel_yes W H A l cap ((x : Int) - L) ((y : Int) - T) w' hR hr' hcap (by omega) (by omega)).mono (R' := fun e w'' => e = .returned (.tuple #[colV (imgPx l W (x - L) (y - T)), .bool true]) ∧ Below w'.heap.size w' w'') (by
      rintro e w'' ⟨rfl, hb⟩
      refine ⟨?_, hb⟩
      have e1 : (x : Int) - L = ((x - L : Nat) : Int) := by omega
      have e2 : (y : Int) - T = ((y - T : Nat) : Int) := by omega
      unfold imgPx
      rw [e1, e2, nat_idx])
    have hpx : framePx l W H L T c x y = imgPx l W (x - L) (y - T) := by unfold framePx; rw [if_pos hin]
    rw [hpx]
    obtain ⟨d, hd⟩ : ∃ d, d = imgPx l W (x - L) (y - T) := ⟨_, rfl⟩
    rw [← hd] at K ⊢
    obtain ⟨y0, y1, y2, y3⟩ := d
    obtain ⟨m0, m1, m2, -⟩ := blk3 hM0
    have l0 := hL0.cell 0
    have t0 := hT0.cell 0
    simp only [List.getElem?_toArray, List.getElem?_cons_succ, List.getElem?_cons_zero] at l0 t0
    have HR := hide hr0
    clear hR hr hcap hpx hd hM hGL hGT hC hr0
    go_enter Try.func119, Try.ntmps119
    go_wp2_with (go_at_call 120; (with_reducible refine (K.out _ HR.out).mono ?_); rintro e w1 ⟨rfl, hb1⟩; have hO1 := hO0.below hb1 hO0.lt; obtain ⟨o0, o1, o2, o3, g0, g1, g2, g3⟩ := blk4 hO1; obtain ⟨p0, p1, p2, p3, q0, q1, q2, q3⟩ := blk4f' hO1; have lO := hO1.lt; have n1 : ¬ v.heap.size = w1.heap.size := (by omega); have n2 : ¬ w1.heap.size = v.heap.size := (by omega))
    refine bodyPost_ret (v := colV ⟨y0, y1, y2, y3⟩) (by simp [results, Try.results119, go_sem, lO, o0, o1, o2, o3, p0, p1, p2, p3]) rfl ⟨rfl, ?_⟩
    have hbw := bstep hb0 hb1
    repeat (first | (with_reducible exact hbw) | (with_reducible refine bset ?_ _ _ (by omega) _) | (with_reducible refine balloc ?_ _) | (with_reducible apply Below.drew))
  · have K := hide fun (w' : World) => pixel_no W H A l cap ((x : Int) - L) ((y : Int) - T) w' hR (by omega)
    have hpx : framePx l W H L T c x y = c := by unfold framePx; rw [if_neg hin]
    rw [hpx]
    obtain ⟨m0, m1, m2, -⟩ := blk3 hM0
    have l0 := hL0.cell 0
    have t0 := hT0.cell 0
    simp only [List.getElem?_toArray, List.getElem?_cons_succ, List.getElem?_cons_zero] at l0 t0
    obtain ⟨y0, y1, y2, y3⟩ := c
    clear hR hr hcap hpx hM hGL hGT hC hr0
    go_enter Try.func119, Try.ntmps119
    go_wp2_with (go_at_call 120; (with_reducible refine (K.out _).mono ?_); rintro e w1 ⟨rfl, hb1⟩; have hO1 := hO0.below hb1 hO0.lt; have hC1 := hC0.below hb1 hC0.lt; obtain ⟨o0, o1, o2, o3, g0, g1, g2, g3⟩ := blk4 hO1; obtain ⟨p0, p1, p2, p3, q0, q1, q2, q3⟩ := blk4f' hO1; obtain ⟨c0, c1, c2, c3, -⟩ := blk4f' hC1; have lO := hO1.lt; have n1 : ¬ v.heap.size = w1.heap.size := (by omega); have n2 : ¬ w1.heap.size = v.heap.size := (by omega))
    refine bodyPost_ret (v := colV ⟨y0, y1, y2, y3⟩) (by simp [results, Try.results119, go_sem, lO, o0, o1, o2, o3, p0, p1, p2, p3]) rfl ⟨rfl, ?_⟩
    have hbw := bstep hb0 hb1
    repeat (first | (with_reducible exact hbw) | (with_reducible refine bset ?_ _ _ (by omega) _) | (with_reducible refine balloc ?_ _) | (with_reducible apply Below.drew))
end Go.Proofs.Ytkjnheikimpliaa
