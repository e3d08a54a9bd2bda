/- cmp.Box, cmp.Trim: walked. -/
import Derived.Test.YtkjnheikimpliaaBoxA
import Derived.Test.YtkjnheikimpliaaLawSize
namespace Go.Proofs.Ytkjnheikimpliaa
set_option linter.unusedVariables false
set_option linter.unusedSimpArgs false
open Go.RowKit
attribute [local go_sem ↓] Go.wp_at_zero Go.wp_at_succ

theorem enters132 (args : Array Value) (w : World) : (callFunc 132 args).run Try.prog w = .ok (.enter 132 args) w := enters_of Try.func132 (by kernel_rfl) rfl args w

set_option maxHeartbeats 2000000 in
theorem box1_any (gc ga : Nat) (b : Bx) (x y : Int) (o c : Col) (w : World) (hC : Blk w gc 36 (col4 c)) (hA : Blk w ga 124 b.cells) (hne : gc ≠ ga) :
    Calls Try.prog 132 #[.int .i64 x, .int .i64 y, colV o, .pointer (some ⟨gc, 0, none⟩), .pointer (some ⟨ga, 0, none⟩)] w fun e w' =>
      e = .returned (.tuple #[]) ∧ Blk w' ga 124 (if o = c then b else b.add x y).cells ∧ w.heap.size ≤ w'.heap.size ∧ (∀ k, k < w.heap.size → k ≠ ga → w'.heap[k]? = w.heap[k]?) ∧ ∀ B, B ≤ ga → Below B w w' := by
  have lc := hC.lt
  have la := hA.lt
  have hC1 := blk4f hC
  obtain ⟨c0, c1, c2, c3, -⟩ := hC1
  by_cases he : o = c
  · have e4 : o.r = c.r ∧ o.g = c.g ∧ o.b = c.b ∧ o.a = c.a := by rw [he]; exact ⟨rfl, rfl, rfl, rfl⟩
    have q1 : (o.r == c.r) = true := by simpa using e4.1
    have q2 : (o.g == c.g) = true := by simpa using e4.2.1
    have q3 : (o.b == c.b) = true := by simpa using e4.2.2.1
    have q4 : (o.a == c.a) = true := by simpa using e4.2.2.2
    rw [if_pos he]
    have HA := hide hA
    clear e4 he hA hC
    go_enter Try.func132, Try.ntmps132
    go_wp2_with fail
    go_end0
    exact ⟨rfl, HA.out.alloc _, by simp, fun k hk _ => Below.heap_alloc _ _ _ hk, fun B hB => (Below.refl B w).alloc (by omega) _⟩
  · have hq : ¬ (o.r = c.r ∧ o.g = c.g ∧ o.b = c.b ∧ o.a = c.a) := fun h => he (by cases o; cases c; simp_all)
    rw [if_neg he]
    have HQ := hide hq
    have HA := hide hA
    have HC := hide hC
    clear he hA hC hq
    go_enter Try.func132, Try.ntmps132
    go_upto_region 1 with fail
    go_cut [10] (fun s wx => s = .bool true ∧ wx = w.alloc (.cells (col4 o) 36))
    case first =>
      have hq := HQ.out
      go_wp2_with fail
      all_goals
        go_meet
        exact ⟨by simp [*], by simp [col4, *]⟩
    case rest =>
      obtain ⟨rfl, rfl⟩ := hcut
      have hA1 := HA.out.alloc (.cells (col4 o) 36)
      go_wp2_with fail
      refine (bxadd_any ga b x y _ hA1).mono ?_
      rintro e V2 ⟨rfl, a2, s2, k2, w2⟩
      have HA2 := hide a2
      have HS2 := hide s2
      have HK2 := hide k2
      have HW2 := hide w2
      clear a2 s2 k2 w2
      go_wp2_with fail
      go_end0
      refine ⟨rfl, HA2.out, by rw [HS2.out]; simp, fun k hk hne => by rw [HK2.out k hne, Below.heap_alloc _ _ _ hk], fun B hB => ((Below.refl B w).alloc (by omega) _).trans (HW2.out B hB)⟩

/-- Which pixels are another colour. -/
def diffMk (l : List Int) (W : Nat) (c : Col) (k : Nat) : Bool := !decide (imgPx l W (k % W) (k / W) = c)
theorem diffMk_at (l : List Int) (W : Nat) (c : Col) (x y : Nat) (hx : x < W) : markN W (diffMk l W c) (y * W + x + 1) = if imgPx l W x y = c then markN W (diffMk l W c) (y * W + x) else (markN W (diffMk l W c) (y * W + x)).add (x : Int) (y : Int) := by
  have e1 : (y * W + x) % W = x := by rw [Nat.mul_comm, Nat.mul_add_mod, Nat.mod_eq_of_lt hx]
  have e2 : (y * W + x) / W = y := by rw [Nat.mul_comm, Nat.mul_add_div (by omega), Nat.div_eq_of_lt hx, Nat.add_zero]
  show (if diffMk l W c (y * W + x) then _ else _) = _
  unfold diffMk
  rw [e1, e2]
  by_cases h : imgPx l W x y = c
  · rw [if_pos h]; simp [h]
  · rw [if_neg h]; simp [h]

/-- What Box's rounds keep. -/
structure BoxI (w : World) (X Y : Int) (A : Option Addr) (n cap : Nat) (c : Col) (b : Bx) (v : World) : Prop where
  below : Below w.heap.size w v
  m : Blk v w.heap.size 34 #[.int .i64 X, .int .i64 Y, .slice A n cap]
  c : Blk v (w.heap.size + 1) 36 (col4 c)
  a : Blk v (w.heap.size + 1 + 1) 124 b.cells
theorem BoxI.keep {w v v' : World} {X Y : Int} {A : Option Addr} {n cap B : Nat} {c : Col} {b : Bx} (h : BoxI w X Y A n cap c b v) (hB : w.heap.size + 1 + 1 < B) (hb : Below B v v') : BoxI w X Y A n cap c b v' :=
  ⟨h.below.trans (hb.mono (by omega)), h.m.below hb (by omega), h.c.below hb (by omega), h.a.below hb hB⟩

theorem box0 : (⟨0, 0, 0, 0, false⟩ : Bx).sd = (0, 0, 0, 0) := rfl
set_option maxHeartbeats 2000000 in
theorem box_no {x y : Int} {n : Nat} (h : ¬ rightI x y n) (A : Option Addr) (cap : Nat) (c : Col) (w : World) :
    Calls Try.prog 85 #[imgV x y A n cap, colV c] w fun e w' => e = .returned (.tuple #[.int .i64 0, .int .i64 0, .int .i64 0, .int .i64 0]) ∧ Below w.heap.size w w' := by
  have K1 := hide (right_no h A cap)
  have K2 := hide fun (w' : World) (hB : Blk w' (w.heap.size + 1 + 1) 124 (⟨0, 0, 0, 0, false⟩ : Bx).cells) => sides_is (w.heap.size + 1 + 1) ⟨0, 0, 0, 0, false⟩ w' hB
  rw [box0] at K2
  obtain ⟨y0, y1, y2, y3⟩ := c
  clear h
  go_enter Try.func85, Try.ntmps85
  go_wp2_with (first | (go_at_call 94; (with_reducible refine (K1.out _).mono ?_); rintro e w1 ⟨rfl, hb1⟩; obtain ⟨B1, B2, B3, hz, HW⟩ := own3 hb1; clear hb1) | (go_at_call 127; (with_reducible refine (K2.out _ B3).mono ?_); rintro e w2 ⟨rfl, hb2⟩))
  exact bodyPost_ret (v := .tuple #[.int .i64 0, .int .i64 0, .int .i64 0, .int .i64 0]) (by simp [results, Try.results85, go_sem]) rfl ⟨rfl, bstep HW hb2⟩
set_option maxHeartbeats 2000000 in
theorem box_yes (W H : Nat) (A : Option Addr) (l : List Int) (cap : Nat) (c : Col) (w : World) (hR : rightI W H l.length) (hr : RowAt w w.heap.size .u8 A l) (hcap : l.length ≤ cap) :
    Calls Try.prog 85 #[imgV W H A l.length cap, colV c] w fun e w' => e = .returned (.tuple #[.int .i64 (markN W (diffMk l W c) (W * H)).sd.1, .int .i64 (markN W (diffMk l W c) (W * H)).sd.2.1, .int .i64 (markN W (diffMk l W c) (W * H)).sd.2.2.1, .int .i64 (markN W (diffMk l W c) (W * H)).sd.2.2.2]) ∧ Below w.heap.size w w' := by
  have K1 := hide (right_yes hR A cap)
  have KE := hide fun (v : World) (hv : BoxI w W H A l.length cap c (markN W (diffMk l W c) 0) v) =>
    each_yes 132 enters132 #[.pointer (some ⟨w.heap.size + 1, 0, none⟩), .pointer (some ⟨w.heap.size + 1 + 1, 0, none⟩)] W H A l cap v hR hcap (fun n v' => BoxI w W H A l.length cap c (markN W (diffMk l W c) n) v') hv (fun n v1 v2 hi hb => hi.keep hv.a.lt hb)
      (fun n v1 hi => (hr.below hi.below (Nat.le_refl _)).more hv.below.size) (fun x y v1 hx hy hs hi => (box1_any (w.heap.size + 1) (w.heap.size + 1 + 1) (markN W (diffMk l W c) (y * W + x)) x y (imgPx l W x y) c v1 hi.c hi.a (by omega)).mono (by
        rintro e v2 ⟨rfl, ha, hz, hk, hb⟩
        rw [← diffMk_at l W c x y hx] at ha
        exact ⟨rfl, ⟨hi.below.trans (hb _ (by omega)), hi.m.same (hk _ hi.m.lt (by omega)), hi.c.same (hk _ hi.c.lt (by omega)), ha⟩, ⟨hz, fun k h1 h2 => hk k h2 (by have := hv.a.lt; omega)⟩⟩))
  obtain ⟨b, hb⟩ : ∃ b, b = markN W (diffMk l W c) (W * H) := ⟨_, rfl⟩
  rw [← hb] at KE ⊢
  have K2 := hide fun (w' : World) (hB : Blk w' (w.heap.size + 1 + 1) 124 b.cells) => sides_is (w.heap.size + 1 + 1) b w' hB
  obtain ⟨y0, y1, y2, y3⟩ := c
  clear hR hr hcap hb
  go_enter Try.func85, Try.ntmps85
  go_wp2_with (first | (go_at_call 94; (with_reducible refine (K1.out _).mono ?_); rintro e w1 ⟨rfl, hb1⟩; obtain ⟨B1, B2, B3, hz, HW⟩ := own3 hb1; obtain ⟨m0, m1, m2, -⟩ := blk3 B1; have HI0 := hide (⟨HW, B1, B2, B3⟩ : BoxI w W H A l.length cap ⟨y0, y1, y2, y3⟩ (markN W (diffMk l W ⟨y0, y1, y2, y3⟩) 0) w1); clear hb1 HW B1 B2 B3) | (go_at_call 95; (with_reducible refine (KE.out _ HI0.out).mono ?_); rintro e w2 ⟨rfl, hI, hs⟩; have B3 := hI.a; have HB := hI.below) | (go_at_call 127; (with_reducible refine (K2.out _ B3).mono ?_); rintro e w3 ⟨rfl, hb3⟩))
  exact bodyPost_ret (v := .tuple #[.int .i64 b.sd.1, .int .i64 b.sd.2.1, .int .i64 b.sd.2.2.1, .int .i64 b.sd.2.2.2]) (by simp [results, Try.results85, go_sem]) rfl ⟨rfl, bstep HB hb3⟩
theorem mark_box (W H : Nat) (mk : Nat → Bool) (hW : 1 ≤ W ∧ W ≤ 16384) (hH : 1 ≤ H ∧ H ≤ 16384) : (markN W mk (W * H)).sd = (0, 0, 0, 0) ∨ ∃ X Y P Q : Nat, (markN W mk (W * H)).sd = ((X : Int), (Y : Int), (P : Int), (Q : Int)) ∧ X + P ≤ W ∧ Y + Q ≤ H ∧ 1 ≤ P ∧ 1 ≤ Q := by
  rcases mark_ref W mk hW.1 (W * H) with ⟨h1, h2⟩ | ⟨h1, h2, ⟨h3, h4, h5⟩, h6, h7, h8⟩
  · left; unfold Bx.sd; rw [h1]; rfl
  · right
    have h9 : (markN W mk (W * H)).b < H := by
      have e : ((W * H : Nat) : Int) = (H : Int) * W := by rw [Nat.mul_comm]; simp
      rw [e] at h8
      exact Int.lt_of_mul_lt_mul_right h8 (by omega)
    unfold Bx.sd
    rw [h1]
    generalize markN W mk (W * H) = b at *
    obtain ⟨l, t, r, o, sm⟩ := b
    simp only at h3 h4 h5 h6 h7 h9
    simp only [if_true]
    rw [IntWalk.wrap64_in (r - l) (by omega), IntWalk.wrap64_in (o - t) (by omega), IntWalk.wrap64_in (r - l + 1) (by omega), IntWalk.wrap64_in (o - t + 1) (by omega)]
    refine ⟨l.toNat, t.toNat, (r - l + 1).toNat, (o - t + 1).toNat, ?_, by omega, by omega, by omega, by omega⟩
    rw [Int.toNat_of_nonneg (by omega), Int.toNat_of_nonneg (by omega), Int.toNat_of_nonneg (by omega), Int.toNat_of_nonneg (by omega)]
end Go.Proofs.Ytkjnheikimpliaa
