/- ops.Crop, its function value, and within. -/
import Derived.Test.YtkjnheikimpliaaSame
namespace Go.Proofs.Ytkjnheikimpliaa
set_option linter.unusedVariables false
set_option linter.unusedSimpArgs false
open Go.RowKit
attribute [local go_sem ↓] Go.wp_at_zero Go.wp_at_succ

def zero36 : Array Value := #[.int .u8 0, .int .u8 0, .int .u8 0, .int .u8 0]

set_option maxHeartbeats 1000000 in
theorem crop1_any (x y : Int) (A : Option Addr) (l : List Int) (cap : Nat) (i j : Int) (bm bx bj : Nat) (a b : Nat) (w : World) (hR : rightI x y l.length) (hr : RowAt w w.heap.size .u8 A l) (hcap : l.length ≤ cap)
    (hm : Blk w bm 34 #[.int .i64 x, .int .i64 y, .slice A l.length cap]) (hx : Blk w bx 3 #[.int .i64 i]) (hj : Blk w bj 3 #[.int .i64 j])
    (hi0 : 0 ≤ i ∧ i + a < x) (hj0 : 0 ≤ j ∧ j + b < y) :
    Calls Try.prog 110 #[.int .i64 (a : Int), .int .i64 (b : Int), .pointer (some ⟨bm, 0, none⟩), .pointer (some ⟨bx, 0, none⟩), .pointer (some ⟨bj, 0, none⟩)] w fun e w' =>
      e = .returned (colV (pix l ((j + b) * x + (i + a)).toNat)) ∧ Below w.heap.size w w' := by
  have K := hide fun (w' : World) (h : Below w.heap.size w w') => at_any x y A l cap (i + a) (j + b) w' hR ((hr.below h (Nat.le_refl _)).more h.size) hcap (by omega) (by omega)
  have hx2 := hR.1.2
  have hy2 := hR.2.1.2
  obtain ⟨m0, m1, m2, -⟩ := blk3 hm
  obtain ⟨x0, -⟩ := blk1 hx
  obtain ⟨y0, -⟩ := blk1 hj
  have lm := hm.lt
  have lx := hx.lt
  have lj := hj.lt
  obtain ⟨c, hc⟩ : ∃ c, c = pix l ((j + b) * x + (i + a)).toNat := ⟨_, rfl⟩
  rw [← hc] at K ⊢
  have hb := hide (below_alloc w (.cells #[.int .u8 0, .int .u8 0, .int .u8 0, .int .u8 0] 36))
  clear hR hr hcap hm hx hj hc
  go_enter Try.func110, Try.ntmps110
  go_wp2_with (go_at_call 106; (with_reducible refine (K.out _ hb.out).mono ?_); rintro e w1 ⟨rfl, hb1⟩; obtain ⟨r0, r1, r2, r3, f0, f1, f2, f3⟩ := blk4 ((Blk.new w _ _).below hb1 (by simp)); have hz : w.heap.size < w1.heap.size := (by have := hb1.size; simp at this; omega); have HB1 := hide hb1; clear hb1)
  exact bodyPost_ret (v := colV c) (by simp [results, Try.results110, go_sem, r0, r1, r2, r3, hz]) rfl ⟨rfl, bset (bset (bset (bset (bstep hb.out HB1.out) _ _ (by omega) _) _ _ (by omega) _) _ _ (by omega) _) _ _ (by omega) _⟩
set_option maxHeartbeats 1000000 in
theorem flipRows1_any (x y : Int) (A : Option Addr) (l : List Int) (cap : Nat) (bm : Nat) (a b : Nat) (w : World) (hR : rightI x y l.length) (hr : RowAt w w.heap.size .u8 A l) (hcap : l.length ≤ cap)
    (hm : Blk w bm 34 #[.int .i64 x, .int .i64 y, .slice A l.length cap])
    (ha : (a : Int) < x) (hb : (b : Int) < y) :
    Calls Try.prog 114 #[.int .i64 (a : Int), .int .i64 (b : Int), .pointer (some ⟨bm, 0, none⟩)] w fun e w' =>
      e = .returned (colV (pix l ((y - 1 - b) * x + (a)).toNat)) ∧ Below w.heap.size w w' := by
  have K := hide fun (w' : World) (h : Below w.heap.size w w') => at_any x y A l cap (a) (y - 1 - b) w' hR ((hr.below h (Nat.le_refl _)).more h.size) hcap (by omega) (by omega)
  have hx1 := hR.1.1
  have hx2 := hR.1.2
  have hy1 := hR.2.1.1
  have hy2 := hR.2.1.2
  obtain ⟨m0, m1, m2, -⟩ := blk3 hm
  have lm := hm.lt
  obtain ⟨c, hc⟩ : ∃ c, c = pix l ((y - 1 - b) * x + (a)).toNat := ⟨_, rfl⟩
  rw [← hc] at K ⊢
  have hb := hide (below_alloc w (.cells #[.int .u8 0, .int .u8 0, .int .u8 0, .int .u8 0] 36))
  clear hR hr hcap hm hc
  go_enter Try.func114, Try.ntmps114
  go_wp2_with (go_at_call 106; (with_reducible refine (K.out _ hb.out).mono ?_); rintro e w1 ⟨rfl, hb1⟩; obtain ⟨r0, r1, r2, r3, f0, f1, f2, f3⟩ := blk4 ((Blk.new w _ _).below hb1 (by simp)); have hz : w.heap.size < w1.heap.size := (by have := hb1.size; simp at this; omega); have HB1 := hide hb1; clear hb1)
  exact bodyPost_ret (v := colV c) (by simp [results, Try.results114, go_sem, r0, r1, r2, r3, hz]) rfl ⟨rfl, bset (bset (bset (bset (bstep hb.out HB1.out) _ _ (by omega) _) _ _ (by omega) _) _ _ (by omega) _) _ _ (by omega) _⟩

set_option maxHeartbeats 1000000 in
theorem flipColumns1_any (x y : Int) (A : Option Addr) (l : List Int) (cap : Nat) (bm : Nat) (a b : Nat) (w : World) (hR : rightI x y l.length) (hr : RowAt w w.heap.size .u8 A l) (hcap : l.length ≤ cap)
    (hm : Blk w bm 34 #[.int .i64 x, .int .i64 y, .slice A l.length cap])
    (ha : (a : Int) < x) (hb : (b : Int) < y) :
    Calls Try.prog 115 #[.int .i64 (a : Int), .int .i64 (b : Int), .pointer (some ⟨bm, 0, none⟩)] w fun e w' =>
      e = .returned (colV (pix l ((b) * x + (x - 1 - a)).toNat)) ∧ Below w.heap.size w w' := by
  have K := hide fun (w' : World) (h : Below w.heap.size w w') => at_any x y A l cap (x - 1 - a) (b) w' hR ((hr.below h (Nat.le_refl _)).more h.size) hcap (by omega) (by omega)
  have hx1 := hR.1.1
  have hx2 := hR.1.2
  have hy1 := hR.2.1.1
  have hy2 := hR.2.1.2
  obtain ⟨m0, m1, m2, -⟩ := blk3 hm
  have lm := hm.lt
  obtain ⟨c, hc⟩ : ∃ c, c = pix l ((b) * x + (x - 1 - a)).toNat := ⟨_, rfl⟩
  rw [← hc] at K ⊢
  have hb := hide (below_alloc w (.cells #[.int .u8 0, .int .u8 0, .int .u8 0, .int .u8 0] 36))
  clear hR hr hcap hm hc
  go_enter Try.func115, Try.ntmps115
  go_wp2_with (go_at_call 106; (with_reducible refine (K.out _ hb.out).mono ?_); rintro e w1 ⟨rfl, hb1⟩; obtain ⟨r0, r1, r2, r3, f0, f1, f2, f3⟩ := blk4 ((Blk.new w _ _).below hb1 (by simp)); have hz : w.heap.size < w1.heap.size := (by have := hb1.size; simp at this; omega); have HB1 := hide hb1; clear hb1)
  exact bodyPost_ret (v := colV c) (by simp [results, Try.results115, go_sem, r0, r1, r2, r3, hz]) rfl ⟨rfl, bset (bset (bset (bset (bstep hb.out HB1.out) _ _ (by omega) _) _ _ (by omega) _) _ _ (by omega) _) _ _ (by omega) _⟩

set_option maxHeartbeats 1000000 in
theorem turn1_any (x y : Int) (A : Option Addr) (l : List Int) (cap : Nat) (bm bh : Nat) (a b : Nat) (w : World) (hR : rightI x y l.length) (hr : RowAt w w.heap.size .u8 A l) (hcap : l.length ≤ cap)
    (hm : Blk w bm 34 #[.int .i64 x, .int .i64 y, .slice A l.length cap]) (hbh : Blk w bh 3 #[.int .i64 y])
    (ha : (a : Int) < y) (hb : (b : Int) < x) :
    Calls Try.prog 111 #[.int .i64 (a : Int), .int .i64 (b : Int), .pointer (some ⟨bm, 0, none⟩), .pointer (some ⟨bh, 0, none⟩)] w fun e w' =>
      e = .returned (colV (pix l ((y - 1 - a) * x + (b)).toNat)) ∧ Below w.heap.size w w' := by
  have K := hide fun (w' : World) (h : Below w.heap.size w w') => at_any x y A l cap (b) (y - 1 - a) w' hR ((hr.below h (Nat.le_refl _)).more h.size) hcap (by omega) (by omega)
  have hx1 := hR.1.1
  have hx2 := hR.1.2
  have hy1 := hR.2.1.1
  have hy2 := hR.2.1.2
  obtain ⟨m0, m1, m2, -⟩ := blk3 hm
  have lm := hm.lt
  obtain ⟨bh0, -⟩ := blk1 hbh
  have lbh := hbh.lt
  obtain ⟨c, hc⟩ : ∃ c, c = pix l ((y - 1 - a) * x + (b)).toNat := ⟨_, rfl⟩
  rw [← hc] at K ⊢
  have hb := hide (below_alloc w (.cells #[.int .u8 0, .int .u8 0, .int .u8 0, .int .u8 0] 36))
  clear hR hr hcap hm hc hbh
  go_enter Try.func111, Try.ntmps111
  go_wp2_with (go_at_call 106; (with_reducible refine (K.out _ hb.out).mono ?_); rintro e w1 ⟨rfl, hb1⟩; obtain ⟨r0, r1, r2, r3, f0, f1, f2, f3⟩ := blk4 ((Blk.new w _ _).below hb1 (by simp)); have hz : w.heap.size < w1.heap.size := (by have := hb1.size; simp at this; omega); have HB1 := hide hb1; clear hb1)
  exact bodyPost_ret (v := colV c) (by simp [results, Try.results111, go_sem, r0, r1, r2, r3, hz]) rfl ⟨rfl, bset (bset (bset (bset (bstep hb.out HB1.out) _ _ (by omega) _) _ _ (by omega) _) _ _ (by omega) _) _ _ (by omega) _⟩

set_option maxHeartbeats 1000000 in
theorem turn2_any (x y : Int) (A : Option Addr) (l : List Int) (cap : Nat) (bm bw bh : Nat) (a b : Nat) (w : World) (hR : rightI x y l.length) (hr : RowAt w w.heap.size .u8 A l) (hcap : l.length ≤ cap)
    (hm : Blk w bm 34 #[.int .i64 x, .int .i64 y, .slice A l.length cap]) (hbw : Blk w bw 3 #[.int .i64 x]) (hbh : Blk w bh 3 #[.int .i64 y])
    (ha : (a : Int) < x) (hb : (b : Int) < y) :
    Calls Try.prog 112 #[.int .i64 (a : Int), .int .i64 (b : Int), .pointer (some ⟨bm, 0, none⟩), .pointer (some ⟨bw, 0, none⟩), .pointer (some ⟨bh, 0, none⟩)] w fun e w' =>
      e = .returned (colV (pix l ((y - 1 - b) * x + (x - 1 - a)).toNat)) ∧ Below w.heap.size w w' := by
  have K := hide fun (w' : World) (h : Below w.heap.size w w') => at_any x y A l cap (x - 1 - a) (y - 1 - b) w' hR ((hr.below h (Nat.le_refl _)).more h.size) hcap (by omega) (by omega)
  have hx1 := hR.1.1
  have hx2 := hR.1.2
  have hy1 := hR.2.1.1
  have hy2 := hR.2.1.2
  obtain ⟨m0, m1, m2, -⟩ := blk3 hm
  have lm := hm.lt
  obtain ⟨bw0, -⟩ := blk1 hbw
  have lbw := hbw.lt
  obtain ⟨bh0, -⟩ := blk1 hbh
  have lbh := hbh.lt
  obtain ⟨c, hc⟩ : ∃ c, c = pix l ((y - 1 - b) * x + (x - 1 - a)).toNat := ⟨_, rfl⟩
  rw [← hc] at K ⊢
  have hb := hide (below_alloc w (.cells #[.int .u8 0, .int .u8 0, .int .u8 0, .int .u8 0] 36))
  clear hR hr hcap hm hc hbw hbh
  go_enter Try.func112, Try.ntmps112
  go_wp2_with (go_at_call 106; (with_reducible refine (K.out _ hb.out).mono ?_); rintro e w1 ⟨rfl, hb1⟩; obtain ⟨r0, r1, r2, r3, f0, f1, f2, f3⟩ := blk4 ((Blk.new w _ _).below hb1 (by simp)); have hz : w.heap.size < w1.heap.size := (by have := hb1.size; simp at this; omega); have HB1 := hide hb1; clear hb1)
  exact bodyPost_ret (v := colV c) (by simp [results, Try.results112, go_sem, r0, r1, r2, r3, hz]) rfl ⟨rfl, bset (bset (bset (bset (bstep hb.out HB1.out) _ _ (by omega) _) _ _ (by omega) _) _ _ (by omega) _) _ _ (by omega) _⟩

set_option maxHeartbeats 1000000 in
theorem turn3_any (x y : Int) (A : Option Addr) (l : List Int) (cap : Nat) (bm bw : Nat) (a b : Nat) (w : World) (hR : rightI x y l.length) (hr : RowAt w w.heap.size .u8 A l) (hcap : l.length ≤ cap)
    (hm : Blk w bm 34 #[.int .i64 x, .int .i64 y, .slice A l.length cap]) (hbw : Blk w bw 3 #[.int .i64 x])
    (ha : (a : Int) < y) (hb : (b : Int) < x) :
    Calls Try.prog 113 #[.int .i64 (a : Int), .int .i64 (b : Int), .pointer (some ⟨bm, 0, none⟩), .pointer (some ⟨bw, 0, none⟩)] w fun e w' =>
      e = .returned (colV (pix l ((a) * x + (x - 1 - b)).toNat)) ∧ Below w.heap.size w w' := by
  have K := hide fun (w' : World) (h : Below w.heap.size w w') => at_any x y A l cap (x - 1 - b) (a) w' hR ((hr.below h (Nat.le_refl _)).more h.size) hcap (by omega) (by omega)
  have hx1 := hR.1.1
  have hx2 := hR.1.2
  have hy1 := hR.2.1.1
  have hy2 := hR.2.1.2
  obtain ⟨m0, m1, m2, -⟩ := blk3 hm
  have lm := hm.lt
  obtain ⟨bw0, -⟩ := blk1 hbw
  have lbw := hbw.lt
  obtain ⟨c, hc⟩ : ∃ c, c = pix l ((a) * x + (x - 1 - b)).toNat := ⟨_, rfl⟩
  rw [← hc] at K ⊢
  have hb := hide (below_alloc w (.cells #[.int .u8 0, .int .u8 0, .int .u8 0, .int .u8 0] 36))
  clear hR hr hcap hm hc hbw
  go_enter Try.func113, Try.ntmps113
  go_wp2_with (go_at_call 106; (with_reducible refine (K.out _ hb.out).mono ?_); rintro e w1 ⟨rfl, hb1⟩; obtain ⟨r0, r1, r2, r3, f0, f1, f2, f3⟩ := blk4 ((Blk.new w _ _).below hb1 (by simp)); have hz : w.heap.size < w1.heap.size := (by have := hb1.size; simp at this; omega); have HB1 := hide hb1; clear hb1)
  exact bodyPost_ret (v := colV c) (by simp [results, Try.results113, go_sem, r0, r1, r2, r3, hz]) rfl ⟨rfl, bset (bset (bset (bset (bstep hb.out HB1.out) _ _ (by omega) _) _ _ (by omega) _) _ _ (by omega) _) _ _ (by omega) _⟩


end Go.Proofs.Ytkjnheikimpliaa
