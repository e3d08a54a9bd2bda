/- ops.FlipRows, ops.FlipColumns, ops.Turn: walked. -/
import Derived.Test.YtkjnheikimpliaaOpsB
namespace Go.Proofs.Ytkjnheikimpliaa
set_option linter.unusedVariables false
set_option linter.unusedSimpArgs false
open Go.RowKit
attribute [local go_sem ↓] Go.wp_at_zero Go.wp_at_succ

def flipRPx (l : List Int) (x y : Int) (a b : Nat) : Col := pix l ((y - 1 - b) * x + a).toNat
def flipCPx (l : List Int) (x : Int) (a b : Nat) : Col := pix l (b * x + (x - 1 - a)).toNat
def turn1Px (l : List Int) (x y : Int) (a b : Nat) : Col := pix l ((y - 1 - a) * x + b).toNat
def turn2Px (l : List Int) (x y : Int) (a b : Nat) : Col := pix l ((y - 1 - b) * x + (x - 1 - a)).toNat
def turn3Px (l : List Int) (x : Int) (a b : Nat) : Col := pix l (a * x + (x - 1 - b)).toNat

/-- What a call hands back: an image in new memory, told by its pixels, and no error. -/
def Made (w : World) (W H : Nat) (px : Nat → Nat → Col) (e : Ending) (w' : World) : Prop :=
  ∃ A' cap', e = .returned (.tuple #[imgV W H A' (bytesL (pxs px W (W * H))).length cap', .int .i64 0]) ∧ ImgNew w' w.heap.size A' cap' (bytesL (pxs px W (W * H))) ∧ Below w.heap.size w w'
/-- What a call hands back: no image, and an error. -/
def Refused (w : World) (k : Int) (e : Ending) (w' : World) : Prop := e = .returned (.tuple #[imgV 0 0 none 0 0, .int .i64 k]) ∧ Below w.heap.size w w'

set_option maxHeartbeats 2000000 in
theorem flipRows_yes (W H : Nat) (A : Option Addr) (l : List Int) (cap : Nat) (w : World) (hR : rightI W H l.length) (hr : RowAt w w.heap.size .u8 A l) (hcap : l.length ≤ cap) :
    Calls Try.prog 62 #[imgV W H A l.length cap] w (Made w W H (flipRPx l W H)) := by
  have hx := hR.1
  have hy := hR.2.1
  have K1 := hide (right_yes hR A cap)
  have KB := hide fun (w' : World) (h : Below w.heap.size w w') (bm : Nat) (hm : Blk w' bm 34 #[.int .i64 (W : Int), .int .i64 (H : Int), .slice A l.length cap]) =>
    build_pure 114 enters114 #[.pointer (some ⟨bm, 0, none⟩)] (flipRPx l W H) W H (by omega) (by omega) w' (fun a b w1 ha hb hb1 => by
      have hw1 := h.trans (hb1.mono h.size)
      exact flipRows1_any W H A l cap bm a b w1 hR ((hr.below hw1 (Nat.le_refl _)).more hw1.size) hcap (hm.below hb1 hm.lt) (by omega) (by omega))
  unfold Made
  obtain ⟨px, hpx⟩ : ∃ px, px = bytesL (pxs (flipRPx l W H) W (W * H)) := ⟨_, rfl⟩
  rw [← hpx] at KB ⊢
  clear hR hr hcap hpx hx hy
  go_enter Try.func62, Try.ntmps62
  go_wp2_with (first | (go_at_call 94; (with_reducible refine (K1.out _).mono ?_); rintro e w1 ⟨rfl, hb1⟩; obtain ⟨B1, B2, hz, HW⟩ := own2 hb1; obtain ⟨m0, m1, m2, -⟩ := blk3 B1; have z1 := B1.lt; clear hb1) | (go_at_call 104; (with_reducible refine (KB.out _ HW _ B1).mono ?_); rintro e w2 ⟨A', cap', rfl, hi, hb2⟩; obtain ⟨r0, r1, r2, f0, f1, f2⟩ := blk3 (B2.below hb2 hz); have hz2 : w.heap.size + 1 < w2.heap.size := Nat.lt_of_lt_of_le hz hb2.size; have HI := hide hi; clear hi))
  refine bodyPost_ret (v := .tuple #[imgV W H A' px.length cap', .int .i64 0]) (by simp [results, Try.results62, go_sem, r0, r1, r2, hz2]) rfl ⟨A', cap', rfl, ?_, ?_⟩
  · exact (((HI.out.set _ _ (by omega) _).set _ _ (by omega) _).set _ _ (by omega) _).less (by omega)
  · exact bset (bset (bset (bstep HW hb2) _ _ (by omega) _) _ _ (by omega) _) _ _ (by omega) _
set_option maxHeartbeats 2000000 in
theorem flipRows_no (x y : Int) (A : Option Addr) (n cap : Nat) (w : World) (hR : ¬ rightI x y n) : Calls Try.prog 62 #[imgV x y A n cap] w (Refused w 11) := by
  have K1 := hide (right_no hR A cap)
  unfold Refused
  clear hR
  go_enter Try.func62, Try.ntmps62
  go_wp2_with (first | (go_at_call 94; (with_reducible refine (K1.out _).mono ?_); rintro e w1 ⟨rfl, hb1⟩; obtain ⟨B1, B2, hz, HW⟩ := own2 hb1; obtain ⟨r0, r1, r2, f0, f1, f2⟩ := blk3 B2; clear hb1))
  refine bodyPost_ret (v := .tuple #[imgV 0 0 none 0 0, .int .i64 11]) (by simp [results, Try.results62, go_sem, r0, r1, r2, hz]) rfl ⟨rfl, bset (bset (bset HW _ _ (by omega) _) _ _ (by omega) _) _ _ (by omega) _⟩
set_option maxHeartbeats 2000000 in
theorem flipColumns_yes (W H : Nat) (A : Option Addr) (l : List Int) (cap : Nat) (w : World) (hR : rightI W H l.length) (hr : RowAt w w.heap.size .u8 A l) (hcap : l.length ≤ cap) :
    Calls Try.prog 63 #[imgV W H A l.length cap] w (Made w W H (flipCPx l W)) := by
  have hx := hR.1
  have hy := hR.2.1
  have K1 := hide (right_yes hR A cap)
  have KB := hide fun (w' : World) (h : Below w.heap.size w w') (bm : Nat) (hm : Blk w' bm 34 #[.int .i64 (W : Int), .int .i64 (H : Int), .slice A l.length cap]) =>
    build_pure 115 enters115 #[.pointer (some ⟨bm, 0, none⟩)] (flipCPx l W) W H (by omega) (by omega) w' (fun a b w1 ha hb hb1 => by
      have hw1 := h.trans (hb1.mono h.size)
      exact flipColumns1_any W H A l cap bm a b w1 hR ((hr.below hw1 (Nat.le_refl _)).more hw1.size) hcap (hm.below hb1 hm.lt) (by omega) (by omega))
  unfold Made
  obtain ⟨px, hpx⟩ : ∃ px, px = bytesL (pxs (flipCPx l W) W (W * H)) := ⟨_, rfl⟩
  rw [← hpx] at KB ⊢
  clear hR hr hcap hpx hx hy
  go_enter Try.func63, Try.ntmps63
  go_wp2_with (first | (go_at_call 94; (with_reducible refine (K1.out _).mono ?_); rintro e w1 ⟨rfl, hb1⟩; obtain ⟨B1, B2, hz, HW⟩ := own2 hb1; obtain ⟨m0, m1, m2, -⟩ := blk3 B1; have z1 := B1.lt; clear hb1) | (go_at_call 104; (with_reducible refine (KB.out _ HW _ B1).mono ?_); rintro e w2 ⟨A', cap', rfl, hi, hb2⟩; obtain ⟨r0, r1, r2, f0, f1, f2⟩ := blk3 (B2.below hb2 hz); have hz2 : w.heap.size + 1 < w2.heap.size := Nat.lt_of_lt_of_le hz hb2.size; have HI := hide hi; clear hi))
  refine bodyPost_ret (v := .tuple #[imgV W H A' px.length cap', .int .i64 0]) (by simp [results, Try.results63, go_sem, r0, r1, r2, hz2]) rfl ⟨A', cap', rfl, ?_, ?_⟩
  · exact (((HI.out.set _ _ (by omega) _).set _ _ (by omega) _).set _ _ (by omega) _).less (by omega)
  · exact bset (bset (bset (bstep HW hb2) _ _ (by omega) _) _ _ (by omega) _) _ _ (by omega) _
set_option maxHeartbeats 2000000 in
theorem flipColumns_no (x y : Int) (A : Option Addr) (n cap : Nat) (w : World) (hR : ¬ rightI x y n) : Calls Try.prog 63 #[imgV x y A n cap] w (Refused w 11) := by
  have K1 := hide (right_no hR A cap)
  unfold Refused
  clear hR
  go_enter Try.func63, Try.ntmps63
  go_wp2_with (first | (go_at_call 94; (with_reducible refine (K1.out _).mono ?_); rintro e w1 ⟨rfl, hb1⟩; obtain ⟨B1, B2, hz, HW⟩ := own2 hb1; obtain ⟨r0, r1, r2, f0, f1, f2⟩ := blk3 B2; clear hb1))
  refine bodyPost_ret (v := .tuple #[imgV 0 0 none 0 0, .int .i64 11]) (by simp [results, Try.results63, go_sem, r0, r1, r2, hz]) rfl ⟨rfl, bset (bset (bset HW _ _ (by omega) _) _ _ (by omega) _) _ _ (by omega) _⟩

/-- An int's remainder by four, brought to 0 to 3, as Go reckons it. -/
def quart (n : Int) : Int := (wrap64 (n.tmod 4 + 4)).tmod 4

theorem two (w : World) (c1 : Array Value) (t1 : TypeId) (c2 : Array Value) (t2 : TypeId) : Blk ((w.alloc (.cells c1 t1)).alloc (.cells c2 t2)).drew w.heap.size t1 c1 ∧ Blk ((w.alloc (.cells c1 t1)).alloc (.cells c2 t2)).drew (w.heap.size + 1) t2 c2 ∧
    w.heap.size + 1 < ((w.alloc (.cells c1 t1)).alloc (.cells c2 t2)).drew.heap.size ∧ Below w.heap.size w ((w.alloc (.cells c1 t1)).alloc (.cells c2 t2)).drew :=
  ⟨(Blk.new w t1 c1).alloc _, Blk.new' (w.alloc (.cells c1 t1)) t2 c2 _ (by simp), by show _ < ((w.alloc (.cells c1 t1)).alloc (.cells c2 t2)).heap.size; simp only [World.size_alloc]; omega, (balloc (below_alloc w _) _).drew⟩

set_option maxHeartbeats 2000000 in
theorem turn1_yes (W H : Nat) (A : Option Addr) (l : List Int) (cap : Nat) (n : Int) (w : World) (hR : rightI W H l.length) (hr : RowAt w w.heap.size .u8 A l) (hcap : l.length ≤ cap) (hn : quart n = 1) :
    Calls Try.prog 61 #[imgV W H A l.length cap, .int .i64 n] w (Made w H W (turn1Px l W H)) := by
  have hx := hR.1
  have hy := hR.2.1
  have K1 := hide (right_yes hR A cap)
  have KB := hide fun (w' : World) (h : Below w.heap.size w w') (bm bw bh : Nat) (hm : Blk w' bm 34 #[.int .i64 (W : Int), .int .i64 (H : Int), .slice A l.length cap]) (hbw : Blk w' bw 3 #[.int .i64 (W : Int)]) (hbh : Blk w' bh 3 #[.int .i64 (H : Int)]) =>
    build_pure 111 enters111 #[.pointer (some ⟨bm, 0, none⟩), .pointer (some ⟨bh, 0, none⟩)] (turn1Px l W H) H W (by omega) (by omega) w' (fun a b w1 ha hb hb1 => by
      have hw1 := h.trans (hb1.mono h.size)
      exact turn1_any W H A l cap bm bh a b w1 hR ((hr.below hw1 (Nat.le_refl _)).more hw1.size) hcap (hm.below hb1 hm.lt) (hbh.below hb1 hbh.lt) (by omega) (by omega))
  have t1 : ((wrap64 (n.tmod 4 + 4)).tmod 4 == 1) = true := by
    have e : (wrap64 (n.tmod 4 + 4)).tmod 4 = 1 := hn
    rw [e]; rfl
  unfold Made
  obtain ⟨px, hpx⟩ : ∃ px, px = bytesL (pxs (turn1Px l W H) H (H * W)) := ⟨_, rfl⟩
  rw [← hpx] at KB ⊢
  clear hR hr hcap hpx hx hy hn
  go_enter Try.func61, Try.ntmps61
  go_wp2_with (first | (go_at_call 94; (with_reducible refine (K1.out _).mono ?_); rintro e w1 ⟨rfl, hb1⟩; obtain ⟨B1, B2, hz, HW⟩ := own2 hb1; obtain ⟨m0, m1, m2, -⟩ := blk3 B1; have z1 := B1.lt; clear hb1) | go_at_call 104; fail)
  go_region
  · obtain ⟨C1, C2, hz3, HD⟩ := two w1 #[.int .i64 (W : Int)] 3 #[.int .i64 (H : Int)] 3
    have HW2 := HW.trans (HD.mono HW.size)
    have D1 := B1.below HD z1
    have D2 := B2.below HD hz
    go_wp2_with (go_at_call 104; (with_reducible refine (KB.out _ HW2 _ _ _ D1 C1 C2).mono ?_); rintro e w2 ⟨A', cap', rfl, hi, hb2⟩; obtain ⟨r0, r1, r2, f0, f1, f2⟩ := blk3 (D2.below hb2 D2.lt); have hz2 : w.heap.size + 1 < w2.heap.size := Nat.lt_of_lt_of_le D2.lt hb2.size; have HI := hide hi; have HB2 := hide hb2; clear hi hb2)
    refine bodyPost_ret (v := .tuple #[imgV H W A' px.length cap', .int .i64 0]) (by simp [results, Try.results61, go_sem, r0, r1, r2, hz2]) rfl ⟨A', cap', rfl, ?_, ?_⟩
    · have hzz := HW2.size
      exact (((HI.out.set _ _ (by have := D2.lt; omega) _).set _ _ (by have := D2.lt; omega) _).set _ _ (by have := D2.lt; omega) _).less hzz
    · exact bset (bset (bset (bstep HW2 HB2.out) _ _ (by omega) _) _ _ (by omega) _) _ _ (by omega) _
  · obtain ⟨C1, C2, hz3, HD⟩ := two w1 #[.int .i64 (H : Int)] 3 #[.int .i64 (W : Int)] 3
    have HW2 := HW.trans (HD.mono HW.size)
    have D1 := B1.below HD z1
    have D2 := B2.below HD hz
    go_wp2_with (go_at_call 104; (with_reducible refine (KB.out _ HW2 _ _ _ D1 C2 C1).mono ?_); rintro e w2 ⟨A', cap', rfl, hi, hb2⟩; obtain ⟨r0, r1, r2, f0, f1, f2⟩ := blk3 (D2.below hb2 D2.lt); have hz2 : w.heap.size + 1 < w2.heap.size := Nat.lt_of_lt_of_le D2.lt hb2.size; have HI := hide hi; have HB2 := hide hb2; clear hi hb2)
    refine bodyPost_ret (v := .tuple #[imgV H W A' px.length cap', .int .i64 0]) (by simp [results, Try.results61, go_sem, r0, r1, r2, hz2]) rfl ⟨A', cap', rfl, ?_, ?_⟩
    · have hzz := HW2.size
      exact (((HI.out.set _ _ (by have := D2.lt; omega) _).set _ _ (by have := D2.lt; omega) _).set _ _ (by have := D2.lt; omega) _).less hzz
    · exact bset (bset (bset (bstep HW2 HB2.out) _ _ (by omega) _) _ _ (by omega) _) _ _ (by omega) _


set_option maxHeartbeats 2000000 in
theorem turn2_yes (W H : Nat) (A : Option Addr) (l : List Int) (cap : Nat) (n : Int) (w : World) (hR : rightI W H l.length) (hr : RowAt w w.heap.size .u8 A l) (hcap : l.length ≤ cap) (hn : quart n = 2) :
    Calls Try.prog 61 #[imgV W H A l.length cap, .int .i64 n] w (Made w W H (turn2Px l W H)) := by
  have hx := hR.1
  have hy := hR.2.1
  have K1 := hide (right_yes hR A cap)
  have KB := hide fun (w' : World) (h : Below w.heap.size w w') (bm bw bh : Nat) (hm : Blk w' bm 34 #[.int .i64 (W : Int), .int .i64 (H : Int), .slice A l.length cap]) (hbw : Blk w' bw 3 #[.int .i64 (W : Int)]) (hbh : Blk w' bh 3 #[.int .i64 (H : Int)]) =>
    build_pure 112 enters112 #[.pointer (some ⟨bm, 0, none⟩), .pointer (some ⟨bw, 0, none⟩), .pointer (some ⟨bh, 0, none⟩)] (turn2Px l W H) W H (by omega) (by omega) w' (fun a b w1 ha hb hb1 => by
      have hw1 := h.trans (hb1.mono h.size)
      exact turn2_any W H A l cap bm bw bh a b w1 hR ((hr.below hw1 (Nat.le_refl _)).more hw1.size) hcap (hm.below hb1 hm.lt) (hbw.below hb1 hbw.lt) (hbh.below hb1 hbh.lt) (by omega) (by omega))
  have t1 : ((wrap64 (n.tmod 4 + 4)).tmod 4 == 1) = false := by
    have e : (wrap64 (n.tmod 4 + 4)).tmod 4 = 2 := hn
    rw [e]; rfl
  have t2 : ((wrap64 (n.tmod 4 + 4)).tmod 4 == 2) = true := by
    have e : (wrap64 (n.tmod 4 + 4)).tmod 4 = 2 := hn
    rw [e]; rfl
  unfold Made
  obtain ⟨px, hpx⟩ : ∃ px, px = bytesL (pxs (turn2Px l W H) W (W * H)) := ⟨_, rfl⟩
  rw [← hpx] at KB ⊢
  clear hR hr hcap hpx hx hy hn
  go_enter Try.func61, Try.ntmps61
  go_wp2_with (first | (go_at_call 94; (with_reducible refine (K1.out _).mono ?_); rintro e w1 ⟨rfl, hb1⟩; obtain ⟨B1, B2, hz, HW⟩ := own2 hb1; obtain ⟨m0, m1, m2, -⟩ := blk3 B1; have z1 := B1.lt; clear hb1) | go_at_call 104; fail)
  go_region
  · obtain ⟨C1, C2, hz3, HD⟩ := two w1 #[.int .i64 (W : Int)] 3 #[.int .i64 (H : Int)] 3
    have HW2 := HW.trans (HD.mono HW.size)
    have D1 := B1.below HD z1
    have D2 := B2.below HD hz
    go_wp2_with (go_at_call 104; (with_reducible refine (KB.out _ HW2 _ _ _ D1 C1 C2).mono ?_); rintro e w2 ⟨A', cap', rfl, hi, hb2⟩; obtain ⟨r0, r1, r2, f0, f1, f2⟩ := blk3 (D2.below hb2 D2.lt); have hz2 : w.heap.size + 1 < w2.heap.size := Nat.lt_of_lt_of_le D2.lt hb2.size; have HI := hide hi; have HB2 := hide hb2; clear hi hb2)
    refine bodyPost_ret (v := .tuple #[imgV W H A' px.length cap', .int .i64 0]) (by simp [results, Try.results61, go_sem, r0, r1, r2, hz2]) rfl ⟨A', cap', rfl, ?_, ?_⟩
    · have hzz := HW2.size
      exact (((HI.out.set _ _ (by have := D2.lt; omega) _).set _ _ (by have := D2.lt; omega) _).set _ _ (by have := D2.lt; omega) _).less hzz
    · exact bset (bset (bset (bstep HW2 HB2.out) _ _ (by omega) _) _ _ (by omega) _) _ _ (by omega) _
  · obtain ⟨C1, C2, hz3, HD⟩ := two w1 #[.int .i64 (H : Int)] 3 #[.int .i64 (W : Int)] 3
    have HW2 := HW.trans (HD.mono HW.size)
    have D1 := B1.below HD z1
    have D2 := B2.below HD hz
    go_wp2_with (go_at_call 104; (with_reducible refine (KB.out _ HW2 _ _ _ D1 C2 C1).mono ?_); rintro e w2 ⟨A', cap', rfl, hi, hb2⟩; obtain ⟨r0, r1, r2, f0, f1, f2⟩ := blk3 (D2.below hb2 D2.lt); have hz2 : w.heap.size + 1 < w2.heap.size := Nat.lt_of_lt_of_le D2.lt hb2.size; have HI := hide hi; have HB2 := hide hb2; clear hi hb2)
    refine bodyPost_ret (v := .tuple #[imgV W H A' px.length cap', .int .i64 0]) (by simp [results, Try.results61, go_sem, r0, r1, r2, hz2]) rfl ⟨A', cap', rfl, ?_, ?_⟩
    · have hzz := HW2.size
      exact (((HI.out.set _ _ (by have := D2.lt; omega) _).set _ _ (by have := D2.lt; omega) _).set _ _ (by have := D2.lt; omega) _).less hzz
    · exact bset (bset (bset (bstep HW2 HB2.out) _ _ (by omega) _) _ _ (by omega) _) _ _ (by omega) _


set_option maxHeartbeats 2000000 in
theorem turn3_yes (W H : Nat) (A : Option Addr) (l : List Int) (cap : Nat) (n : Int) (w : World) (hR : rightI W H l.length) (hr : RowAt w w.heap.size .u8 A l) (hcap : l.length ≤ cap) (hn : quart n = 3) :
    Calls Try.prog 61 #[imgV W H A l.length cap, .int .i64 n] w (Made w H W (turn3Px l W)) := by
  have hx := hR.1
  have hy := hR.2.1
  have K1 := hide (right_yes hR A cap)
  have KB := hide fun (w' : World) (h : Below w.heap.size w w') (bm bw bh : Nat) (hm : Blk w' bm 34 #[.int .i64 (W : Int), .int .i64 (H : Int), .slice A l.length cap]) (hbw : Blk w' bw 3 #[.int .i64 (W : Int)]) (hbh : Blk w' bh 3 #[.int .i64 (H : Int)]) =>
    build_pure 113 enters113 #[.pointer (some ⟨bm, 0, none⟩), .pointer (some ⟨bw, 0, none⟩)] (turn3Px l W) H W (by omega) (by omega) w' (fun a b w1 ha hb hb1 => by
      have hw1 := h.trans (hb1.mono h.size)
      exact turn3_any W H A l cap bm bw a b w1 hR ((hr.below hw1 (Nat.le_refl _)).more hw1.size) hcap (hm.below hb1 hm.lt) (hbw.below hb1 hbw.lt) (by omega) (by omega))
  have t1 : ((wrap64 (n.tmod 4 + 4)).tmod 4 == 1) = false := by
    have e : (wrap64 (n.tmod 4 + 4)).tmod 4 = 3 := hn
    rw [e]; rfl
  have t2 : ((wrap64 (n.tmod 4 + 4)).tmod 4 == 2) = false := by
    have e : (wrap64 (n.tmod 4 + 4)).tmod 4 = 3 := hn
    rw [e]; rfl
  have t3 : ((wrap64 (n.tmod 4 + 4)).tmod 4 == 3) = true := by
    have e : (wrap64 (n.tmod 4 + 4)).tmod 4 = 3 := hn
    rw [e]; rfl
  unfold Made
  obtain ⟨px, hpx⟩ : ∃ px, px = bytesL (pxs (turn3Px l W) H (H * W)) := ⟨_, rfl⟩
  rw [← hpx] at KB ⊢
  clear hR hr hcap hpx hx hy hn
  go_enter Try.func61, Try.ntmps61
  go_wp2_with (first | (go_at_call 94; (with_reducible refine (K1.out _).mono ?_); rintro e w1 ⟨rfl, hb1⟩; obtain ⟨B1, B2, hz, HW⟩ := own2 hb1; obtain ⟨m0, m1, m2, -⟩ := blk3 B1; have z1 := B1.lt; clear hb1) | go_at_call 104; fail)
  go_region
  · obtain ⟨C1, C2, hz3, HD⟩ := two w1 #[.int .i64 (W : Int)] 3 #[.int .i64 (H : Int)] 3
    have HW2 := HW.trans (HD.mono HW.size)
    have D1 := B1.below HD z1
    have D2 := B2.below HD hz
    go_wp2_with (go_at_call 104; (with_reducible refine (KB.out _ HW2 _ _ _ D1 C1 C2).mono ?_); rintro e w2 ⟨A', cap', rfl, hi, hb2⟩; obtain ⟨r0, r1, r2, f0, f1, f2⟩ := blk3 (D2.below hb2 D2.lt); have hz2 : w.heap.size + 1 < w2.heap.size := Nat.lt_of_lt_of_le D2.lt hb2.size; have HI := hide hi; have HB2 := hide hb2; clear hi hb2)
    refine bodyPost_ret (v := .tuple #[imgV H W A' px.length cap', .int .i64 0]) (by simp [results, Try.results61, go_sem, r0, r1, r2, hz2]) rfl ⟨A', cap', rfl, ?_, ?_⟩
    · have hzz := HW2.size
      exact (((HI.out.set _ _ (by have := D2.lt; omega) _).set _ _ (by have := D2.lt; omega) _).set _ _ (by have := D2.lt; omega) _).less hzz
    · exact bset (bset (bset (bstep HW2 HB2.out) _ _ (by omega) _) _ _ (by omega) _) _ _ (by omega) _
  · obtain ⟨C1, C2, hz3, HD⟩ := two w1 #[.int .i64 (H : Int)] 3 #[.int .i64 (W : Int)] 3
    have HW2 := HW.trans (HD.mono HW.size)
    have D1 := B1.below HD z1
    have D2 := B2.below HD hz
    go_wp2_with (go_at_call 104; (with_reducible refine (KB.out _ HW2 _ _ _ D1 C2 C1).mono ?_); rintro e w2 ⟨A', cap', rfl, hi, hb2⟩; obtain ⟨r0, r1, r2, f0, f1, f2⟩ := blk3 (D2.below hb2 D2.lt); have hz2 : w.heap.size + 1 < w2.heap.size := Nat.lt_of_lt_of_le D2.lt hb2.size; have HI := hide hi; have HB2 := hide hb2; clear hi hb2)
    refine bodyPost_ret (v := .tuple #[imgV H W A' px.length cap', .int .i64 0]) (by simp [results, Try.results61, go_sem, r0, r1, r2, hz2]) rfl ⟨A', cap', rfl, ?_, ?_⟩
    · have hzz := HW2.size
      exact (((HI.out.set _ _ (by have := D2.lt; omega) _).set _ _ (by have := D2.lt; omega) _).set _ _ (by have := D2.lt; omega) _).less hzz
    · exact bset (bset (bset (bstep HW2 HB2.out) _ _ (by omega) _) _ _ (by omega) _) _ _ (by omega) _


end Go.Proofs.Ytkjnheikimpliaa
