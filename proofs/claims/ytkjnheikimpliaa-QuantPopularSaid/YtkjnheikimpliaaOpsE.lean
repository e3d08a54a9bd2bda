/- ops.Resize: walked. -/
import Derived.Test.YtkjnheikimpliaaOpsC
import Derived.Test.YtkjnheikimpliaaPlain
namespace Go.Proofs.Ytkjnheikimpliaa
set_option linter.unusedVariables false
set_option linter.unusedSimpArgs false
open Go.RowKit
attribute [local go_sem ↓] Go.wp_at_zero Go.wp_at_succ

theorem pix_take (l : List Int) : ∀ n, 4 * n ≤ l.length → bytesL ((List.range n).map (pix l)) = l.take (4 * n)
  | 0, _ => by simp [bytesL]
  | n + 1, h => by
    have h1 : ∀ i, 4 * n + i < l.length → l.getD (4 * n + i) 0 = l[4 * n + i]! := fun i hi => by simp [List.getD, hi]
    rw [List.range_succ, List.map_append, List.map_cons, List.map_nil, bytesL_snoc, pix_take l n (by omega), show 4 * (n + 1) = 4 * n + 1 + 1 + 1 + 1 from by omega]
    rw [List.take_succ_eq_append_getElem (i := 4 * n + 1 + 1 + 1) (by omega), List.take_succ_eq_append_getElem (i := 4 * n + 1 + 1) (by omega), List.take_succ_eq_append_getElem (i := 4 * n + 1) (by omega), List.take_succ_eq_append_getElem (i := 4 * n) (by omega)]
    simp only [pix, List.getD, List.append_assoc, List.cons_append, List.nil_append]
    rw [List.getElem?_eq_getElem (i := 4 * n) (by omega), List.getElem?_eq_getElem (i := 4 * n + 1) (by omega), List.getElem?_eq_getElem (i := 4 * n + 2) (by omega), List.getElem?_eq_getElem (i := 4 * n + 3) (by omega)]
    simp
/-- An image's bytes are its pixels'. -/
theorem bytes_img {l : List Int} {W H : Nat} (hR : rightI W H l.length) : bytesL (pxs (imgPx l W) W (W * H)) = l := by
  have hl : l.length = 4 * (W * H) := by
    have h := hR.2.2
    have e : (4 * (W : Int) * (H : Int)) = ((4 * (W * H) : Nat) : Int) := by simp [Int.mul_assoc]
    rw [e] at h
    omega
  have e : pxs (imgPx l W) W (W * H) = (List.range (W * H)).map (pix l) := by
    unfold pxs imgPx
    refine List.map_congr_left fun k _ => ?_
    rw [Nat.mul_comm, Nat.div_add_mod]
  rw [e, pix_take l _ (by omega), List.take_of_length_le (by omega)]

theorem scale_facts {a W : Nat} {x : Int} (ha : a < W) (hW : W ≤ 16384) (hx : 1 ≤ x ∧ x ≤ 16384) :
    IntKind.i64.wrap ((a : Int) * x) = a * x ∧ ((a : Int) * x).tdiv W = a * x / W ∧ IntKind.i64.wrap ((a : Int) * x / W) = a * x / W ∧ 0 ≤ (a : Int) * x / W ∧ (a : Int) * x / W < x := by
  have h0 : 0 ≤ (a : Int) * x := Int.mul_nonneg (by omega) (by omega)
  have h1 : (a : Int) * x ≤ 16384 * x := Int.mul_le_mul_of_nonneg_right (by omega) (by omega)
  have h2 : (a : Int) * x < (W : Int) * x := Int.mul_lt_mul_of_pos_right (by omega) (by omega)
  have h3 : 0 ≤ (a : Int) * x / W := Int.ediv_nonneg h0 (by omega)
  have h4 : (a : Int) * x / W < x := Int.ediv_lt_of_lt_mul (by omega) (by rw [Int.mul_comm x]; exact h2)
  exact ⟨IntWalk.i64_in _ (by omega), Int.tdiv_eq_ediv_of_nonneg h0, IntWalk.i64_in _ (by omega), h3, h4⟩

/-- The pixels of an image of other sides. -/
def sizePx (l : List Int) (x y : Int) (W H : Nat) (a b : Nat) : Col := pix l ((b : Int) * y / H * x + (a : Int) * x / W).toNat
theorem sizePx_own (l : List Int) {W H a b : Nat} (ha : a < W) (hb : b < H) : sizePx l W H W H a b = imgPx l W a b := by
  unfold sizePx imgPx
  rw [Int.mul_ediv_cancel _ (by omega), Int.mul_ediv_cancel _ (by omega), nat_idx]

set_option maxHeartbeats 4000000 in
theorem resize1_any (x y : Int) (A : Option Addr) (l : List Int) (cap : Nat) (W H : Nat) (bm bx bj : Nat) (a b : Nat) (w : World) (hR : rightI x y l.length) (hr : RowAt w w.heap.size .u8 A l) (hcap : l.length ≤ cap)
    (hm : Blk w bm 34 #[.int .i64 x, .int .i64 y, .slice A l.length cap]) (hx : Blk w bx 3 #[.int .i64 (W : Int)]) (hj : Blk w bj 3 #[.int .i64 (H : Int)])
    (ha : a < W) (hb : b < H) (hW : W ≤ 16384) (hH : H ≤ 16384) :
    Calls Try.prog 105 #[.int .i64 (a : Int), .int .i64 (b : Int), .pointer (some ⟨bm, 0, none⟩), .pointer (some ⟨bx, 0, none⟩), .pointer (some ⟨bj, 0, none⟩)] w fun e w' =>
      e = .returned (colV (sizePx l x y W H a b)) ∧ Below w.heap.size w w' := by
  obtain ⟨a1, a2, a3, a4, a5⟩ := scale_facts ha hW hR.1
  obtain ⟨b1, b2, b3, b4, b5⟩ := scale_facts hb hH hR.2.1
  have K := hide fun (w' : World) (h : Below w.heap.size w w') => at_any x y A l cap ((a : Int) * x / W) ((b : Int) * y / H) w' hR ((hr.below h (Nat.le_refl _)).more h.size) hcap ⟨a4, a5⟩ ⟨b4, b5⟩
  have K : Hid (∀ (w' : World) (h : Below w.heap.size w w'), Calls Try.prog 106 #[imgV x y A l.length cap, .int .i64 ((a : Int) * x / W), .int .i64 ((b : Int) * y / H)] w' fun e w'' => e = .returned (colV (sizePx l x y W H a b)) ∧ Below w'.heap.size w' w'') := K
  have nW : ¬ (W = 0) := by omega
  have nH : ¬ (H = 0) := by omega
  have lm := hm.lt
  have lx := hx.lt
  have lj := hj.lt
  have n1 : ¬ (bm = w.heap.size) := by omega
  have n2 : ¬ (bx = w.heap.size) := by omega
  have n3 : ¬ (bj = w.heap.size) := by omega
  have n4 : ¬ (w.heap.size = bm) := by omega
  have n5 : ¬ (w.heap.size = bx) := by omega
  have n6 : ¬ (w.heap.size = bj) := by omega
  obtain ⟨c, hc⟩ : ∃ c, c = sizePx l x y W H a b := ⟨_, rfl⟩
  rw [← hc] at K ⊢
  generalize (a : Int) * x / W = p at *
  generalize (b : Int) * y / H = q at *
  clear hR hr hcap hc a4 a5 b4 b5
  go_enter Try.func105, Try.ntmps105
  go_wp2
  have B0 := Blk.new' w 36 #[.int .u8 0, .int .u8 0, .int .u8 0, .int .u8 0] w.heap.size rfl
  have HB := below_alloc w (.cells #[.int .u8 0, .int .u8 0, .int .u8 0, .int .u8 0] 36)
  have hm := hm.alloc (.cells #[.int .u8 0, .int .u8 0, .int .u8 0, .int .u8 0] 36)
  have hx := hx.alloc (.cells #[.int .u8 0, .int .u8 0, .int .u8 0, .int .u8 0] 36)
  have hj := hj.alloc (.cells #[.int .u8 0, .int .u8 0, .int .u8 0, .int .u8 0] 36)
  generalize World.alloc _ (Obj.cells #[.int .u8 0, .int .u8 0, .int .u8 0, .int .u8 0] 36) = U at *
  obtain ⟨m0, m1, m2, -⟩ := blk3 hm
  obtain ⟨x0, -⟩ := blk1 hx
  obtain ⟨y0, -⟩ := blk1 hj
  go_region_held3 (fun w' => w'.cell? ⟨bm, 0, none⟩ = some (.int .i64 x) ∧ w'.cell? ⟨bm, 1, none⟩ = some (.int .i64 y) ∧ w'.cell? ⟨bm, 2, none⟩ = some (.slice A l.length cap) ∧ w'.cell? ⟨bx, 0, none⟩ = some (.int .i64 (W : Int)) ∧ w'.cell? ⟨bj, 0, none⟩ = some (.int .i64 (H : Int))) (go_keep) ((go_at_call 106; (with_reducible refine (K.out _ HB.drew).mono ?_); rintro e w1 ⟨rfl, hb1⟩; have hb1d : Below U.heap.size U w1 := (Below.refl U.heap.size U).drew.trans hb1; obtain ⟨r0, r1, r2, r3, f0, f1, f2, f3⟩ := blk4 (B0.below hb1d B0.lt); obtain ⟨s0, s1, s2, -⟩ := blk3 (hm.below hb1d hm.lt); obtain ⟨t0, -⟩ := blk1 (hx.below hb1d hx.lt); obtain ⟨u0, -⟩ := blk1 (hj.below hb1d hj.lt); have hz : w.heap.size < w1.heap.size := (B0.below hb1d B0.lt).lt))
  go_wp2
  exact bodyPost_ret (v := colV c) (by simp [results, Try.results105, go_sem, r0, r1, r2, r3, hz]) rfl ⟨rfl, bset (bset (bset (bset (bstep HB hb1d) _ _ (by omega) _) _ _ (by omega) _) _ _ (by omega) _) _ _ (by omega) _⟩

theorem enters105 (args : Array Value) (w : World) : (callFunc 105 args).run Try.prog w = .ok (.enter 105 args) w := enters_of Try.func105 (by kernel_rfl) rfl args w

set_option maxHeartbeats 2000000 in
theorem resize_yes (x y : Int) (A : Option Addr) (l : List Int) (cap : Nat) (W H : Nat) (w : World) (hR : rightI x y l.length) (hr : RowAt w w.heap.size .u8 A l) (hcap : l.length ≤ cap) (hW : 1 ≤ W ∧ W ≤ 16384) (hH : 1 ≤ H ∧ H ≤ 16384) :
    Calls Try.prog 52 #[imgV x y A l.length cap, .int .i64 (W : Int), .int .i64 (H : Int)] w (Made w W H (sizePx l x y W H)) := by
  have K1 := hide (right_yes hR A cap)
  have KB := hide fun (w' : World) (h : Below w.heap.size w w') (bm bx bj : Nat) (hm : Blk w' bm 34 #[.int .i64 x, .int .i64 y, .slice A l.length cap]) (h1 : Blk w' bx 3 #[.int .i64 (W : Int)]) (h2 : Blk w' bj 3 #[.int .i64 (H : Int)]) =>
    build_pure 105 enters105 #[.pointer (some ⟨bm, 0, none⟩), .pointer (some ⟨bx, 0, none⟩), .pointer (some ⟨bj, 0, none⟩)] (sizePx l x y W H) W H hW hH w' (fun a b w1 ha hb hb1 => by
      have hw1 := h.trans (hb1.mono h.size)
      exact resize1_any x y A l cap W H bm bx bj a b w1 hR ((hr.below hw1 (Nat.le_refl _)).more hw1.size) hcap (hm.below hb1 hm.lt) (h1.below hb1 h1.lt) (h2.below hb1 h2.lt) ha hb hW.2 hH.2)
  unfold Made
  obtain ⟨px, hpx⟩ : ∃ px, px = bytesL (pxs (sizePx l x y W H) W (W * H)) := ⟨_, rfl⟩
  rw [← hpx] at KB ⊢
  clear hR hr hcap hW hH hpx
  go_enter Try.func52, Try.ntmps52
  go_wp2_with (first | (go_at_call 94; (with_reducible refine (K1.out _).mono ?_); rintro e w1 ⟨rfl, hb1⟩; obtain ⟨B1, B2, B3, B4, hz, HW⟩ := own4 hb1; obtain ⟨m0, m1, m2, -⟩ := blk3 B1; obtain ⟨i0, -⟩ := blk1 B2; obtain ⟨j0, -⟩ := blk1 B3; have z1 := B1.lt; have z2 := B2.lt; have z3 := B3.lt; clear hb1) | (go_at_call 104; (with_reducible refine (KB.out _ HW _ _ _ B1 B2 B3).mono ?_); rintro e w2 ⟨A', cap', rfl, hi, hb2⟩; obtain ⟨r0, r1, r2, f0, f1, f2⟩ := blk3 (B4.below hb2 hz); have hz2 : w.heap.size + 1 + 1 + 1 < w2.heap.size := Nat.lt_of_lt_of_le hz hb2.size; have HI := hide hi; clear hi))
  refine bodyPost_ret (v := .tuple #[imgV W H A' px.length cap', .int .i64 0]) (by simp [results, Try.results52, go_sem, r0, r1, r2, hz2]) rfl ⟨A', cap', rfl, ?_, ?_⟩
  · exact (((HI.out.set _ _ (by omega) _).set _ _ (by omega) _).set _ _ (by omega) _).less (by omega)
  · exact bset (bset (bset (bstep HW hb2) _ _ (by omega) _) _ _ (by omega) _) _ _ (by omega) _
set_option maxHeartbeats 2000000 in
theorem resize_no (x y : Int) (A : Option Addr) (n cap : Nat) (i j : Int) (w : World) (hR : ¬ rightI x y n) : Calls Try.prog 52 #[imgV x y A n cap, .int .i64 i, .int .i64 j] w (Refused w 11) := by
  have K1 := hide (right_no hR A cap)
  unfold Refused
  clear hR
  go_enter Try.func52, Try.ntmps52
  go_wp2_with (first | (go_at_call 94; (with_reducible refine (K1.out _).mono ?_); rintro e w1 ⟨rfl, hb1⟩; obtain ⟨B1, B2, B3, B4, hz, HW⟩ := own4 hb1; obtain ⟨r0, r1, r2, f0, f1, f2⟩ := blk3 B4; clear hb1))
  refine bodyPost_ret (v := .tuple #[imgV 0 0 none 0 0, .int .i64 11]) (by simp [results, Try.results52, go_sem, r0, r1, r2, hz]) rfl ⟨rfl, bset (bset (bset HW _ _ (by omega) _) _ _ (by omega) _) _ _ (by omega) _⟩
set_option maxHeartbeats 2000000 in
theorem resize_side (x y : Int) (A : Option Addr) (n cap : Nat) (i j : Int) (w : World) (hR : rightI x y n) (h : i < 1 ∨ 16384 < i ∨ j < 1 ∨ 16384 < j) : Calls Try.prog 52 #[imgV x y A n cap, .int .i64 i, .int .i64 j] w (Refused w 11) := by
  have K1 := hide (right_yes hR A cap)
  have K4 := hide fun (F : Value) (w' : World) => build_no F i j h w'
  unfold Refused
  clear hR h
  go_enter Try.func52, Try.ntmps52
  go_wp2_with (first | (go_at_call 94; (with_reducible refine (K1.out _).mono ?_); rintro e w1 ⟨rfl, hb1⟩; obtain ⟨B1, B2, B3, B4, hz, HW⟩ := own4 hb1; obtain ⟨m0, m1, m2, -⟩ := blk3 B1; obtain ⟨i0, -⟩ := blk1 B2; obtain ⟨j0, -⟩ := blk1 B3; clear hb1) | (go_at_call 104; (with_reducible refine (K4.out _ _).mono ?_); rintro e w2 ⟨rfl, hb2⟩; obtain ⟨r0, r1, r2, f0, f1, f2⟩ := blk3 (B4.below hb2 hz); have hz2 : w.heap.size + 1 + 1 + 1 < w2.heap.size := Nat.lt_of_lt_of_le hz hb2.size))
  refine bodyPost_ret (v := .tuple #[imgV 0 0 none 0 0, .int .i64 11]) (by simp [results, Try.results52, go_sem, r0, r1, r2, hz2]) rfl ⟨rfl, bset (bset (bset (bstep HW hb2) _ _ (by omega) _) _ _ (by omega) _) _ _ (by omega) _⟩
end Go.Proofs.Ytkjnheikimpliaa
