/- The law OpsSizes, at a right image and small sides: walked; and the law. -/
import Derived.Test.YtkjnheikimpliaaLawSize
namespace Go.Proofs.Ytkjnheikimpliaa
set_option linter.unusedVariables false
set_option linter.unusedSimpArgs false
open Go.RowKit
attribute [local go_sem ↓] Go.wp_at_zero Go.wp_at_succ

set_option maxRecDepth 100000 in
set_option maxHeartbeats 16000000 in
theorem sizes_yes (X Y : Nat) (A : Option Addr) (l : List Int) (cap : Nat) (W H : Nat) (w : World) (hu : U8s l) (hr : RowAt w w.heap.size .u8 A l) (hcap : l.length ≤ cap) (h : ¬ 600 < l.length) (hR : rightI X Y l.length) (hW : 1 ≤ W ∧ W ≤ 40) (hH : 1 ≤ H ∧ H ≤ 40) :
    Calls Try.prog 10 #[imgV X Y A l.length cap, .int .i64 (W : Int), .int .i64 (H : Int)] w fun e w' => e = .returned (.bool true) ∧ Below w.heap.size w w' := by
  obtain ⟨i0, hi, gz0, gz1, gz2⟩ := info_parts col_info
  obtain ⟨i1, ji, jz0, jz1, jz2⟩ := info_parts cols_info
  have K1 := hide (big_no h X Y A cap)
  have K2 := hide fun (w' : World) (hw : Below w.heap.size w w') => resize_yes X Y A l cap W H w' hR ((hr.below hw (Nat.le_refl _)).more hw.size) hcap (by omega) (by omega)
  have K3 := hide (refRight_yes hR A cap)
  have K4 := hide fun (a b : Nat) (ha : a < W) (hb : b < H) (w' : World) (hw : Below w.heap.size w w') => by
    obtain ⟨a1, a2, a3, a4, a5⟩ := scale_facts ha (by omega) hR.1
    obtain ⟨b1, b2, b3, b4, b5⟩ := scale_facts hb (by omega) hR.2.1
    exact refPixel_any X Y A l cap ((a : Int) * X / W) ((b : Int) * Y / H) w' hR ((hr.below hw (Nat.le_refl _)).more hw.size) ⟨a4, a5⟩ ⟨b4, b5⟩
  have K4 : Hid (∀ (a b : Nat) (ha : a < W) (hb : b < H) (w' : World) (hw : Below w.heap.size w w'), Calls Try.prog 39 #[imgV X Y A l.length cap, .int .i64 ((a : Int) * X / W), .int .i64 ((b : Int) * Y / H)] w' fun e w'' => e = .returned (colV (sizePx l X Y W H a b)) ∧ Below w'.heap.size w' w'') := K4
  have SF := hide (fun (a b : Nat) (ha : a < W) (hb : b < H) => And.intro (scale_facts ha (show W ≤ 16384 by omega) hR.1) (scale_facts hb (show H ≤ 16384 by omega) hR.2.1))
  have K6 := hide fun (w' : World) (hw : Below w.heap.size w w') => (by
    have h1 := resize_yes X Y A l cap X Y w' hR ((hr.below hw (Nat.le_refl _)).more hw.size) hcap (by have := hR.1; omega) (by have := hR.2.1; omega)
    have e : bytesL (pxs (sizePx l X Y X Y) X (X * Y)) = l := by
      rw [pxs_congr _ (imgPx l X) X Y (by have := hR.1; omega) (fun p q hp hq => sizePx_own l hp hq), bytes_img hR]
    unfold Made at h1
    rw [e] at h1
    exact h1 : Calls Try.prog 52 #[imgV X Y A l.length cap, .int .i64 (X : Int), .int .i64 (Y : Int)] w' fun e w'' => ∃ A' cap', e = .returned (.tuple #[imgV X Y A' l.length cap', .int .i64 0]) ∧ ImgNew w'' w'.heap.size A' cap' l ∧ Below w'.heap.size w' w'')
  have hpx : pxs (sizePx l X Y W H) W (W * H) = (grid (sizePx l X Y W H) W H).flatten := pxs_grid _ _ _
  have hus : U8s (bytesL (grid (sizePx l X Y W H) W H).flatten) := by
    rw [← pxs_grid]; exact u8s_pxs (fun p q => pix_ok hu _) _ _
  have hlen : (bytesL (grid (sizePx l X Y W H) W H).flatten).length ≤ 1073741824 := by
    rw [← pxs_grid, bytesL_len, pxs_len]
    have : W * H ≤ 40 * 40 := Nat.mul_le_mul (by omega) (by omega)
    omega
  unfold Made at K2
  rw [hpx] at K2
  obtain ⟨px, hpxx⟩ : ∃ px, px = sizePx l X Y W H := ⟨_, rfl⟩
  rw [← hpxx] at K2 K4 hus hlen
  obtain ⟨bs, hbs⟩ : ∃ bs, bs = bytesL (grid px W H).flatten := ⟨_, rfl⟩
  have K5 := hide fun (w' : World) (g c : Nat) (hro : RowsAt w' w'.heap.size (some ⟨g, 0, none⟩) (grid px W H)) => refImage_any (some ⟨g, 0, none⟩) (grid px W H) c w' hro (by rw [grid_len]; omega) hlen (by rw [grid_len]; omega) hus
  have hg0 : ((grid px W H).getD 0 []).length = W := by
    unfold grid
    simp [List.getD, show 0 < H from by omega]
  rw [← hbs] at K2 K5 hus
  rw [hg0, grid_len] at K5
  have hx1 := hR.1.2
  have hy1 := hR.2.1.2
  have HUS := hide hus
  have HUL := hide hu
  have HR0 := hide hr
  have d1 : decide ((40 : Int) < W) = false := by simp; omega
  have d2 : decide ((40 : Int) < H) = false := by simp; omega
  have d3 : decide ((W : Int) < 1) = false := by simp; omega
  have d4 : decide ((16384 : Int) < W) = false := by simp; omega
  have d5 : decide ((H : Int) < 1) = false := by simp; omega
  have d6 : decide ((16384 : Int) < H) = false := by simp; omega
  have nW : ¬ (W = 0) := by omega
  have nH : ¬ (H = 0) := by omega
  clear h hR hr hcap hpx hlen hbs hg0 hus hpxx hu
  go_enter Try.func10, Try.ntmps10
  go_wp2_with (first | (go_at_call 50; (with_reducible refine (K1.out _).mono ?_); rintro e w1 ⟨rfl, hb1⟩; obtain ⟨B1, hz, HW⟩ := own1 hb1; obtain ⟨m0, m1, m2, -⟩ := blk3 B1; clear hb1) | (go_at_call 36; (with_reducible refine (K3.out _).mono ?_); rintro e w2 ⟨rfl, hb2⟩; have B2 := B1.below hb2 hz; obtain ⟨n0, n1, n2, -⟩ := blk3 B2; have HW2 := bstep HW hb2; have hz2 := B2.lt; clear hb2 B1) | (go_at_call 52; (with_reducible refine (K2.out _ HW2).mono ?_); rintro e w3 ⟨A', cap', rfl, him, hb3⟩; have B3 := B2.below hb3 hz2; obtain ⟨p0, p1, p2, -⟩ := blk3x B3; have HW3 := bstep HW2 hb3; have hz3 := B3.lt; have HIM := hide him; clear him hb3) | (go_at_call 36; (with_reducible refine (K3.out _).mono ?_); rintro e w4 ⟨rfl, hb4⟩; obtain ⟨B5, hz5, HW5⟩ := own1 hb4; obtain ⟨q0, q1, q2, -⟩ := blk3 B5; have HW4 := bstep HW3 HW5; have B4 := B3.below HW5 hz3; obtain ⟨s0, s1, s2, -⟩ := blk3x B4; have hz4 := B4.lt; clear hb4))
  clear m0 m1 m2 n0 n1 n2 p0 p1 p2 q0 q1 q2 s0 s1 s2 K1 K3
  go_loopw [72, 9] (fun i v wr => ∃ k g c : Nat, k ≤ H ∧ i = .int .i64 k ∧ v = .slice (some ⟨g, 0, none⟩) k c ∧ OutR wr w4.heap.size wr.heap.size g c ((grid px W H).take k) ∧ Below w4.heap.size w4 wr) (fun i _ _ => H - (intOf i).toNat)
  case atStart =>
    refine ⟨0, _, 0, Nat.zero_le _, rfl, rfl, ⟨by simp, [], own_empty _ _ _ _ (by simp) _ (by simp), fun i hi => by simp at hi⟩, below_alloc w4 _⟩
  case round =>
    obtain ⟨k, g, c, hk, rfl, rfl, hO, hb⟩ := hrel
    obtain ⟨wo, rfl⟩ : ∃ wo : World, wo = wr := ⟨_, rfl⟩
    have hsz := hb.size
    have Bo := B4.below hb hz4
    have z0 := Bo.lt
    by_cases hlt : k < H
    · have HO := hide hO
      have HB := hide hb
      have HWo := hide (bstep HW4 hb)
      clear hO hb
      go_wp2_with fail
      go_loopw [77, 11] (fun j v wr => ∃ x gl cl : Nat, x ≤ W ∧ j = .int .i64 x ∧ v = .slice (some ⟨gl, 0, none⟩) x cl ∧ wr.ownsRow wo.heap.size 36 4 (.slice (some ⟨gl, 0, none⟩) x cl) x (u8L (bytesL (((List.range W).map fun a => px a k).take x))) ∧ Below wo.heap.size wo wr) (fun j _ _ => W - (intOf j).toNat)
      case atStart => exact ⟨0, _, 0, Nat.zero_le _, rfl, rfl, own_empty wo _ _ _ (Nat.le_refl _) _ rfl, below_alloc wo _⟩
      case round =>
        obtain ⟨x, gl, cl, hx, rfl, rfl, hl, hb2⟩ := hrel
        have Br := Bo.below hb2 z0
        obtain ⟨n0, n1, n2, -⟩ := blk3 Br
        have z1 := Br.lt
        by_cases hltx : x < W
        · obtain ⟨⟨f1, f2, f3, f4, f5⟩, ⟨e1, e2, e3, e4, e5⟩⟩ := SF.out x k hltx hlt
          have HL := hide hl
          have HB2 := hide hb2
          have HWr := hide (bstep HWo.out hb2)
          clear hl hb2 f4 f5 e4 e5
          go_wp2_with fail
          go_region_held3 (fun w' => w'.cell? ⟨w.heap.size, 0, none⟩ = some (.int .i64 (X : Int)) ∧ w'.cell? ⟨w.heap.size, 1, none⟩ = some (.int .i64 (Y : Int)) ∧ w'.cell? ⟨w.heap.size, 2, none⟩ = some (.slice A l.length cap)) (go_keep) (first | (go_at_call 39; (with_reducible refine (K4.out x k hltx hlt _ HWr.out.drew).mono ?_); rintro e w5 ⟨rfl, hb5⟩; have hb5d : Below wr.heap.size wr w5 := (Below.refl wr.heap.size wr).drew.trans hb5; have B5r := Br.below hb5d Br.lt; obtain ⟨r0, r1, r2, -⟩ := blk3 B5r; have z5 := B5r.lt; have HL1 := hide (owns_same HL.out (hb5d.block gl (own_lt HL.out))); have HB3 := hide (HB2.out.trans (hb5d.mono HB2.out.size))) | (refine step_append_lies _ (by rfl) _ _ _ (by rfl) wo.heap.size 36 i0 _ 4 4 Try.underlying58 hi gz0 gz1 gz2 rfl (by omega) (.slice (some ⟨gl, 0, none⟩) x cl) x _ (by rfl) (HL1.out.alloc _) ⟨w5.heap.size, 0, none⟩ 1 1 [.int .u8 (px x k).r, .int .u8 (px x k).g, .int .u8 (px x k).b, .int .u8 (px x k).a] (by rfl) (by rfl) (World.news_of_block (heap_alloc_new w5 _)) (u8L_one [(px x k).r, (px x k).g, (px x k).b, (px x k).a]) (by omega) (by unfold maxLen; omega) (by omega) (by have := HB3.out.size; simp; omega) (w5.heap.size + 1) (by simp) ?_; intro g' c' w6 hown2 hg2 hat2 hlt2; have B6 := (B5r.alloc _).grown hg2 (fun e => by have := own_ge HL1.out; simp [Value.ownBlock] at e; omega); obtain ⟨v0, v1, v2, -⟩ := blk3 B6))
          have HB6 := hide ((HB3.out.alloc HB3.out.size _).grown hg2 (by simp; have := HB3.out.size; omega) (fun q hq => by have := own_ge HL1.out; simp [Value.ownBlock] at hq; omega))
          have HO2 := hide hown2
          clear hown2 hg2 hat2
          go_wp2
          go_roundw
          case rel => exact ⟨x + 1, g', c', by omega, by go_num, rfl, by rw [range_take _ W x hltx, bytesL_snoc, u8L_append]; exact HO2.out, HB6.out⟩
          case measure => simp [intOf]; omega
        · have hxW : x = W := by omega
          subst hxW
          have hlen := hide (grid_len px x H)
          have hlk : ((grid px x H).take k).length = k := by rw [List.length_take, hlen.out]; omega
          obtain ⟨hlt0, vs, ho, hv⟩ := (HO.out.below hb2).more hb2.size
          rw [hlk] at ho hv
          obtain ⟨e1, e2, ht⟩ := TRow.of_own hl
          rw [List.take_of_length_le (by simp)] at ht e1 e2
          have HV := hide hv
          have HOO := hide ho
          have HT := hide ht
          have HB2 := hide hb2
          have hxc : x ≤ cl := by have := e2; simp at this; exact this
          have HLK := hide hlk
          clear ho hv ht hl e1 e2 hb2 hlk
          go_wp2_with (at_builtin; refine wpList_append_lies _ rfl _ _ _ rfl w4.heap.size 58 i1 _ 1 24 Try.underlying57 ji jz0 jz1 jz2 rfl (by omega) (.slice (some ⟨g, 0, none⟩) k c) k vs rfl (HOO.out.alloc _) ⟨wr.heap.size, 0, none⟩ 1 1 [.slice (some ⟨gl, 0, none⟩) x cl] rfl rfl (World.news_of_block (heap_alloc_new wr _)) (by intro u hu; simp at hu; subst hu; rfl) (by omega) (by unfold maxLen; omega) (by omega) (by have := HB2.out.size; simp; omega) (wr.heap.size + 1) (by simp) ?_; intro g' c' w7 hown2 hg2 hat2 hlt2)
          have hrow : ((List.range x).map fun a => px a k).length = x := by simp
          have hout : OutR w7 w4.heap.size w7.heap.size g' c' ((grid px x H).take (k + 1)) := by
            rw [grid_take _ _ _ _ hlt]
            exact OutR.push (w := wr) (vs := vs) (Ai := some ⟨gl, 0, none⟩) (ci := cl) _ (by rw [HLK.out]; exact HV.out) (by rw [HLK.out]; exact HOO.out) HT.out (by rw [hrow]; exact hxc) (by rw [HLK.out, hrow]; exact hown2) hg2 hlt2
          have hb3 : Below w4.heap.size w4 w7 := ((HB.out.trans (HB2.out.mono hsz)).alloc (Nat.le_trans hsz HB2.out.size) _).grown hg2 (by have := HB2.out.size; simp; omega) (fun q hq => by have := own_ge HOO.out; simp [Value.ownBlock] at hq; omega)
          go_roundw
          case rel => exact ⟨k + 1, g', c', by omega, by go_num, rfl, hout, hb3⟩
          case measure => simp [intOf]; omega
    · have hkH : k = H := by omega
      subst hkH
      rw [List.take_of_length_le (by rw [grid_len]; omega)] at hO
      obtain ⟨m0, m1, m2, -⟩ := blk3 Bo
      have HWo := bstep HW4 hb
      have HO := hide hO
      have B5o := B5.below hb hz5
      have z50 := B5o.lt
      clear hO
      go_wp2_with (go_at_call 52; (with_reducible refine (K6.out _ HWo).mono ?_); rintro e w6 ⟨A6, cap6, rfl, him6, hb6⟩; have D1 := Bo.below hb6 z0; have D2 := B5o.below hb6 z50; have HW6 := bstep HWo hb6; have HIM6 := hide him6; have HB6 := hide hb6; clear him6 hb6)
      have hbV := balloc HB6.out (.cells #[.int .i64 (X : Int), .int .i64 (Y : Int), .slice A6 l.length cap6] 34)
      have h6V := below_alloc w6 (.cells #[.int .i64 (X : Int), .int .i64 (Y : Int), .slice A6 l.length cap6] 34)
      have hV := balloc HW6 (.cells #[.int .i64 (X : Int), .int .i64 (Y : Int), .slice A6 l.length cap6] 34)
      have E1 := D1.alloc (.cells #[.int .i64 (X : Int), .int .i64 (Y : Int), .slice A6 l.length cap6] 34)
      have E2 := D2.alloc (.cells #[.int .i64 (X : Int), .int .i64 (Y : Int), .slice A6 l.length cap6] 34)
      have E3 := Blk.new' w6 34 #[.int .i64 (X : Int), .int .i64 (Y : Int), .slice A6 l.length cap6] w6.heap.size rfl
      generalize World.alloc w6 _ = V at *
      have HRV : RowsAt V V.heap.size (some ⟨g, 0, none⟩) (grid px W k) := ((HO.out.below hbV).more hbV.size).rows
      have HR := hide (show RowsAt V.drew V.drew.heap.size (some ⟨g, 0, none⟩) (grid px W k) from HRV)
      have hww := bstep (bstep HW5 hb) hbV
      have R1 := hide ((HIM.out.row.below hww (Nat.le_refl _)).more hww.size)
      have R2 := hide ((HIM6.out.row.below h6V (Nat.le_refl _)).more h6V.size)
      have R3 := hide ((HR0.out.below hV (Nat.le_refl _)).more hV.size)
      obtain ⟨a0, a1, a2, -⟩ := blk3 E1
      obtain ⟨b0, b1, b2, -⟩ := blk3 E2
      obtain ⟨c0, c1, c2, -⟩ := blk3 E3
      clear m0 m1 m2 HRV
      go_region_held3 (fun w' => w'.cell? ⟨w.heap.size, 0, none⟩ = some (.int .i64 (X : Int)) ∧ w'.cell? ⟨w.heap.size, 1, none⟩ = some (.int .i64 (Y : Int)) ∧ w'.cell? ⟨w.heap.size, 2, none⟩ = some (.slice A l.length cap) ∧ w'.cell? ⟨w3.heap.size, 0, none⟩ = some (.int .i64 (W : Int)) ∧ w'.cell? ⟨w3.heap.size, 1, none⟩ = some (.int .i64 (k : Int)) ∧ w'.cell? ⟨w3.heap.size, 2, none⟩ = some (.slice A' bs.length cap') ∧ w'.cell? ⟨w6.heap.size, 0, none⟩ = some (.int .i64 (X : Int)) ∧ w'.cell? ⟨w6.heap.size, 1, none⟩ = some (.int .i64 (Y : Int)) ∧ w'.cell? ⟨w6.heap.size, 2, none⟩ = some (.slice A6 l.length cap6)) (go_keep) (first | (go_at_call 55; (with_reducible refine (K5.out _ _ _ HR.out).mono ?_); rintro e x1 ⟨A2, c2', rfl, him2, hx1⟩; have hd1 : Below V.heap.size V x1 := (Below.refl V.heap.size V).drew.trans hx1; obtain ⟨a0, a1, a2, -⟩ := blk3 (E1.below hd1 E1.lt); obtain ⟨b0, b1, b2, -⟩ := blk3 (E2.below hd1 E2.lt); obtain ⟨c0, c1, c2, -⟩ := blk3 (E3.below hd1 E3.lt)) | (go_at_call 54; (with_reducible refine (is_true _ _ A' bs cap' A2 c2' _ ((R1.out.below hd1 (Nat.le_refl _)).more hd1.size) him2.row HUS.out).mono ?_); rintro e x2 ⟨rfl, hx2⟩; have hd2 := bstep hd1 hx2; obtain ⟨a0, a1, a2, -⟩ := blk3 (E1.below hd2 E1.lt); obtain ⟨b0, b1, b2, -⟩ := blk3 (E2.below hd2 E2.lt); obtain ⟨c0, c1, c2, -⟩ := blk3 (E3.below hd2 E3.lt)) | (go_at_call 54; (with_reducible refine (is_true _ _ A6 l cap6 A cap _ ((R2.out.below hd2 (Nat.le_refl _)).more hd2.size) ((R3.out.below hd2 (Nat.le_refl _)).more hd2.size) HUL.out).mono ?_); rintro e x3 ⟨rfl, hx3⟩; have hd3 := bstep hd2 hx3; obtain ⟨a0, a1, a2, -⟩ := blk3 (E1.below hd3 E1.lt); obtain ⟨b0, b1, b2, -⟩ := blk3 (E2.below hd3 E2.lt); obtain ⟨c0, c1, c2, -⟩ := blk3 (E3.below hd3 E3.lt)) | (go_at_call 51; (with_reducible refine (awake34 _).mono ?_); rintro e x4 ⟨rfl, hx4⟩; have hd4 := bstep hd3 hx4; obtain ⟨a0, a1, a2, -⟩ := blk3 (E1.below hd4 E1.lt); obtain ⟨b0, b1, b2, -⟩ := blk3 (E2.below hd4 E2.lt); obtain ⟨c0, c1, c2, -⟩ := blk3 (E3.below hd4 E3.lt)))
      go_wp2
      go_ret
      exact ⟨rfl, bstep hV hd4⟩

theorem opsSizes_law (w : World) (x y : Int) (A : Option Addr) (l : List Int) (cap : Nat) (_ : I64 x) (_ : I64 y) (hr : RowAt w w.heap.size .u8 A l) (hu : U8s l) (hm : l.length ≤ maxLen) (hcap : l.length ≤ cap) (a : Int) (_ : I64 a) (b : Int) (_ : I64 b) :
    Calls Try.prog 10 #[imgV x y A l.length cap, .int .i64 a, .int .i64 b] w fun e w' => e = .returned (.bool true) ∧ Below w.heap.size w w' := by
  by_cases h : 600 < l.length
  · exact sizes_big x y A _ cap a b w h
  by_cases hR : rightI x y l.length
  · by_cases hw : (40 < a ∧ a ≤ 16384) ∨ (40 < b ∧ b ≤ 16384)
    · exact sizes_wide x y A _ cap a b w h hR hw
    by_cases ho : a < 1 ∨ 16384 < a ∨ b < 1 ∨ 16384 < b
    · exact sizes_side x y A _ cap a b w h hR hw ho
    · have hx := hR.1.1
      have hy := hR.2.1.1
      obtain ⟨X, rfl⟩ := Int.eq_ofNat_of_zero_le (show 0 ≤ x by omega)
      obtain ⟨Y, rfl⟩ := Int.eq_ofNat_of_zero_le (show 0 ≤ y by omega)
      obtain ⟨W, rfl⟩ := Int.eq_ofNat_of_zero_le (show 0 ≤ a by omega)
      obtain ⟨H, rfl⟩ := Int.eq_ofNat_of_zero_le (show 0 ≤ b by omega)
      exact sizes_yes X Y A l cap W H w hu hr hcap h hR (by omega) (by omega)
  · exact sizes_no x y A _ cap a b w h hR
end Go.Proofs.Ytkjnheikimpliaa
