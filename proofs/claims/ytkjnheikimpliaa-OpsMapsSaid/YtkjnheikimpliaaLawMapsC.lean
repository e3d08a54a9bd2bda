/- The law OpsMaps, of a right image; and the law. -/
import Derived.Test.YtkjnheikimpliaaLawMapsB
namespace Go.Proofs.Ytkjnheikimpliaa
set_option linter.unusedVariables false
set_option linter.unusedSimpArgs false
open Go.RowKit
attribute [local go_sem ↓] Go.wp_at_zero Go.wp_at_succ

theorem cntC_ok {c : Col} (h : c.ok) (k : Nat) : (cntC k c).ok := ⟨h.2.1, h.1, ⟨by show 0 ≤ ((k : Int) + 1) % 256; omega, by show ((k : Int) + 1) % 256 ≤ 255; omega⟩, h.2.2.2⟩

set_option maxRecDepth 100000 in
set_option maxHeartbeats 16000000 in
theorem maps_yes (W H : Nat) (A : Option Addr) (l : List Int) (cap : Nat) (a b : Int) (c : Col) (w : World) (hu : U8s l) (hr : RowAt w w.heap.size .u8 A l) (hcap : l.length ≤ cap) (h : ¬ 600 < l.length) (hR : rightI W H l.length) (ha : a ≤ 40 ∨ 16384 < a) (hb : b ≤ 40 ∨ 16384 < b) (hcok : c.ok) :
    Calls Try.prog 11 #[imgV W H A l.length cap, .int .i64 a, .int .i64 b, colV c] w fun e w' => e = .returned (.bool true) ∧ Below w.heap.size w w' := by
  have hX : 1 ≤ W ∧ W ≤ 16384 := by have := hR.1; omega
  have hY : 1 ≤ H ∧ H ≤ 16384 := by have := hR.2.1; omega
  have hWH : W * H ≤ 268435456 := Nat.le_trans (Nat.mul_le_mul hX.2 hY.2) (by decide)
  have K1 := hide (big_no h W H A cap)
  have K2 := hide fun (gk : Nat) (v : World) (hg : w.heap.size + 1 < gk) (h0 : MapsI w gk W H A l.length cap c 0 v) => mapsL_yes W H A l cap c gk w v hg hR hr hcap h0
  have K3 := hide (refRight_yes hR A cap)
  obtain ⟨l2, hl2⟩ : ∃ l2, l2 = bytesL (pxs (cntPx l W) W (W * H)) := ⟨_, rfl⟩
  rw [← hl2] at K2
  have el2 : l2 = bytesL (grid (cntPx l W) W H).flatten := by rw [hl2, ← pxs_grid]
  have hR2 : rightI W H l2.length := by rw [el2]; exact right_grid _ hX hY
  have hpx : ∀ x y, x < W → y < H → imgPx l2 W x y = cntC (y * W + x) (imgPx l W x y) := fun x y hx hy => by rw [el2, img_grid _ hx hy]; rfl
  have K4 := hide fun (A2 : Option Addr) (cap2 : Nat) => refRight_yes hR2 A2 cap2
  have KP := hide fun (x y : Nat) (w' : World) (hr' : RowAt w' w'.heap.size .u8 A l) (hx : x < W) (hy : y < H) (c : Col) (hc : c = imgPx l W x y) => pix_is W H A l cap x y w' hR hr' hx hy c hc
  have KQ := hide fun (A2 : Option Addr) (cap2 : Nat) (x y : Nat) (w' : World) (hr' : RowAt w' w'.heap.size .u8 A2 l2) (hx : x < W) (hy : y < H) (c : Col) (hc : c = imgPx l2 W x y) => pix_is W H A2 l2 cap2 x y w' hR2 hr' hx hy c hc
  have HPX := hide hpx
  have HU := hide hu
  have hr0 := hide hr
  have mW : IntKind.i64.wrap ((W : Int) * (H : Int)) = ((W * H : Nat) : Int) := by
    have e : (W : Int) * (H : Int) = ((W * H : Nat) : Int) := by simp
    rw [e]; exact IntWalk.i64_in _ (by omega)
  obtain ⟨N, hN⟩ : ∃ N, N = W * H := ⟨_, rfl⟩
  rw [← hN] at mW hWH K2
  have HN := hide hN
  clear hR hR2 hu hr hcap hl2 el2 hpx hN
  have KF := hide fun (w' : World) => fill_any a b c ha hb w'
  have KF : Hid (∀ w' : World, Calls Try.prog 58 #[.int .i64 a, .int .i64 b, .agg #[.int .u8 c.r, .int .u8 c.g, .int .u8 c.b, .int .u8 c.a]] w' fun e w'' => ∃ fx fy A n cap err, e = .returned (.tuple #[imgV fx fy A n cap, .int .i64 err]) ∧ FillR w' a b c fx fy A n cap err w'' ∧ Below w'.heap.size w' w'') := KF
  go_enter Try.func11, Try.ntmps11
  go_upto_region 1 with fail
  go_cut [35] (fun s wx => s = .bool false ∧ Blk wx w.heap.size 34 #[.int .i64 W, .int .i64 H, .slice A l.length cap] ∧ Blk wx (w.heap.size + 1) 36 #[.int .u8 c.r, .int .u8 c.g, .int .u8 c.b, .int .u8 c.a] ∧ Below w.heap.size w wx)
  case first =>
    clear KF K2 K3 K4 KP KQ HPX HU
    rcases ha with ha | ha <;> rcases hb with hb | hb
    all_goals
      go_wp2_with (go_at_call 50; (with_reducible refine (K1.out _).mono ?_); rintro e w1 ⟨rfl, hb1⟩; obtain ⟨B1, B2, hz, HW⟩ := own2 hb1; have H1 := hide B1; have H2 := hide B2; clear hb1 B1 B2)
      go_meet
      exact ⟨by first | rfl | (simp; omega), H1.out, H2.out, HW⟩
  case rest =>
    obtain ⟨rfl, hm, hc, hw⟩ := hcut
    obtain ⟨wk, rfl⟩ : ∃ wk : World, wk = wc := ⟨_, rfl⟩
    obtain ⟨m0, m1, m2⟩ := blk3xx' hm
    have lm := hm.lt
    have lc := hc.lt
    have hg1 : w.heap.size + 1 < wk.heap.size := lc
    have HI0 := hide (show MapsI w wk.heap.size W H A l.length cap c 0 (wk.alloc (.cells #[.int .i64 0] 3)) from ⟨balloc hw _, hm.alloc _, hc.alloc _, Blk.new _ _ _⟩)
    clear hm hc hw ha hb K1
    go_upto_region 6 with (first | (go_at_call 56; (with_reducible refine (K2.out _ _ hg1 HI0.out).mono ?_); rintro e w1 ⟨A2, cap2, rfl, him, hI1'⟩; have hI1 := hide hI1'; have RT := hide him.row; obtain ⟨c0, c1, c2, c3⟩ := blk4xx hI1.out.c; clear him hI1' HI0) | (go_at_call 58; (with_reducible refine (KF.out _).mono ?_); rintro e w2 ⟨fx, fy, A3, n3, cap3, err, rfl, hF, hb2⟩; have hI2 := (hI1.out.next hg1 (below_alloc w1 _)).next hg1 hb2; have Bn2 := (Blk.new w1 34 _).below hb2 (Blk.new w1 34 _).lt; have HF := hide hF; have HI2 := hide hI2; have HBn := hide Bn2; have hgw := hI1.out.k.lt; have hbn := bstep (below_alloc w1 (.cells #[.int .i64 W, .int .i64 H, .slice A2 l2.length cap2] 34)) hb2; have RN := hide ((RT.out.below hbn (Nat.le_refl _)).more hbn.size); clear hI1 hF hI2 hb2 Bn2 RT hbn))
    have hIf := hide (HI2.out.next hg1 (below_alloc w2 (.cells #[.int .i64 fx, .int .i64 fy, .slice A3 n3 cap3] 34)))
    have hFB := hide (⟨Blk.new _ _ _, hIf.out.c⟩ : FilB w (w2.alloc (.cells #[.int .i64 fx, .int .i64 fy, .slice A3 n3 cap3] 34)) w2.heap.size c fx fy A3 n3 cap3)
    have hBn := hide (HBn.out.alloc (.cells #[.int .i64 fx, .int .i64 fy, .slice A3 n3 cap3] 34))
    have hFR : FillR (w1.alloc (.cells #[.int .i64 W, .int .i64 H, .slice A2 l2.length cap2] 34)) a b c fx fy A3 n3 cap3 err w2 := HF.out
    clear m0 m1 m2 HI2 HBn HF c0 c1 c2 c3
    obtain ⟨gf, hgf⟩ : ∃ gf, gf = w2.heap.size := ⟨_, rfl⟩
    rw [← hgf] at hFB ⊢
    obtain ⟨gn, hgn⟩ : ∃ gn, gn = w1.heap.size := ⟨_, rfl⟩
    rw [← hgn] at hBn hgw ⊢
    obtain ⟨V, hV⟩ : ∃ V, V = w2.alloc (.cells #[.int .i64 fx, .int .i64 fy, .slice A3 n3 cap3] 34) := ⟨_, rfl⟩
    have hrf : ∀ l3, RowAt w2 w2.heap.size .u8 A3 l3 → RowAt V V.heap.size .u8 A3 l3 := fun l3 h => by rw [hV]; exact (h.below (below_alloc w2 _) (Nat.le_refl _)).more (below_alloc w2 _).size
    rw [← hV] at hIf hFB hBn ⊢
    obtain ⟨⟨f0, f1, f2⟩, c0, c1, c2, c3⟩ := hFB.out.cells
    have HRN := hide (show RowAt V V.heap.size .u8 A2 l2 by rw [hV]; exact (RN.out.below (below_alloc w2 _) (Nat.le_refl _)).more (below_alloc w2 _).size)
    have HRF := hide hrf
    have HFR := hide hFR
    clear hV hrf hFR hgf hgn
    obtain ⟨fb, hfb⟩ : ∃ fb : Bool, fb = decide (a < 1 ∨ 16384 < a ∨ b < 1 ∨ 16384 < b) := ⟨_, rfl⟩
    go_cut [63] (fun s wx => s = .bool fb ∧ wx = V)
    case first =>
      clear HRN RN KP KQ HPX HU hr0 K2 K3 K4 HN
      have hab : (1 ≤ a ∧ a ≤ 16384 ∧ 1 ≤ b ∧ b ≤ 16384 ∧ fb = false) ∨ (a < 1 ∧ fb = true) ∨ (1 ≤ a ∧ 16384 < a ∧ fb = true) ∨ (1 ≤ a ∧ a ≤ 16384 ∧ b < 1 ∧ fb = true) ∨ (1 ≤ a ∧ a ≤ 16384 ∧ 1 ≤ b ∧ 16384 < b ∧ fb = true) := by
        by_cases hbad : a < 1 ∨ 16384 < a ∨ b < 1 ∨ 16384 < b
        · have : fb = true := by rw [hfb]; exact decide_eq_true hbad
          simp [this]; omega
        · have : fb = false := by rw [hfb]; exact decide_eq_false hbad
          simp [this]; omega
      clear HFR HRF hFB hIf hBn hfb
      rcases hab with ⟨g1, g2, g3, g4, g5⟩ | ⟨g1, g5⟩ | ⟨g1, g2, g5⟩ | ⟨g1, g2, g3, g5⟩ | ⟨g1, g2, g3, g4, g5⟩
      all_goals
        have G5 := hide g5
        clear g5
        go_wp2_with fail
        go_meet
        exact ⟨by rw [G5.out]; try (simp; omega), rfl⟩
    obtain ⟨h63, hwc⟩ := hcut
    rw [hwc, h63]
    clear h63 hwc
    go_upto_if 63 with fail
    go_cut [] (fun wx => Below V.heap.size V wx)
    case first =>
      clear HRN KP KQ HPX HU hr0 K2 K3 K4 HN mW
      have hfb0 : (1 ≤ a ∧ a ≤ 40) ∧ (1 ≤ b ∧ b ≤ 40) → fb = false := fun h => by rw [hfb]; exact decide_eq_false (by omega)
      have hfb1 : (a < 1 ∨ 16384 < a ∨ b < 1 ∨ 16384 < b) → fb = true := fun h => by rw [hfb]; exact decide_eq_true h
      clear hfb
      rcases HFR.out with ⟨FW, FH, lf, ⟨hW1, hW2⟩, ⟨hH1, hH2⟩, rfl, rfl, rfl, rfl, rfl, rfl, hRf, hpf, hrow⟩ | ⟨hbad, rfl, rfl, rfl, rfl, rfl, rfl⟩
      · obtain rfl := hfb0 ⟨⟨by omega, by omega⟩, by omega, by omega⟩
        clear hfb0 hfb1
        have KR := hide fun (A2 : Option Addr) (cap2 : Nat) => refRight_yes hRf A2 cap2
        have hrV := HRF.out lf hrow
        have KX := hide fun (w' : World) (hb : Below V.heap.size V w') (x y : Nat) (hx : x < FW) (hy : y < FH) => pix_is FW FH A3 lf cap3 x y w' hRf ((hrV.below hb (Nat.le_refl _)).more hb.size) hx hy c (hpf x y hx hy).symm
        have hWH : FW * FH ≤ 1600 := Nat.le_trans (Nat.mul_le_mul hW2 hH2) (by decide)
        have mF : IntKind.i64.wrap ((FW : Int) * (FH : Int)) = ((FW * FH : Nat) : Int) := by
          have e : (FW : Int) * (FH : Int) = ((FW * FH : Nat) : Int) := by simp
          rw [e]; exact IntWalk.i64_in _ (by omega)
        obtain ⟨N2, hN2⟩ : ∃ N2, N2 = FW * FH := ⟨_, rfl⟩
        rw [← hN2] at mF hWH
        have HN2 := hide hN2
        have HFB := hide hFB.out
        clear hRf hpf hrow hrV hN2 HFR hFB HRF
        go_wp2_with (go_at_call 36; (with_reducible refine (KR.out _ _ _).mono ?_); rintro e v1 ⟨rfl, hv1⟩; have hF1 := HFB.out.below hv1; obtain ⟨⟨f0, f1, f2⟩, c0, c1, c2, c3⟩ := hF1.cells; have hbv := hide hv1; have HF1 := hide hF1; clear hv1 hF1)
        go_loopw [90] (fun i wr => ∃ k : Nat, k ≤ N2 ∧ i = .int .i64 k ∧ FilB w wr gf c FW FH A3 lf.length cap3 ∧ Below V.heap.size V wr) (fun i _ => N2 - (intOf i).toNat)
        case atStart => exact ⟨0, Nat.zero_le _, rfl, HF1.out, hbv.out⟩
        case round =>
          obtain ⟨k, hk, rfl, hf, hwr⟩ := hrel
          by_cases hlt : k < N2
          · have hx : k % FW < FW := Nat.mod_lt _ (by omega)
            have hy : k / FW < FH := Nat.div_lt_of_lt_mul (by rw [← HN2.out]; exact hlt)
            have em : (k : Int).tmod (FW : Int) = ((k % FW : Nat) : Int) := tmod_nat k FW
            have ed : (k : Int).tdiv (FW : Int) = ((k / FW : Nat) : Int) := tdiv_nat k FW
            generalize k % FW = x1 at hx em
            generalize k / FW = y1 at hy ed
            have hW0 : ¬ ((FW : Int) = 0) := by omega
            have hW1' : ¬ (FW = 0) := by omega
            have ey : IntKind.i64.wrap (y1 : Int) = (y1 : Int) := IntWalk.i64_in _ (by omega)
            obtain ⟨⟨f0, f1, f2⟩, c0, c1, c2, c3⟩ := hf.cells
            have hd : Below V.heap.size V wr.drew := hwr.drew
            have HX := hide (KX.out wr.drew hd x1 y1 hx hy)
            have hfd : FilB w wr.drew gf c FW FH A3 lf.length cap3 := hf.below (Below.refl _ _).drew
            have HFD := hide hfd
            have HWD := hide hd
            have n1 : ¬ gf = wr.heap.size := by have := hf.f.lt; omega
            have n2 : ¬ w.heap.size + 1 = wr.heap.size := by have := hf.c.lt; omega
            clear hf hwr hd hfd
            go_wp2_with fail
            first | (go_region_held3 (fun w' => w'.cell? ⟨gf, 0, none⟩ = some (.int .i64 (FW : Int)) ∧ w'.cell? ⟨gf, 1, none⟩ = some (.int .i64 (FH : Int)) ∧ w'.cell? ⟨gf, 2, none⟩ = some (.slice A3 lf.length cap3) ∧ w'.cell? ⟨w.heap.size + 1, 0, none⟩ = some (.int .u8 c.r) ∧ w'.cell? ⟨w.heap.size + 1, 1, none⟩ = some (.int .u8 c.g) ∧ w'.cell? ⟨w.heap.size + 1, 2, none⟩ = some (.int .u8 c.b) ∧ w'.cell? ⟨w.heap.size + 1, 3, none⟩ = some (.int .u8 c.a)) (simp (maxDischargeDepth := 20) [*, World.cell?_alloc_some, World.cell?_setCell_far]) ((go_at_call 39; (with_reducible refine HX.out.mono ?_); rintro e v2 ⟨rfl, rfl⟩))) | fail
            all_goals
              have hbz : Below wr.heap.size wr.drew (((wr.drew.alloc (.cells #[.int .i64 (FW : Int), .int .i64 (FH : Int), .slice A3 lf.length cap3] 34)).alloc (.cells #[.int .u8 c.r, .int .u8 c.g, .int .u8 c.b, .int .u8 c.a] 36)).drew) := (balloc (below_alloc wr.drew _) _).drew
              go_wp2_with fail
              go_roundw
              case rel => exact ⟨k + 1, by omega, by go_num, HFD.out.below hbz, bstep HWD.out hbz⟩
              case measure => simp [intOf]; omega
          · have HW := hide hwr
            clear hf hwr
            go_wp2_with fail
            go_meet
            exact HW.out
      · obtain rfl := hfb1 (by omega)
        clear hfb0 hfb1
        have KN := hide fun (w' : World) => none_true 11 w'
        clear HRF HFR hbad
        all_goals
          go_wp2_with (go_at_call 53; (with_reducible refine (KN.out _).mono ?_); rintro e v1 ⟨rfl, hv1⟩)
          go_meet
          exact hv1
    case rest =>
      have hI := hIf.out.next hg1 hcut
      have hN := hBn.out.below hcut hBn.out.lt
      have hrn := (HRN.out.below hcut (Nat.le_refl _)).more hcut.size
      have hbw : w.heap.size < gn := by omega
      obtain ⟨bt, rfl⟩ : ∃ bt, bt = gn := ⟨_, rfl⟩
      have P : Pic wc w.heap.size W H A l cap ∧ Pic wc bt W H A2 l2 cap2 := ⟨⟨hI.m, (hr0.out.below hI.below (Nat.le_refl _)).more hI.below.size⟩, ⟨hN, hrn⟩⟩
      have hk0 : wc.cell? ⟨wk.heap.size, 0, none⟩ = some (.int .i64 (N : Int)) := hI.k.cell 0
      obtain ⟨m0, m1, m2⟩ := P.1.cells
      obtain ⟨b0, b1, b2⟩ := P.2.cells
      clear HRF HFR f0 f1 f2 c0 c1 c2 c3 hFB hIf hBn hcut HRN hN hrn hfb
      go_wp2_with (first | (go_at_call 36; (with_reducible refine (K3.out _).mono ?_); rintro e v1 ⟨rfl, hv1⟩; have hI := hI.next hg1 hv1; have P := two_keep P hv1; have hk0 : v1.cell? ⟨wk.heap.size, 0, none⟩ = some (.int .i64 (N : Int)) := hI.k.cell 0; obtain ⟨m0, m1, m2⟩ := P.1.cells; obtain ⟨b0, b1, b2⟩ := P.2.cells; clear K3) | (go_at_call 36; (with_reducible refine (K4.out _ _ _).mono ?_); rintro e v2 ⟨rfl, hv2⟩; have hI := hI.next hg1 hv2; have P := two_keep P hv2; have hk0 : v2.cell? ⟨wk.heap.size, 0, none⟩ = some (.int .i64 (N : Int)) := hI.k.cell 0; obtain ⟨m0, m1, m2⟩ := P.1.cells; obtain ⟨b0, b1, b2⟩ := P.2.cells))
      have PH := hide P
      have HW3 := hide hI.below
      clear P hI hk0 m0 m1 m2 b0 b1 b2
      go_loopw [148] (fun i wr => ∃ k : Nat, k ≤ N ∧ i = .int .i64 k ∧ (Pic wr w.heap.size W H A l cap ∧ Pic wr bt W H A2 l2 cap2) ∧ Below w.heap.size w wr) (fun i _ => N - (intOf i).toNat)
      case atStart => exact ⟨0, Nat.zero_le _, rfl, PH.out, HW3.out⟩
      case round =>
        obtain ⟨k, hk, rfl, hP, hw⟩ := hrel
        by_cases hlt : k < N
        · have hx : k % W < W := Nat.mod_lt _ (by omega)
          have hy : k / W < H := Nat.div_lt_of_lt_mul (by rw [← HN.out]; exact hlt)
          have em : (k : Int).tmod (W : Int) = ((k % W : Nat) : Int) := tmod_nat k W
          have ed : (k : Int).tdiv (W : Int) = ((k / W : Nat) : Int) := tdiv_nat k W
          have ek : k / W * W + k % W = k := by rw [Nat.mul_comm]; exact Nat.div_add_mod k W
          generalize k % W = x at hx em ek
          generalize k / W = y at hy ed ek
          have hW0 : ¬ ((W : Int) = 0) := by omega
          have hW1 : ¬ (W = 0) := by omega
          have ey : IntKind.i64.wrap (y : Int) = (y : Int) := IntWalk.i64_in _ (by omega)
          obtain ⟨a0, a1, a2⟩ := hP.1.cells
          obtain ⟨b0, b1, b2⟩ := hP.2.cells
          obtain ⟨V1, rfl⟩ : ∃ V1 : World, V1 = wr := ⟨_, rfl⟩
          obtain ⟨c1, hc⟩ : ∃ c, c = imgPx l W x y := ⟨_, rfl⟩
          obtain ⟨d, hd⟩ : ∃ d, d = imgPx l2 W x y := ⟨_, rfl⟩
          have HV1 := hide fun (w' : World) (hb : Below V1.heap.size V1 w') => KP.out x y w' ((hP.1.row.below hb (Nat.le_refl _)).more hb.size) hx hy c1 hc
          have HV2 := hide fun (w' : World) (hb : Below V1.heap.size V1 w') => KQ.out A2 cap2 x y w' ((hP.2.row.below hb (Nat.le_refl _)).more hb.size) hx hy d hd
          have hdc : d = cntC k c1 := by rw [hd, hc, HPX.out x y hx hy, ek]
          have lt1 := hP.1.blk.lt
          have lt2 := hP.2.blk.lt
          have n1 : ¬ w.heap.size = V1.heap.size := by omega
          have n2 : ¬ bt = V1.heap.size := by omega
          have HPV := hide hP
          have HWV := hide hw
          have HDC := hide hdc
          clear hP hw hc hd hdc ek
          go_upto_region 24 with fail
          go_cut [16, 17] (fun s8 s9 wx => ∃ P Q : Nat, s8 = .pointer (some ⟨P, 0, none⟩) ∧ s9 = .pointer (some ⟨Q, 0, none⟩) ∧ Below V1.heap.size V1 wx ∧ Cl4 wx P c1 ∧ Cl4 wx Q d)
          case first =>
            clear HDC HPX HU K4
            first | (go_region_held3 (fun w' => w'.cell? ⟨w.heap.size, 0, none⟩ = some (.int .i64 (W : Int)) ∧ w'.cell? ⟨w.heap.size, 1, none⟩ = some (.int .i64 (H : Int)) ∧ w'.cell? ⟨w.heap.size, 2, none⟩ = some (.slice A l.length cap) ∧ w'.cell? ⟨bt, 0, none⟩ = some (.int .i64 (W : Int)) ∧ w'.cell? ⟨bt, 1, none⟩ = some (.int .i64 (H : Int)) ∧ w'.cell? ⟨bt, 2, none⟩ = some (.slice A2 l2.length cap2)) (simp (maxDischargeDepth := 20) [*, World.cell?_alloc_some, World.cell?_setCell_far]) (first | (go_at_call 39; (with_reducible refine (HV1.out _ (by (repeat (first | (with_reducible exact Below.refl _ _) | (with_reducible apply Below.drew) | (with_reducible refine balloc ?_ _))))).mono ?_); rintro e v1 ⟨rfl, rfl⟩) | (go_at_call 39; (with_reducible refine (HV2.out _ (by (repeat (first | (with_reducible exact Below.refl _ _) | (with_reducible apply Below.drew) | (with_reducible refine balloc ?_ _))))).mono ?_); rintro e v2 ⟨rfl, rfl⟩))) | fail
            all_goals
              go_wp2_with fail
              go_meet
              clear HV1 HV2 HPV HWV PH
              refine ⟨_, _, rfl, rfl, ?_, ⟨?_, ?_, ?_, ?_, ?_⟩, ⟨?_, ?_, ?_, ?_, ?_⟩⟩
              · repeat (first | (with_reducible exact Below.refl _ _) | (with_reducible apply Below.drew) | (with_reducible refine balloc ?_ _))
              all_goals first | (simp (maxDischargeDepth := 20) [World.cell?_alloc_some, World.cell?_alloc_at]; done) | (simp; omega)
          case rest =>
            obtain ⟨P, Q, rfl, rfl, hB, hP4, hQ4⟩ := hcut
            have hD : d = ⟨c1.g, c1.r, ((k : Int) + 1) % 256, c1.a⟩ := HDC.out
            have hPw := two_keep HPV.out hB
            have hww := bstep HWV.out hB
            have HPw := hide hPw
            have HWw := hide hww
            rw [hD] at hQ4
            obtain ⟨c0', c1', c2', c3'⟩ : wc.cell? ⟨P, 0, none⟩ = some (.int .u8 c1.r) ∧ wc.cell? ⟨P, 1, none⟩ = some (.int .u8 c1.g) ∧ wc.cell? ⟨P, 2, none⟩ = some (.int .u8 c1.b) ∧ wc.cell? ⟨P, 3, none⟩ = some (.int .u8 c1.a) := ⟨hP4.c0, hP4.c1, hP4.c2, hP4.c3⟩
            obtain ⟨d0, d1, d2, d3⟩ : wc.cell? ⟨Q, 0, none⟩ = some (.int .u8 c1.g) ∧ wc.cell? ⟨Q, 1, none⟩ = some (.int .u8 c1.r) ∧ wc.cell? ⟨Q, 2, none⟩ = some (.int .u8 (((k : Int) + 1) % 256)) ∧ wc.cell? ⟨Q, 3, none⟩ = some (.int .u8 c1.a) := ⟨hQ4.c0, hQ4.c1, hQ4.c2, hQ4.c3⟩
            clear hB hPw hww a0 a1 a2 b0 b1 b2 em ed ey hD
            go_wp2_with fail
            go_roundw
            case rel => exact ⟨k + 1, by omega, by go_num, HPw.out, HWw.out⟩
            case measure => simp [intOf]; omega
        · have HW := hide hw
          clear hP hw
          go_wp2_with (go_at_call 51; (with_reducible refine (awake34 _).mono ?_); rintro e v3 ⟨rfl, hv3⟩)
          go_ret
          exact ⟨rfl, bstep HW.out hv3⟩

theorem opsMaps_law (w : World) (x y : Int) (A : Option Addr) (l : List Int) (cap : Nat) (_ : I64 x) (_ : I64 y) (hr : RowAt w w.heap.size .u8 A l) (hu : U8s l) (hm : l.length ≤ maxLen) (hcap : l.length ≤ cap) (a : Int) (_ : I64 a) (b : Int) (_ : I64 b) (c : Col) (hc : c.ok) :
    Calls Try.prog 11 #[imgV x y A l.length cap, .int .i64 a, .int .i64 b, colV c] w fun e w' => e = .returned (.bool true) ∧ Below w.heap.size w w' := by
  by_cases h : 600 < l.length
  · exact maps_awake x y A _ cap a b c w (.inl h)
  by_cases ha : a ≤ 40 ∨ 16384 < a
  · by_cases hb : b ≤ 40 ∨ 16384 < b
    · by_cases hR : rightI x y l.length
      · have hx := hR.1.1
        have hy := hR.2.1.1
        obtain ⟨W, rfl⟩ := Int.eq_ofNat_of_zero_le (show 0 ≤ x by omega)
        obtain ⟨H, rfl⟩ := Int.eq_ofNat_of_zero_le (show 0 ≤ y by omega)
        exact maps_yes W H A l cap a b c w hu hr hcap h hR ha hb hc
      · exact maps_no x y A l cap a b c w h hR ha hb hc
    · exact maps_awake x y A _ cap a b c w (by omega)
  · exact maps_awake x y A _ cap a b c w (by omega)
end Go.Proofs.Ytkjnheikimpliaa
