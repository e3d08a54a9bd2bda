/- The law QuantLevels, of a right image. -/
import Derived.Test.YtkjnheikimpliaaLawLev
import Derived.Test.YtkjnheikimpliaaLawDithB
namespace Go.Proofs.Ytkjnheikimpliaa
set_option linter.unusedVariables false
set_option linter.unusedSimpArgs false
open Go.RowKit
attribute [local go_sem ↓] Go.wp_at_zero Go.wp_at_succ

theorem levC_ok {c : Col} (h : c.ok) {n : Int} (hn : 2 ≤ n ∧ n ≤ 256) : (levC n c).ok := ⟨lev_bd h.1 hn, lev_bd h.2.1 hn, lev_bd h.2.2.1 hn, h.2.2.2⟩
theorem levC_levC {c : Col} (h : c.ok) {n : Int} (hn : 2 ≤ n ∧ n ≤ 256) : levC n (levC n c) = levC n c := by
  unfold levC
  rw [lev_lev h.1 hn, lev_lev h.2.1 hn, lev_lev h.2.2.1 hn]

set_option maxRecDepth 100000 in
set_option maxHeartbeats 16000000 in
theorem lv_yes (W H : Nat) (A : Option Addr) (l : List Int) (cap : Nat) (n : Int) (w : World) (hn : 2 ≤ n ∧ n ≤ 256) (hu : U8s l) (hr : RowAt w w.heap.size .u8 A l) (hcap : l.length ≤ cap) (h : ¬ 600 < l.length) (hR : rightI W H l.length) :
    Calls Try.prog 14 #[imgV W H A l.length cap, .int .i64 n] w fun e w' => e = .returned (.bool true) ∧ Below w.heap.size w w' := by
  have hX : 1 ≤ W ∧ W ≤ 16384 := by have := hR.1; omega
  have hY : 1 ≤ H ∧ H ≤ 16384 := by have := hR.2.1; omega
  have hWH : W * H ≤ 268435456 := Nat.le_trans (Nat.mul_le_mul hX.2 hY.2) (by decide)
  have K1 := hide fun (w' : World) (hr' : RowAt w' w'.heap.size .u8 A l) => (levels_yes W H A l cap n w' hn hR hr' hcap hu).mono fun _ _ h => Made.toL h
  have K2 := hide (refRight_yes hR A cap)
  obtain ⟨l2, hl2⟩ : ∃ l2, l2 = bytesL (pxs (levPx l W n) W (W * H)) := ⟨_, rfl⟩
  rw [← hl2] at K1
  unfold MadeL at K1
  have el2 : l2 = bytesL (grid (levPx l W n) W H).flatten := by rw [hl2, ← pxs_grid]
  have hR2 : rightI W H l2.length := by rw [el2]; exact right_grid _ hX hY
  have hu2 : U8s l2 := by rw [hl2]; exact u8s_pxs (fun a b => levC_ok (imgPx_ok hu _ _ _) hn) _ _
  have hpx : ∀ x y, x < W → y < H → imgPx l2 W x y = levC n (imgPx l W x y) := fun x y hx hy => by rw [el2, img_grid _ hx hy]; rfl
  have hl3 : bytesL (pxs (levPx l2 W n) W (W * H)) = l2 := by
    rw [pxs_congr (levPx l2 W n) (imgPx l2 W) W H (by omega) (fun a b ha hb => by
      show levC n (imgPx l2 W a b) = imgPx l2 W a b
      rw [hpx a b ha hb, levC_levC (imgPx_ok hu _ _ _) hn]), bytes_img hR2]
  have K3 := hide fun (A2 : Option Addr) (cap2 : Nat) => refRight_yes hR2 A2 cap2
  have K4 := hide fun (A2 : Option Addr) (cap2 : Nat) (hc : l2.length ≤ cap2) (w' : World) (hr' : RowAt w' w'.heap.size .u8 A2 l2) => (by
    have h1 := (levels_yes W H A2 l2 cap2 n w' hn hR2 hr' hc hu2).mono fun _ _ h => Made.toL h
    rw [hl3] at h1
    exact h1 : Calls Try.prog 66 #[imgV W H A2 l2.length cap2, .int .i64 n] w' (MadeL w' W H l2))
  unfold MadeL at K4
  have K5 := hide fun (A3 : Option Addr) (c3 : Nat) (A2 : Option Addr) (c2 : Nat) (w' : World) (h3 : RowAt w' w'.heap.size .u8 A3 l2) (h2 : RowAt w' w'.heap.size .u8 A2 l2) => (by
    have h1 := same_any W H A3 l2 c3 W H A2 l2 c2 w' h3 h2 hu2 hu2
    rw [sameB_mk ⟨rfl, rfl, rfl⟩] at h1
    exact h1 : Calls Try.prog 45 #[imgV W H A3 l2.length c3, imgV W H A2 l2.length c2] w' fun e w'' => e = .returned (.bool true) ∧ Below w'.heap.size w' w'')
  have KP := hide fun (x y : Nat) (w' : World) (hr' : RowAt w' w'.heap.size .u8 A l) (hx : x < W) (hy : y < H) (c : Col) (hc : c = imgPx l W x y) => pix_is W H A l cap x y w' hR hr' hx hy c hc
  have KQ := hide fun (A2 : Option Addr) (cap2 : Nat) (x y : Nat) (w' : World) (hr' : RowAt w' w'.heap.size .u8 A2 l2) (hx : x < W) (hy : y < H) (c : Col) (hc : c = imgPx l2 W x y) => pix_is W H A2 l2 cap2 x y w' hR2 hr' hx hy c hc
  have HPX := hide hpx
  have HU := hide hu
  have hr0 := hide hr
  have mW : IntKind.i64.wrap ((W : Int) * (H : Int)) = ((W * H : Nat) : Int) := by
    have e : (W : Int) * (H : Int) = ((W * H : Nat) : Int) := by simp
    rw [e]; exact IntWalk.i64_in _ (by omega)
  obtain ⟨N, hN⟩ : ∃ N, N = W * H := ⟨_, rfl⟩
  rw [← hN] at mW hWH
  have HN := hide hN
  obtain ⟨hn1, hn2⟩ := hn
  clear hR hR2 hu hu2 hr hcap hl2 hl3 el2 hpx hN
  go_enter Try.func14, Try.ntmps14
  go_wp2_with (first | (go_at_call 66; have hr1 := ((hr0.out.below (below_alloc w (.cells #[.int .i64 W, .int .i64 H, .slice A l.length cap] 34)) (Nat.le_refl _)).more (below_alloc w (.cells #[.int .i64 W, .int .i64 H, .slice A l.length cap] 34)).size); (with_reducible refine (K1.out _ hr1).mono ?_); rintro e w1 ⟨A2, cap2, rfl, him, hb1⟩; obtain ⟨B1, hz, HW⟩ := own1 hb1; have P0 : Pic w1 w.heap.size W H A l cap := ⟨B1, (hr0.out.below HW (Nat.le_refl _)).more HW.size⟩; have RT := him.row; have hc2 := him.2; obtain ⟨a0, a1, a2⟩ := P0.cellsA; clear hb1 him B1 hr1) | (go_at_call 36; (with_reducible refine (K2.out _).mono ?_); rintro e w2 ⟨rfl, hb2⟩; have P : Pic w2 w.heap.size W H A l cap ∧ Pic w2 w1.heap.size W H A2 l2 cap2 := two_keep ⟨P0.alloc _, Pic.new RT⟩ hb2; have HW2 := bstep (balloc HW _) hb2; obtain ⟨a0, a1, a2⟩ := P.1.cells; obtain ⟨b0, b1, b2⟩ := P.2.cells; clear hb2 P0 RT HW) | (go_at_call 36; (with_reducible refine (K3.out _ _ _).mono ?_); rintro e w3 ⟨rfl, hb3⟩; have P := two_keep P hb3; have HW3 := bstep HW2 hb3; obtain ⟨a0, a1, a2⟩ := P.1.cells; obtain ⟨b0, b1, b2⟩ := P.2.cells; clear hb3 HW2))
  obtain ⟨bt, hbt⟩ : ∃ bt, bt = w1.heap.size := ⟨_, rfl⟩
  rw [← hbt] at P ⊢
  have PH := hide P
  have HC2 := hide hc2
  have hbw : w.heap.size < bt := by omega
  clear hbt P a0 a1 a2 b0 b1 b2 K1 K2 K3 hc2
  go_loopw [80] (fun i wr => ∃ k : Nat, k ≤ N ∧ i = .int .i64 k ∧ (Pic wr w.heap.size W H A l cap ∧ Pic wr bt W H A2 l2 cap2) ∧ Below w.heap.size w wr) (fun i _ => N - (intOf i).toNat)
  case atStart => exact ⟨0, Nat.zero_le _, rfl, PH.out, HW3⟩
  case round =>
    obtain ⟨k, hk, rfl, hP, hw⟩ := hrel
    by_cases hlt : k < N
    · have hx : k % W < W := Nat.mod_lt _ (by omega)
      have hy : k / W < H := Nat.div_lt_of_lt_mul (by rw [← HN.out]; exact hlt)
      have em : (k : Int).tmod (W : Int) = ((k % W : Nat) : Int) := tmod_nat k W
      have ed : (k : Int).tdiv (W : Int) = ((k / W : Nat) : Int) := tdiv_nat k W
      generalize k % W = x at hx em
      generalize k / W = y at hy ed
      have hW0 : ¬ ((W : Int) = 0) := by omega
      have hW1 : ¬ (W = 0) := by omega
      obtain ⟨a0, a1, a2⟩ := hP.1.cells
      obtain ⟨b0, b1, b2⟩ := hP.2.cells
      have ey : IntKind.i64.wrap (y : Int) = (y : Int) := IntWalk.i64_in _ (by omega)
      obtain ⟨V, rfl⟩ : ∃ V : World, V = wr := ⟨_, rfl⟩
      obtain ⟨c, hc⟩ : ∃ c, c = imgPx l W x y := ⟨_, rfl⟩
      obtain ⟨d, hd⟩ : ∃ d, d = imgPx l2 W x y := ⟨_, rfl⟩
      have HV1 := hide fun (w' : World) (hb : Below V.heap.size V w') => KP.out x y w' ((hP.1.row.below hb (Nat.le_refl _)).more hb.size) hx hy c hc
      have HV2 := hide fun (w' : World) (hb : Below V.heap.size V w') => KQ.out A2 cap2 x y w' ((hP.2.row.below hb (Nat.le_refl _)).more hb.size) hx hy d hd
      have hdc : d = levC n c := by rw [hd, hc]; exact HPX.out x y hx hy
      have hcok : c.ok := by rw [hc]; exact imgPx_ok HU.out _ _ _
      have lt1 := hP.1.blk.lt
      have lt2 := hP.2.blk.lt
      have n1 : ¬ w.heap.size = V.heap.size := by omega
      have n2 : ¬ bt = V.heap.size := by omega
      have HPV := hide hP
      have HWV := hide hw
      have HDC := hide hdc
      clear hP hw hc hd hdc
      go_upto_region 13 with fail
      go_cut [8, 9] (fun s8 s9 wx => ∃ P Q : Nat, s8 = .pointer (some ⟨P, 0, none⟩) ∧ s9 = .pointer (some ⟨Q, 0, none⟩) ∧ Below V.heap.size V wx ∧ Cl4 wx P c ∧ Cl4 wx Q d)
      case first =>
        clear hcok HDC HPX HU K4 K5 HC2
        first | (go_region_held3 (fun w' => w'.cell? ⟨w.heap.size, 0, none⟩ = some (.int .i64 (W : Int)) ∧ w'.cell? ⟨w.heap.size, 1, none⟩ = some (.int .i64 (H : Int)) ∧ w'.cell? ⟨w.heap.size, 2, none⟩ = some (.slice A l.length cap) ∧ w'.cell? ⟨bt, 0, none⟩ = some (.int .i64 (W : Int)) ∧ w'.cell? ⟨bt, 1, none⟩ = some (.int .i64 (H : Int)) ∧ w'.cell? ⟨bt, 2, none⟩ = some (.slice A2 l2.length cap2)) (simp (maxDischargeDepth := 20) [*, World.cell?_alloc_some, World.cell?_setCell_far]) (first | (go_at_call 39; (with_reducible refine (HV1.out _ (by (repeat (first | (with_reducible exact Below.refl _ _) | (with_reducible apply Below.drew) | (with_reducible refine balloc ?_ _))))).mono ?_); rintro e v1 ⟨rfl, rfl⟩) | (go_at_call 39; (with_reducible refine (HV2.out _ (by (repeat (first | (with_reducible exact Below.refl _ _) | (with_reducible apply Below.drew) | (with_reducible refine balloc ?_ _))))).mono ?_); rintro e v2 ⟨rfl, rfl⟩))) | fail
        all_goals
          go_wp2_with fail
          go_meet
          clear HV1 HV2 HPV HWV PH
          refine ⟨_, _, rfl, rfl, ?_, ⟨?_, ?_, ?_, ?_, ?_⟩, ⟨?_, ?_, ?_, ?_, ?_⟩⟩
          · repeat (first | (with_reducible exact Below.refl _ _) | (with_reducible apply Below.drew) | (with_reducible refine balloc ?_ _))
          all_goals first | (simp (maxDischargeDepth := 20) [World.cell?_alloc_some, World.cell?_alloc_at]; done) | (simp; omega)
      case rest =>
        obtain ⟨P, Q, rfl, rfl, hB, hP4, hQ4⟩ := hcut
        have KR := hide fun (w' : World) => refLevel_any c.r n hcok.1 ⟨hn1, hn2⟩ w'
        have KG := hide fun (w' : World) => refLevel_any c.g n hcok.2.1 ⟨hn1, hn2⟩ w'
        have KB := hide fun (w' : World) => refLevel_any c.b n hcok.2.2.1 ⟨hn1, hn2⟩ w'
        have hD : d = ⟨lev c.r n, lev c.g n, lev c.b n, c.a⟩ := HDC.out
        generalize lev c.r n = R at KR hD
        generalize lev c.g n = G at KG hD
        generalize lev c.b n = B at KB hD
        have hPw := two_keep HPV.out hB
        have hww := bstep HWV.out hB
        have HPw := hide hPw
        have HWw := hide hww
        rw [hD] at hQ4
        obtain ⟨c0, c1, c2, c3⟩ : wc.cell? ⟨P, 0, none⟩ = some (.int .u8 c.r) ∧ wc.cell? ⟨P, 1, none⟩ = some (.int .u8 c.g) ∧ wc.cell? ⟨P, 2, none⟩ = some (.int .u8 c.b) ∧ wc.cell? ⟨P, 3, none⟩ = some (.int .u8 c.a) := ⟨hP4.c0, hP4.c1, hP4.c2, hP4.c3⟩
        obtain ⟨d0, d1, d2, d3⟩ : wc.cell? ⟨Q, 0, none⟩ = some (.int .u8 R) ∧ wc.cell? ⟨Q, 1, none⟩ = some (.int .u8 G) ∧ wc.cell? ⟨Q, 2, none⟩ = some (.int .u8 B) ∧ wc.cell? ⟨Q, 3, none⟩ = some (.int .u8 c.a) := ⟨hQ4.c0, hQ4.c1, hQ4.c2, hQ4.c3⟩
        clear hB hPw hww a0 a1 a2 b0 b1 b2 em ed ey hcok hD
        go_wp2_with fail
        go_quiet (first | (go_at_call 67; with_reducible refine Calls.quiet_of_same (KR.out _)) | (go_at_call 67; with_reducible refine Calls.quiet_of_same (KG.out _)) | (go_at_call 67; with_reducible refine Calls.quiet_of_same (KB.out _)))
        have hdq : Below wc.heap.size wc (wc.drewN nq) := (Below.refl _ _).trans ⟨rfl, rfl, rfl, Nat.le_refl _, fun _ _ => rfl⟩
        go_wp2_with fail
        go_roundw
        case rel => exact ⟨k + 1, by omega, by go_num, two_keep HPw.out hdq, bstep HWw.out hdq⟩
        case measure => simp [intOf]; omega
    · have HW := hide hw
      have RT := hP.2.row
      have hcc := HC2.out
      have hP2 := hP
      obtain ⟨b0, b1, b2⟩ := hP.2.cells
      clear hP hw
      go_wp2_with (first | (go_at_call 66; (with_reducible refine (K4.out _ _ hcc _ RT).mono ?_); rintro e u1 ⟨A3, cap3, rfl, him, hb1⟩; have hP3 := two_keep hP2 hb1; have R3 := him.row; have hx1 := bstep HW.out hb1; obtain ⟨b0, b1, b2⟩ := hP3.2.cellsA; clear him) | (go_at_call 45; (with_reducible refine (K5.out _ _ _ _ _ (R3.below (below_alloc u1 _) (Nat.le_refl _) |>.more (below_alloc u1 _).size) (hP3.2.alloc _).row).mono ?_); rintro e u2 ⟨rfl, hb2⟩; have hx2 := bstep (balloc hx1 _) hb2) | (go_at_call 46; (with_reducible refine (awake36 _).mono ?_); rintro e u3 ⟨rfl, hb3⟩))
      go_ret
      exact ⟨rfl, bstep hx2 hb3⟩

theorem quantLevels_law (w : World) (x y : Int) (A : Option Addr) (l : List Int) (cap : Nat) (_ : I64 x) (_ : I64 y) (hr : RowAt w w.heap.size .u8 A l) (hu : U8s l) (hm : l.length ≤ maxLen) (hcap : l.length ≤ cap) (n : Int) (_ : I64 n) :
    Calls Try.prog 14 #[imgV x y A l.length cap, .int .i64 n] w fun e w' => e = .returned (.bool true) ∧ Below w.heap.size w w' := by
  by_cases h : 600 < l.length
  · exact lv_big x y A _ cap n w h
  by_cases hR : rightI x y l.length
  · by_cases hn : 2 ≤ n ∧ n ≤ 256
    · have hx := hR.1.1
      have hy := hR.2.1.1
      obtain ⟨W, rfl⟩ := Int.eq_ofNat_of_zero_le (show 0 ≤ x by omega)
      obtain ⟨H, rfl⟩ := Int.eq_ofNat_of_zero_le (show 0 ≤ y by omega)
      exact lv_yes W H A l cap n w hn hu hr hcap h hR
    · exact lv_range x y A _ cap n w h hR (by omega)
  · exact lv_no x y A _ cap n w h hR
end Go.Proofs.Ytkjnheikimpliaa
