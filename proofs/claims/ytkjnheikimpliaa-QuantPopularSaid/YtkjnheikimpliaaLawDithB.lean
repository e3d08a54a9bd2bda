/- The law QuantDithers, of a right image. -/
import Derived.Test.YtkjnheikimpliaaLawDith
namespace Go.Proofs.Ytkjnheikimpliaa
set_option linter.unusedVariables false
set_option linter.unusedSimpArgs false
open Go.RowKit
attribute [local go_sem ↓] Go.wp_at_zero Go.wp_at_succ

theorem two_keep {w w' : World} {p q : Nat} {x y x1 y1 : Int} {A A1 : Option Addr} {l l1 : List Int} {c c1 : Nat} (h : Pic w p x y A l c ∧ Pic w q x1 y1 A1 l1 c1) (hb : Below w.heap.size w w') : Pic w' p x y A l c ∧ Pic w' q x1 y1 A1 l1 c1 := ⟨h.1.below hb, h.2.below hb⟩
/-- A colour in four cells. -/
structure Cl4 (w : World) (P : Nat) (c : Col) : Prop where
  lt : P < w.heap.size
  c0 : w.cell? ⟨P, 0, none⟩ = some (.int .u8 c.r)
  c1 : w.cell? ⟨P, 1, none⟩ = some (.int .u8 c.g)
  c2 : w.cell? ⟨P, 2, none⟩ = some (.int .u8 c.b)
  c3 : w.cell? ⟨P, 3, none⟩ = some (.int .u8 c.a)
theorem Cl4.below {w w' : World} {P : Nat} {c : Col} (h : Cl4 w P c) (hb : Below w.heap.size w w') : Cl4 w' P c :=
  ⟨Nat.lt_of_lt_of_le h.lt hb.size, (hb.cell (p := ⟨P, 0, none⟩) h.lt).trans h.c0, (hb.cell (p := ⟨P, 1, none⟩) h.lt).trans h.c1, (hb.cell (p := ⟨P, 2, none⟩) h.lt).trans h.c2, (hb.cell (p := ⟨P, 3, none⟩) h.lt).trans h.c3⟩
theorem pix_is (W H : Nat) (A : Option Addr) (l : List Int) (cap : Nat) (x y : Nat) (w : World) (hR : rightI W H l.length) (hr : RowAt w w.heap.size .u8 A l) (hx : x < W) (hy : y < H) (c : Col) (hc : c = imgPx l W x y) :
    Calls Try.prog 39 #[imgV W H A l.length cap, .int .i64 (x : Int), .int .i64 (y : Int)] w fun e w' => e = .returned (colV c) ∧ w' = ((w.alloc (.cells #[.int .i64 W, .int .i64 H, .slice A l.length cap] 34)).alloc (.cells #[.int .u8 c.r, .int .u8 c.g, .int .u8 c.b, .int .u8 c.a] 36)).drew := by
  have h := refPixel_is W H A l cap x y w hR hr (by omega) (by omega)
  rw [nat_idx] at h
  rw [hc]
  exact h

set_option maxRecDepth 100000 in
set_option maxHeartbeats 16000000 in
theorem dithers_yes (W H : Nat) (A : Option Addr) (l : List Int) (cap : Nat) (w : World) (hu : U8s l) (hr : RowAt w w.heap.size .u8 A l) (hcap : l.length ≤ cap) (h : ¬ 600 < l.length) (hR : rightI W H l.length) :
    Calls Try.prog 9 #[imgV W H A l.length cap] w fun e w' => e = .returned (.bool true) ∧ Below w.heap.size w w' := by
  have hX : 1 ≤ W ∧ W ≤ 16384 := by have := hR.1; omega
  have hY : 1 ≤ H ∧ H ≤ 16384 := by have := hR.2.1; omega
  have hWH : W * H ≤ 268435456 := Nat.le_trans (Nat.mul_le_mul hX.2 hY.2) (by decide)
  have K1 := hide fun (w' : World) (hr' : RowAt w' w'.heap.size .u8 A l) => (dither_yes W H A l cap w' hR hr' hcap hu).mono fun _ _ h => Made.toL h
  have K2 := hide (refRight_yes hR A cap)
  obtain ⟨l2, hl2⟩ : ∃ l2, l2 = bytesL (pxs (dithPx l W) W (W * H)) := ⟨_, rfl⟩
  rw [← hl2] at K1
  unfold MadeL at K1
  have el2 : l2 = bytesL (grid (dithPx l W) W H).flatten := by rw [hl2, ← pxs_grid]
  have hR2 : rightI W H l2.length := by rw [el2]; exact right_grid _ hX hY
  have hpx : ∀ x y, x < W → y < H → imgPx l2 W x y = dithC (imgPx l W x y) x y := fun x y hx hy => by rw [el2, img_grid _ hx hy]; rfl
  have K3 := hide fun (A2 : Option Addr) (cap2 : Nat) => refRight_yes hR2 A2 cap2
  have KP := hide fun (x y : Nat) (w' : World) (hr' : RowAt w' w'.heap.size .u8 A l) (hx : x < W) (hy : y < H) (c : Col) (hc : c = imgPx l W x y) => pix_is W H A l cap x y w' hR hr' hx hy c hc
  have KQ := hide fun (A2 : Option Addr) (cap2 : Nat) (x y : Nat) (w' : World) (hr' : RowAt w' w'.heap.size .u8 A2 l2) (hx : x < W) (hy : y < H) (c : Col) (hc : c = imgPx l2 W x y) => pix_is W H A2 l2 cap2 x y w' hR2 hr' hx hy c hc
  have HPX := hide hpx
  have HU := hide hu
  have hr0 := hide hr
  have mW : IntKind.i64.wrap ((W : Int) * (H : Int)) = ((W * H : Nat) : Int) := by
    have e : (W : Int) * (H : Int) = ((W * H : Nat) : Int) := by simp
    rw [e]; exact IntWalk.i64_in _ (by omega)
  obtain ⟨N, hN⟩ : ∃ N, N = W * H := ⟨_, rfl⟩
  rw [← hN] at mW hWH
  have HN := hide hN
  clear hR hR2 hu hr hcap hl2 el2 hpx hN
  go_enter Try.func9, Try.ntmps9
  go_wp2_with (first | (go_at_call 47; have hr1 := ((hr0.out.below (below_alloc w (.cells #[.int .i64 W, .int .i64 H, .slice A l.length cap] 34)) (Nat.le_refl _)).more (below_alloc w (.cells #[.int .i64 W, .int .i64 H, .slice A l.length cap] 34)).size); (with_reducible refine (K1.out _ hr1).mono ?_); rintro e w1 ⟨A2, cap2, rfl, him, hb1⟩; obtain ⟨B1, hz, HW⟩ := own1 hb1; have P0 : Pic w1 w.heap.size W H A l cap := ⟨B1, (hr0.out.below HW (Nat.le_refl _)).more HW.size⟩; have RT := him.row; obtain ⟨a0, a1, a2⟩ := P0.cellsA; clear hb1 him B1 hr1) | (go_at_call 36; (with_reducible refine (K2.out _).mono ?_); rintro e w2 ⟨rfl, hb2⟩; have P : Pic w2 w.heap.size W H A l cap ∧ Pic w2 w1.heap.size W H A2 l2 cap2 := two_keep ⟨P0.alloc _, Pic.new RT⟩ hb2; have HW2 := bstep (balloc HW _) hb2; obtain ⟨a0, a1, a2⟩ := P.1.cells; obtain ⟨b0, b1, b2⟩ := P.2.cells; clear hb2 P0 RT HW) | (go_at_call 36; (with_reducible refine (K3.out _ _ _).mono ?_); rintro e w3 ⟨rfl, hb3⟩; have P := two_keep P hb3; have HW3 := bstep HW2 hb3; obtain ⟨a0, a1, a2⟩ := P.1.cells; obtain ⟨b0, b1, b2⟩ := P.2.cells; clear hb3 HW2))
  obtain ⟨bt, hbt⟩ : ∃ bt, bt = w1.heap.size := ⟨_, rfl⟩
  rw [← hbt] at P ⊢
  have PH := hide P
  have hbw : w.heap.size < bt := by omega
  clear hbt P a0 a1 a2 b0 b1 b2 K1 K2 K3
  go_loopw [60] (fun i wr => ∃ k : Nat, k ≤ N ∧ i = .int .i64 k ∧ (Pic wr w.heap.size W H A l cap ∧ Pic wr bt W H A2 l2 cap2) ∧ Below w.heap.size w wr) (fun i _ => N - (intOf i).toNat)
  case atStart => exact ⟨0, Nat.zero_le _, rfl, PH.out, HW3⟩
  case round =>
    obtain ⟨k, hk, rfl, hP, hw⟩ := hrel
    by_cases hlt : k < N
    · have hx : k % W < W := Nat.mod_lt _ (by omega)
      have hy : k / W < H := Nat.div_lt_of_lt_mul (by rw [← HN.out]; exact hlt)
      have em : (k : Int).tmod (W : Int) = ((k % W : Nat) : Int) := tmod_nat k W
      have ed : (k : Int).tdiv (W : Int) = ((k / W : Nat) : Int) := tdiv_nat k W
      generalize k % W = x at hx em
      generalize k / W = y at hy ed
      have hW0 : ¬ ((W : Int) = 0) := by omega
      have hW1 : ¬ (W = 0) := by omega
      obtain ⟨a0, a1, a2⟩ := hP.1.cells
      obtain ⟨b0, b1, b2⟩ := hP.2.cells
      have HP := hide hP
      have HW := hide hw
      clear hP hw
      go_wp2_with fail
      go_quiet (fail)
      have hd : Below wr.heap.size wr (wr.drewN nq) := (Below.refl _ _).trans ⟨rfl, rfl, rfl, Nat.le_refl _, fun _ _ => rfl⟩
      have hP := two_keep HP.out hd
      have hw := bstep HW.out hd
      generalize wr.drewN nq = V at hP hw ⊢
      clear a0 a1 a2 b0 b1 b2 hd HP HW
      obtain ⟨a0, a1, a2⟩ := hP.1.cells
      obtain ⟨b0, b1, b2⟩ := hP.2.cells
      obtain ⟨c, hc⟩ : ∃ c, c = imgPx l W x y := ⟨_, rfl⟩
      obtain ⟨d, hd⟩ : ∃ d, d = imgPx l2 W x y := ⟨_, rfl⟩
      have HV1 := hide fun (w' : World) (hb : Below V.heap.size V w') => KP.out x y w' ((hP.1.row.below hb (Nat.le_refl _)).more hb.size) hx hy c hc
      have HV2 := hide fun (w' : World) (hb : Below V.heap.size V w') => KQ.out A2 cap2 x y w' ((hP.2.row.below hb (Nat.le_refl _)).more hb.size) hx hy d hd
      have hdc : d = dithC c x y := by rw [hd, hc]; exact HPX.out x y hx hy
      have hcok : c.ok := by rw [hc]; exact imgPx_ok HU.out _ _ _
      have lt1 := hP.1.blk.lt
      have lt2 := hP.2.blk.lt
      have n1 : ¬ w.heap.size = V.heap.size := by omega
      have n2 : ¬ bt = V.heap.size := by omega
      have HPV := hide hP
      have HWV := hide hw
      have HDC := hide hdc
      clear hP hw hc hd hdc
      go_upto_region 12 with fail
      go_cut [8, 9] (fun s8 s9 wx => ∃ P Q : Nat, s8 = .pointer (some ⟨P, 0, none⟩) ∧ s9 = .pointer (some ⟨Q, 0, none⟩) ∧ Below V.heap.size V wx ∧ Cl4 wx P c ∧ Cl4 wx Q d)
      case first =>
        clear hx hy em ed hlt hcok HDC HPX HU hk
        first | (go_region_held3 (fun w' => w'.cell? ⟨w.heap.size, 0, none⟩ = some (.int .i64 (W : Int)) ∧ w'.cell? ⟨w.heap.size, 1, none⟩ = some (.int .i64 (H : Int)) ∧ w'.cell? ⟨w.heap.size, 2, none⟩ = some (.slice A l.length cap) ∧ w'.cell? ⟨bt, 0, none⟩ = some (.int .i64 (W : Int)) ∧ w'.cell? ⟨bt, 1, none⟩ = some (.int .i64 (H : Int)) ∧ w'.cell? ⟨bt, 2, none⟩ = some (.slice A2 l2.length cap2)) (simp (maxDischargeDepth := 20) [*, World.cell?_alloc_some, World.cell?_setCell_far]) (first | (go_at_call 39; (with_reducible refine (HV1.out _ (by (repeat (first | (with_reducible exact Below.refl _ _) | (with_reducible apply Below.drew) | (with_reducible refine balloc ?_ _))))).mono ?_); rintro e v1 ⟨rfl, rfl⟩) | (go_at_call 39; (with_reducible refine (HV2.out _ (by (repeat (first | (with_reducible exact Below.refl _ _) | (with_reducible apply Below.drew) | (with_reducible refine balloc ?_ _))))).mono ?_); rintro e v2 ⟨rfl, rfl⟩))) | fail
        all_goals
          go_wp2_with fail
          go_meet
          clear HV1 HV2 HPV HWV PH
          refine ⟨_, _, rfl, rfl, ?_, ⟨?_, ?_, ?_, ?_, ?_⟩, ⟨?_, ?_, ?_, ?_, ?_⟩⟩
          · repeat (first | (with_reducible exact Below.refl _ _) | (with_reducible apply Below.drew) | (with_reducible refine balloc ?_ _))
          all_goals first | (simp (maxDischargeDepth := 20) [World.cell?_alloc_some, World.cell?_alloc_at]; done) | (simp; omega)
      case rest =>
        obtain ⟨P, Q, rfl, rfl, hB, hP4, hQ4⟩ := hcut
        have K48 := hide (refGray_any c hcok)
        have K49 := hide (refThreshold_any x y (by omega) (by omega))
        obtain ⟨G, hG⟩ : ∃ G, G = (grayC c).r := ⟨_, rfl⟩
        obtain ⟨T, hT⟩ : ∃ T, T = thr (x % 4) (y % 4) := ⟨_, rfl⟩
        have hGf : ∀ W, (Instr.field 36 (colV (grayC c)) 0).run Try.prog W = .ok (.int .u8 G) W := fun _ => by rw [hG]; kernel_rfl
        have hgb : 0 ≤ G ∧ G ≤ 255 := grayG_bd hcok hG
        rw [← hT] at K49
        have hD : d = ⟨if T < G then 255 else 0, if T < G then 255 else 0, if T < G then 255 else 0, c.a⟩ := by rw [HDC.out]; unfold dithC dithV; rw [hT, hG]
        have hPw := two_keep HPV.out hB
        have hww := bstep HWV.out hB
        have HPw := hide hPw
        have HWw := hide hww
        obtain ⟨c0, c1, c2, c3⟩ : wc.cell? ⟨P, 0, none⟩ = some (.int .u8 c.r) ∧ wc.cell? ⟨P, 1, none⟩ = some (.int .u8 c.g) ∧ wc.cell? ⟨P, 2, none⟩ = some (.int .u8 c.b) ∧ wc.cell? ⟨P, 3, none⟩ = some (.int .u8 c.a) := ⟨hP4.c0, hP4.c1, hP4.c2, hP4.c3⟩
        clear hB hPw hww a0 a1 a2 b0 b1 b2 hG hT em ed hcok
        by_cases hgt : T < G
        · rw [if_pos hgt] at hD
          have HD := hide hD
          clear hD
          go_wp2_with (first | (go_at_call 48; (with_reducible refine (K48.out _).mono ?_); rintro e u1 ⟨rfl, hu1⟩; have C1 := hP4.below hu1; have D1 := hQ4.below hu1; rw [HD.out] at D1; obtain ⟨c0, c1, c2, c3⟩ : u1.cell? ⟨P, 0, none⟩ = some (.int .u8 c.r) ∧ u1.cell? ⟨P, 1, none⟩ = some (.int .u8 c.g) ∧ u1.cell? ⟨P, 2, none⟩ = some (.int .u8 c.b) ∧ u1.cell? ⟨P, 3, none⟩ = some (.int .u8 c.a) := ⟨C1.c0, C1.c1, C1.c2, C1.c3⟩; obtain ⟨d0, d1, d2, d3⟩ : u1.cell? ⟨Q, 0, none⟩ = some (.int .u8 255) ∧ u1.cell? ⟨Q, 1, none⟩ = some (.int .u8 255) ∧ u1.cell? ⟨Q, 2, none⟩ = some (.int .u8 255) ∧ u1.cell? ⟨Q, 3, none⟩ = some (.int .u8 c.a) := ⟨D1.c0, D1.c1, D1.c2, D1.c3⟩; clear C1 D1) | (go_at_call 49; (with_reducible refine (K49.out _).mono ?_); rintro e u2 ⟨rfl, rfl⟩))
          go_roundw
          case rel => exact ⟨k + 1, by omega, by go_num, two_keep HPw.out hu1, bstep HWw.out hu1⟩
          case measure => simp [intOf]; omega
        · rw [if_neg hgt] at hD
          have HD := hide hD
          clear hD
          go_wp2_with (first | (go_at_call 48; (with_reducible refine (K48.out _).mono ?_); rintro e u1 ⟨rfl, hu1⟩; have C1 := hP4.below hu1; have D1 := hQ4.below hu1; rw [HD.out] at D1; obtain ⟨c0, c1, c2, c3⟩ : u1.cell? ⟨P, 0, none⟩ = some (.int .u8 c.r) ∧ u1.cell? ⟨P, 1, none⟩ = some (.int .u8 c.g) ∧ u1.cell? ⟨P, 2, none⟩ = some (.int .u8 c.b) ∧ u1.cell? ⟨P, 3, none⟩ = some (.int .u8 c.a) := ⟨C1.c0, C1.c1, C1.c2, C1.c3⟩; obtain ⟨d0, d1, d2, d3⟩ : u1.cell? ⟨Q, 0, none⟩ = some (.int .u8 0) ∧ u1.cell? ⟨Q, 1, none⟩ = some (.int .u8 0) ∧ u1.cell? ⟨Q, 2, none⟩ = some (.int .u8 0) ∧ u1.cell? ⟨Q, 3, none⟩ = some (.int .u8 c.a) := ⟨D1.c0, D1.c1, D1.c2, D1.c3⟩; clear C1 D1) | (go_at_call 49; (with_reducible refine (K49.out _).mono ?_); rintro e u2 ⟨rfl, rfl⟩))
          go_roundw
          case rel => exact ⟨k + 1, by omega, by go_num, two_keep HPw.out hu1, bstep HWw.out hu1⟩
          case measure => simp [intOf]; omega
    · have HW := hide hw
      clear hP hw
      go_wp2_with (go_at_call 46; (with_reducible refine (awake36 _).mono ?_); rintro e w9 ⟨rfl, hb9⟩)
      go_ret
      exact ⟨rfl, bstep HW.out hb9⟩

theorem quantDithers_law (w : World) (x y : Int) (A : Option Addr) (l : List Int) (cap : Nat) (_ : I64 x) (_ : I64 y) (hr : RowAt w w.heap.size .u8 A l) (hu : U8s l) (hm : l.length ≤ maxLen) (hcap : l.length ≤ cap) :
    Calls Try.prog 9 #[imgV x y A l.length cap] w fun e w' => e = .returned (.bool true) ∧ Below w.heap.size w w' := by
  by_cases h : 600 < l.length
  · exact dithers_big x y A _ cap w h
  by_cases hR : rightI x y l.length
  · have hx := hR.1.1
    have hy := hR.2.1.1
    obtain ⟨W, rfl⟩ := Int.eq_ofNat_of_zero_le (show 0 ≤ x by omega)
    obtain ⟨H, rfl⟩ := Int.eq_ofNat_of_zero_le (show 0 ≤ y by omega)
    exact dithers_yes W H A l cap w hu hr hcap h hR
  · exact dithers_no x y A _ cap w h hR
end Go.Proofs.Ytkjnheikimpliaa
