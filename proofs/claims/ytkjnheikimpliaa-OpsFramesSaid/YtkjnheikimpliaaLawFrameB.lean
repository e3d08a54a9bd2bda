/- The law OpsFrames. -/
import Derived.Test.YtkjnheikimpliaaLawFrame
import Derived.Test.YtkjnheikimpliaaLawDithB
import Derived.Test.YtkjnheikimpliaaCmpB
namespace Go.Proofs.Ytkjnheikimpliaa
set_option linter.unusedVariables false
set_option linter.unusedSimpArgs false
open Go.RowKit
attribute [local go_sem ↓] Go.wp_at_zero Go.wp_at_succ

structure FrK (w : World) (p g : Nat) (W H MW MH : Nat) (A : Option Addr) (l : List Int) (cap : Nat) (A2 : Option Addr) (l2 : List Int) (cap2 : Nat) (c : Col) : Prop where
  a : Pic w p W H A l cap
  c : Blk w (p + 1) 36 (col4 c)
  b : Pic w g MW MH A2 l2 cap2
theorem FrK.below {w w' : World} {p g W H MW MH : Nat} {A : Option Addr} {l : List Int} {cap : Nat} {A2 : Option Addr} {l2 : List Int} {cap2 : Nat} {c : Col} (h : FrK w p g W H MW MH A l cap A2 l2 cap2 c) (hb : Below w.heap.size w w') : FrK w' p g W H MW MH A l cap A2 l2 cap2 c :=
  ⟨h.a.below hb, h.c.below hb h.c.lt, h.b.below hb⟩
theorem framePx_in (l : List Int) {W H L T : Nat} (c : Col) {p q : Nat} (hp : p < W) (hq : q < H) : framePx l W H L T c (L + p) (T + q) = imgPx l W p q := by
  unfold framePx
  rw [if_pos ⟨⟨by omega, by omega⟩, by omega, by omega⟩]
  congr 1 <;> omega
theorem frame_sides {W H n : Nat} (hR : rightI W H n) (h : ¬ 600 < n) : W ≤ 600 ∧ H ≤ 600 := by
  obtain ⟨h1, h2, h3⟩ := hR
  have e : (n : Int) = ((4 * (W * H) : Nat) : Int) := by rw [h3, Int.mul_assoc]; simp
  have e' : n = 4 * (W * H) := by exact_mod_cast e
  have a1 : W * 1 ≤ W * H := Nat.mul_le_mul_left _ (by omega)
  have a2 : 1 * H ≤ W * H := Nat.mul_le_mul_right _ (by omega)
  omega

set_option maxRecDepth 100000 in
set_option maxHeartbeats 16000000 in
theorem frames_yes (W H L T R B : Nat) (A : Option Addr) (l : List Int) (cap : Nat) (c : Col) (w : World) (hu : U8s l) (hr : RowAt w w.heap.size .u8 A l) (hcap : l.length ≤ cap) (h : ¬ 600 < l.length) (hR : rightI W H l.length) (hL : L ≤ 20) (hT : T ≤ 20) (hRR : R ≤ 20) (hB : B ≤ 20) :
    Calls Try.prog 16 #[imgV W H A l.length cap, .int .i64 (L : Int), .int .i64 (T : Int), .int .i64 (R : Int), .int .i64 (B : Int), colV c] w fun e w' => e = .returned (.bool true) ∧ Below w.heap.size w w' := by
  obtain ⟨hW6, hH6⟩ := frame_sides hR h
  have hX := hR.1.1
  have hY := hR.2.1.1
  obtain ⟨MW, hMW⟩ : ∃ MW, MW = L + W + R := ⟨_, rfl⟩
  obtain ⟨MH, hMH⟩ : ∃ MH, MH = T + H + B := ⟨_, rfl⟩
  have K1 := hide (big_no h W H A cap)
  have K2 := hide fun (w' : World) (hw : Below w.heap.size w w') => (frame_yes W H L T R B A l cap c w' hR ((hr.below hw (Nat.le_refl _)).more hw.size) hcap hW6 hH6 hL hT hRR hB).mono fun _ _ h => Made.toL h
  rw [← hMW, ← hMH] at K2
  obtain ⟨l2, hl2⟩ : ∃ l2, l2 = bytesL (pxs (framePx l W H L T c) MW (MW * MH)) := ⟨_, rfl⟩
  rw [← hl2] at K2
  unfold MadeL at K2
  have el2 : l2 = bytesL (grid (framePx l W H L T c) MW MH).flatten := by rw [hl2, ← pxs_grid]
  have hR2 : rightI MW MH l2.length := by rw [el2]; exact right_grid _ (by omega) (by omega)
  have hpx : ∀ x y, x < MW → y < MH → imgPx l2 MW x y = framePx l W H L T c x y := fun x y hx hy => by rw [el2, img_grid _ hx hy]
  have KT := hide small_yes
  have K3 := hide (refRight_yes hR A cap)
  have K4 := hide fun (A2 : Option Addr) (cap2 : Nat) => refRight_yes hR2 A2 cap2
  have K5 := hide fun (A2 : Option Addr) (cap2 : Nat) (x y : Nat) (hx : x < MW) (hy : y < MH) (ho : ¬ ((L ≤ x ∧ x < L + W) ∧ T ≤ y ∧ y < T + H)) (w' : World) (hr' : RowAt w' w'.heap.size .u8 A2 l2) => (refPixel_any MW MH A2 l2 cap2 x y w' hR2 hr' ⟨by omega, by omega⟩ ⟨by omega, by omega⟩).mono (R' := fun e w'' => e = .returned (colV c) ∧ Below w'.heap.size w' w'') (by
    rintro e w'' ⟨rfl, hb⟩
    refine ⟨?_, hb⟩
    rw [nat_idx]
    have := hpx x y hx hy
    unfold imgPx at this
    rw [this]
    unfold framePx
    rw [if_neg ho])
  have K6 := hide fun (A2 : Option Addr) (cap2 : Nat) (hc2 : l2.length ≤ cap2) (w' : World) (hr' : RowAt w' w'.heap.size .u8 A2 l2) => (by
    have h1 := crop_yes MW MH A2 l2 cap2 L T W H w' hR2 hr' hc2 (by omega) (by omega) (by omega) (by omega)
    have e : bytesL (pxs (cropPx l2 MW L T) W (W * H)) = l := by
      rw [pxs_congr _ (imgPx l W) W H (by omega) (fun p q hp hq => ?_), bytes_img hR]
      unfold cropPx
      rw [cropPx_nat, hpx _ _ (by omega) (by omega), framePx_in l c hp hq]
    rw [e] at h1
    exact h1 : Calls Try.prog 59 #[imgV MW MH A2 l2.length cap2, .int .i64 (L : Int), .int .i64 (T : Int), .int .i64 (W : Int), .int .i64 (H : Int)] w' fun e w'' => ∃ A' cap', e = .returned (.tuple #[imgV W H A' l.length cap', .int .i64 0]) ∧ ImgNew w'' w'.heap.size A' cap' l ∧ Below w'.heap.size w' w'')
  have HUL := hide hu
  have HR0 := hide hr
  have s1 : (L : Int) ≤ 20 := by omega
  have s2 : (T : Int) ≤ 20 := by omega
  have s3 : (R : Int) ≤ 20 := by omega
  have s4 : (B : Int) ≤ 20 := by omega
  have e1 : (L : Int) + (W : Int) + (R : Int) = (MW : Int) := by omega
  have e2 : (T : Int) + (H : Int) + (B : Int) = (MH : Int) := by omega
  have HMW := hide hMW
  have HMH := hide hMH
  clear h hR hR2 hr hcap hu hl2 el2 hpx hMW hMH
  go_enter Try.func16, Try.ntmps16
  go_wp2_with (first | (go_at_call 50; (with_reducible refine (K1.out _).mono ?_); rintro e w1 ⟨rfl, hb1⟩; obtain ⟨B1, B2, hz, HW⟩ := own2 hb1; obtain ⟨m0, m1, m2, -⟩ := blk3 B1; obtain ⟨u0, u1, u2, u3, -⟩ := blk4 B2; clear hb1) | (go_at_call 36; (with_reducible refine (K3.out _).mono ?_); rintro e w2 ⟨rfl, hb2⟩; have C1 := B1.below hb2 B1.lt; have C2 := B2.below hb2 B2.lt; obtain ⟨m0, m1, m2, -⟩ := blk3 C1; obtain ⟨u0, u1, u2, u3, -⟩ := blk4 C2; have HW2 := bstep HW hb2; clear hb2 B1 B2 HW) | (go_at_call 72; (with_reducible refine (KT.out _ (by omega) _).mono ?_); rintro e w7 ⟨rfl, rfl⟩) | (go_at_call 73; (with_reducible refine (K2.out _ HW2).mono ?_); rintro e w3 ⟨A2, cap2, rfl, him, hb3⟩; have D1 := C1.below hb3 C1.lt; have D2 := C2.below hb3 C2.lt; obtain ⟨m0, m1, m2, -⟩ := blk3x D1; have HW3 := bstep HW2 hb3; clear hb3 C1 C2 HW2) | (go_at_call 36; (with_reducible refine (K3.out _).mono ?_); rintro e w4 ⟨rfl, hb4⟩; have P : FrK w4 w.heap.size w3.heap.size W H MW MH A l cap A2 l2 cap2 c := FrK.below ⟨⟨D1.alloc _, (HR0.out.below (balloc HW3 _) (Nat.le_refl _)).more (balloc HW3 _).size⟩, D2.alloc _, Pic.new him.row⟩ hb4; have HC2 := him.2; have HW4 := bstep (balloc HW3 _) hb4; obtain ⟨a0, a1, a2⟩ := P.a.cells; obtain ⟨b0, b1, b2⟩ := P.b.cells; clear hb4 D1 D2 him HW3) | (go_at_call 36; (with_reducible refine (K4.out _ _ _).mono ?_); rintro e w5 ⟨rfl, hb5⟩; have P5 := P.below hb5; have HW5 := bstep HW4 hb5; obtain ⟨a0, a1, a2⟩ := P5.a.cells; obtain ⟨b0, b1, b2⟩ := P5.b.cells; clear hb5 P HW4))
  obtain ⟨g, hg⟩ : ∃ g, g = w3.heap.size := ⟨_, rfl⟩
  rw [← hg] at P5 ⊢
  have PH := hide P5
  have HH := hide HW5
  clear P5 HW5 hg a0 a1 a2 b0 b1 b2 K1 K2 K3 K4
  go_loopw [122] (fun i wr => ∃ k : Nat, k ≤ MH ∧ i = .int .i64 k ∧ FrK wr w.heap.size g W H MW MH A l cap A2 l2 cap2 c ∧ Below w.heap.size w wr) (fun i _ => MH - (intOf i).toNat)
  case atStart => exact ⟨0, Nat.zero_le _, rfl, PH.out, HH.out⟩
  case round =>
    obtain ⟨k, hk, rfl, hP, hw⟩ := hrel
    by_cases hlt : k < MH
    · obtain ⟨b0, b1, b2⟩ := hP.b.cells
      have HP := hide hP
      have HW := hide hw
      clear hP hw
      go_wp2_with fail
      go_loopw [127] (fun i wx => ∃ x : Nat, x ≤ MW ∧ i = .int .i64 x ∧ FrK wx w.heap.size g W H MW MH A l cap A2 l2 cap2 c ∧ Below w.heap.size w wx) (fun i _ => MW - (intOf i).toNat)
      case atStart => exact ⟨0, Nat.zero_le _, rfl, HP.out, HW.out⟩
      case round =>
        obtain ⟨x, hx, rfl, hP, hw⟩ := hrel
        by_cases hltx : x < MW
        · obtain ⟨a0, a1, a2⟩ := hP.a.cells
          obtain ⟨b0, b1, b2⟩ := hP.b.cells
          obtain ⟨u0, u1, u2, u3, -⟩ := blk4 hP.c
          have HPx := hide hP
          have HWx := hide hw
          clear hP hw
          by_cases hin : (L ≤ x ∧ x < L + W) ∧ T ≤ k ∧ k < T + H
          · obtain ⟨⟨g1, g2⟩, g3, g4⟩ := hin
            have j2 : (x : Int) < (L : Int) + W := by omega
            have j4 : (k : Int) < (T : Int) + H := by omega
            go_wp2_with fail
            go_quiet (fail)
            go_wp2_with fail
            go_roundw
            case rel =>
              have hd : Below wr.heap.size wr (wr.drewN nq) := (Below.refl _ _).trans ⟨rfl, rfl, rfl, Nat.le_refl _, fun _ _ => rfl⟩
              exact ⟨x + 1, by omega, by go_num, HPx.out.below hd, bstep HWx.out hd⟩
            case measure => simp [intOf]; omega
          · have HK5 := hide fun (w' : World) (hr' : RowAt w' w'.heap.size .u8 A2 l2) => K5.out A2 cap2 x k hltx hlt hin w' hr'
            have hcase : x < L ∨ (L ≤ x ∧ L + W ≤ x) ∨ (L ≤ x ∧ x < L + W ∧ k < T) ∨ (L ≤ x ∧ x < L + W ∧ T ≤ k ∧ T + H ≤ k) := by omega
            have HRX := hide (HPx.out.below (Below.refl wr.heap.size wr).drew).b.row
            clear hin
            have hfin : (L ≤ x ∧ L + W ≤ x → decide ((x : Int) < (L : Int) + (W : Int)) = false) ∧ (T ≤ k ∧ T + H ≤ k → decide ((k : Int) < (T : Int) + (H : Int)) = false) := ⟨fun h => by simp; omega, fun h => by simp; omega⟩
            obtain ⟨hf1, hf2⟩ := hfin
            rcases hcase with g1 | ⟨g1, g2⟩ | ⟨g1, g2, g3⟩ | ⟨g1, g2, g3, g4⟩
            · clear hf1 hf2
              go_wp2_with fail
              first | (go_region_held3 (fun w' => w'.cell? ⟨w.heap.size + 1, 0, none⟩ = some (.int .u8 c.r) ∧ w'.cell? ⟨w.heap.size + 1, 1, none⟩ = some (.int .u8 c.g) ∧ w'.cell? ⟨w.heap.size + 1, 2, none⟩ = some (.int .u8 c.b) ∧ w'.cell? ⟨w.heap.size + 1, 3, none⟩ = some (.int .u8 c.a) ∧ w'.cell? ⟨g, 0, none⟩ = some (.int .i64 (MW : Int)) ∧ w'.cell? ⟨g, 1, none⟩ = some (.int .i64 (MH : Int)) ∧ w'.cell? ⟨g, 2, none⟩ = some (.slice A2 l2.length cap2)) (go_keep) ((go_at_call 39; (with_reducible refine (HK5.out _ HRX.out).mono ?_); rintro e v1 ⟨rfl, hv1⟩; have hd : Below wr.heap.size wr v1 := (Below.refl wr.heap.size wr).drew.trans hv1; have PV := HPx.out.below hd; obtain ⟨b0, b1, b2⟩ := PV.b.cells; obtain ⟨u0, u1, u2, u3, -⟩ := blk4 PV.c))) | fail
              go_wp2_with fail
              go_roundw
              case rel => exact ⟨x + 1, by omega, by go_num, PV, bstep HWx.out hd⟩
              case measure => simp [intOf]; omega
            · have d1 := hf1 ⟨g1, g2⟩
              have j1 : (L : Int) + (W : Int) ≤ (x : Int) := by omega
              clear hf1 hf2
              go_wp2_with fail
              first | (go_region_held3 (fun w' => w'.cell? ⟨w.heap.size + 1, 0, none⟩ = some (.int .u8 c.r) ∧ w'.cell? ⟨w.heap.size + 1, 1, none⟩ = some (.int .u8 c.g) ∧ w'.cell? ⟨w.heap.size + 1, 2, none⟩ = some (.int .u8 c.b) ∧ w'.cell? ⟨w.heap.size + 1, 3, none⟩ = some (.int .u8 c.a) ∧ w'.cell? ⟨g, 0, none⟩ = some (.int .i64 (MW : Int)) ∧ w'.cell? ⟨g, 1, none⟩ = some (.int .i64 (MH : Int)) ∧ w'.cell? ⟨g, 2, none⟩ = some (.slice A2 l2.length cap2)) (go_keep) ((go_at_call 39; (with_reducible refine (HK5.out _ HRX.out).mono ?_); rintro e v1 ⟨rfl, hv1⟩; have hd : Below wr.heap.size wr v1 := (Below.refl wr.heap.size wr).drew.trans hv1; have PV := HPx.out.below hd; obtain ⟨b0, b1, b2⟩ := PV.b.cells; obtain ⟨u0, u1, u2, u3, -⟩ := blk4 PV.c))) | fail
              go_wp2_with fail
              go_roundw
              case rel => exact ⟨x + 1, by omega, by go_num, PV, bstep HWx.out hd⟩
              case measure => simp [intOf]; omega
            · have j1 : (x : Int) < (L : Int) + (W : Int) := by omega
              clear hf1 hf2
              go_wp2_with fail
              first | (go_region_held3 (fun w' => w'.cell? ⟨w.heap.size + 1, 0, none⟩ = some (.int .u8 c.r) ∧ w'.cell? ⟨w.heap.size + 1, 1, none⟩ = some (.int .u8 c.g) ∧ w'.cell? ⟨w.heap.size + 1, 2, none⟩ = some (.int .u8 c.b) ∧ w'.cell? ⟨w.heap.size + 1, 3, none⟩ = some (.int .u8 c.a) ∧ w'.cell? ⟨g, 0, none⟩ = some (.int .i64 (MW : Int)) ∧ w'.cell? ⟨g, 1, none⟩ = some (.int .i64 (MH : Int)) ∧ w'.cell? ⟨g, 2, none⟩ = some (.slice A2 l2.length cap2)) (go_keep) ((go_at_call 39; (with_reducible refine (HK5.out _ HRX.out).mono ?_); rintro e v1 ⟨rfl, hv1⟩; have hd : Below wr.heap.size wr v1 := (Below.refl wr.heap.size wr).drew.trans hv1; have PV := HPx.out.below hd; obtain ⟨b0, b1, b2⟩ := PV.b.cells; obtain ⟨u0, u1, u2, u3, -⟩ := blk4 PV.c))) | fail
              go_wp2_with fail
              go_roundw
              case rel => exact ⟨x + 1, by omega, by go_num, PV, bstep HWx.out hd⟩
              case measure => simp [intOf]; omega
            · have j1 : (x : Int) < (L : Int) + (W : Int) := by omega
              have d2 := hf2 ⟨g3, g4⟩
              have j2 : (T : Int) + (H : Int) ≤ (k : Int) := by omega
              clear hf1 hf2
              go_wp2_with fail
              first | (go_region_held3 (fun w' => w'.cell? ⟨w.heap.size + 1, 0, none⟩ = some (.int .u8 c.r) ∧ w'.cell? ⟨w.heap.size + 1, 1, none⟩ = some (.int .u8 c.g) ∧ w'.cell? ⟨w.heap.size + 1, 2, none⟩ = some (.int .u8 c.b) ∧ w'.cell? ⟨w.heap.size + 1, 3, none⟩ = some (.int .u8 c.a) ∧ w'.cell? ⟨g, 0, none⟩ = some (.int .i64 (MW : Int)) ∧ w'.cell? ⟨g, 1, none⟩ = some (.int .i64 (MH : Int)) ∧ w'.cell? ⟨g, 2, none⟩ = some (.slice A2 l2.length cap2)) (go_keep) ((go_at_call 39; (with_reducible refine (HK5.out _ HRX.out).mono ?_); rintro e v1 ⟨rfl, hv1⟩; have hd : Below wr.heap.size wr v1 := (Below.refl wr.heap.size wr).drew.trans hv1; have PV := HPx.out.below hd; obtain ⟨b0, b1, b2⟩ := PV.b.cells; obtain ⟨u0, u1, u2, u3, -⟩ := blk4 PV.c))) | fail
              go_wp2_with fail
              go_roundw
              case rel => exact ⟨x + 1, by omega, by go_num, PV, bstep HWx.out hd⟩
              case measure => simp [intOf]; omega
        · have HPx := hide hP
          have HWx := hide hw
          clear hP hw
          go_wp2_with fail
          go_roundw
          case rel => exact ⟨k + 1, by omega, by go_num, HPx.out, HWx.out⟩
          case measure => simp [intOf]; omega
    · have P := hP
      have HWR := hw
      obtain ⟨a0, a1, a2⟩ := hP.a.cells
      obtain ⟨b0, b1, b2⟩ := hP.b.cells
      clear hP hw
      go_wp2_with (first | (go_at_call 59; (with_reducible refine (K6.out A2 cap2 HC2 _ P.b.row).mono ?_); rintro e x1 ⟨A3, cap3, rfl, him, hx1⟩; have P1 := P.below hx1; have HW1 := bstep HWR hx1; obtain ⟨a0, a1, a2⟩ := P1.a.cellsA; have R1 := hide ((him.row.below (below_alloc x1 (.cells #[.int .i64 W, .int .i64 H, .slice A3 l.length cap3] 34)) (Nat.le_refl _)).more (below_alloc x1 (.cells #[.int .i64 W, .int .i64 H, .slice A3 l.length cap3] 34)).size); have R2 := hide ((P1.a.row.below (below_alloc x1 (.cells #[.int .i64 W, .int .i64 H, .slice A3 l.length cap3] 34)) (Nat.le_refl _)).more (below_alloc x1 (.cells #[.int .i64 W, .int .i64 H, .slice A3 l.length cap3] 34)).size)) | (go_at_call 54; (with_reducible refine (is_true _ _ A3 l cap3 A cap _ R1.out R2.out HUL.out).mono ?_); rintro e x2 ⟨rfl, hx2⟩) | (go_at_call 51; (with_reducible refine (awake34 _).mono ?_); rintro e x3 ⟨rfl, hx3⟩))
      go_ret
      exact ⟨rfl, bstep (bstep (balloc HW1 _) hx2) hx3⟩

theorem opsFrames_law (w : World) (x y : Int) (A : Option Addr) (l : List Int) (cap : Nat) (_ : I64 x) (_ : I64 y) (hr : RowAt w w.heap.size .u8 A l) (hu : U8s l) (hm : l.length ≤ maxLen) (hcap : l.length ≤ cap) (a : Int) (_ : I64 a) (b : Int) (_ : I64 b) (c : Int) (_ : I64 c) (d : Int) (_ : I64 d) (u : Col) (_ : u.ok) :
    Calls Try.prog 16 #[imgV x y A l.length cap, .int .i64 a, .int .i64 b, .int .i64 c, .int .i64 d, colV u] w fun e w' => e = .returned (.bool true) ∧ Below w.heap.size w w' := by
  by_cases h : 600 < l.length
  · exact frames_big x y A _ cap a b c d u w h
  by_cases hR : rightI x y l.length
  · by_cases hs : a ≤ 20 ∧ b ≤ 20 ∧ c ≤ 20 ∧ d ≤ 20
    · by_cases ho : 0 ≤ a ∧ 0 ≤ b ∧ 0 ≤ c ∧ 0 ≤ d
      · have hx := hR.1.1
        have hy := hR.2.1.1
        obtain ⟨W, rfl⟩ := Int.eq_ofNat_of_zero_le (show 0 ≤ x by omega)
        obtain ⟨H, rfl⟩ := Int.eq_ofNat_of_zero_le (show 0 ≤ y by omega)
        obtain ⟨L, rfl⟩ := Int.eq_ofNat_of_zero_le ho.1
        obtain ⟨T, rfl⟩ := Int.eq_ofNat_of_zero_le ho.2.1
        obtain ⟨R, rfl⟩ := Int.eq_ofNat_of_zero_le ho.2.2.1
        obtain ⟨B, rfl⟩ := Int.eq_ofNat_of_zero_le ho.2.2.2
        exact frames_yes W H L T R B A l cap u w hu hr hcap h hR (by omega) (by omega) (by omega) (by omega)
      · exact frames_neg x y A _ cap a b c d u w h hR hs (by omega)
    · exact frames_wide x y A _ cap a b c d u w h hR (by omega)
  · exact frames_no x y A _ cap a b c d u w h hR
end Go.Proofs.Ytkjnheikimpliaa
