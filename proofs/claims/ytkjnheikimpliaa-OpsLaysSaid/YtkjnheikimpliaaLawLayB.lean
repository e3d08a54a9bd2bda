/- The law OpsLays, at right images. -/
import Derived.Test.YtkjnheikimpliaaLawLay
namespace Go.Proofs.Ytkjnheikimpliaa
set_option linter.unusedVariables false
set_option linter.unusedSimpArgs false
open Go.RowKit
attribute [local go_sem ↓] Go.wp_at_zero Go.wp_at_succ

structure LbK (v : World) (p ga gb : Nat) (W H PW PH : Nat) (A Ap Aa Ab : Option Addr) (l lp la lb : List Int) (c cp ca cb : Nat) : Prop where
  a : Pic v p W H A l c
  b : Pic v (p + 1) PW PH Ap lp cp
  c : Pic v ga W H Aa la ca
  d : Pic v gb W H Ab lb cb
theorem LbK.below {v v' : World} {p ga gb W H PW PH : Nat} {A Ap Aa Ab : Option Addr} {l lp la lb : List Int} {c cp ca cb : Nat} (h : LbK v p ga gb W H PW PH A Ap Aa Ab l lp la lb c cp ca cb) (hb : Below v.heap.size v v') : LbK v' p ga gb W H PW PH A Ap Aa Ab l lp la lb c cp ca cb :=
  ⟨h.a.below hb, h.b.below hb, h.c.below hb, h.d.below hb⟩
theorem LbK.cells {v : World} {p ga gb W H PW PH : Nat} {A Ap Aa Ab : Option Addr} {l lp la lb : List Int} {c cp ca cb : Nat} (h : LbK v p ga gb W H PW PH A Ap Aa Ab l lp la lb c cp ca cb) :
    (v.cell? ⟨p, 0, none⟩ = some (.int .i64 W) ∧ v.cell? ⟨p, 1, none⟩ = some (.int .i64 H) ∧ v.cell? ⟨p, 2, none⟩ = some (.slice A l.length c)) ∧
    (v.cell? ⟨p + 1, 0, none⟩ = some (.int .i64 PW) ∧ v.cell? ⟨p + 1, 1, none⟩ = some (.int .i64 PH) ∧ v.cell? ⟨p + 1, 2, none⟩ = some (.slice Ap lp.length cp)) ∧
    (v.cell? ⟨ga, 0, none⟩ = some (.int .i64 W) ∧ v.cell? ⟨ga, 1, none⟩ = some (.int .i64 H) ∧ v.cell? ⟨ga, 2, none⟩ = some (.slice Aa la.length ca)) ∧
    (v.cell? ⟨gb, 0, none⟩ = some (.int .i64 W) ∧ v.cell? ⟨gb, 1, none⟩ = some (.int .i64 H) ∧ v.cell? ⟨gb, 2, none⟩ = some (.slice Ab lb.length cb)) := ⟨h.a.cells, h.b.cells, h.c.cells, h.d.cells⟩

set_option maxRecDepth 100000 in
set_option maxHeartbeats 16000000 in
theorem lays_far (W H PW PH : Nat) (A Ap : Option Addr) (l lp : List Int) (cap capp : Nat) (x y : Int) (w : World) (h1 : ¬ 600 < l.length) (h2 : ¬ 600 < lp.length) (hR : rightI W H l.length) (hR2 : rightI PW PH lp.length) (hr : RowAt w w.heap.size .u8 A l) (hr2 : RowAt w w.heap.size .u8 Ap lp) (hcap : l.length ≤ cap) (hcap2 : lp.length ≤ capp) (hu : U8s l) (hu2 : U8s lp)
    (ho : x < -16384 ∨ (-16384 ≤ x ∧ 16384 < x) ∨ (-16384 ≤ x ∧ x ≤ 16384 ∧ y < -16384) ∨ (-16384 ≤ x ∧ x ≤ 16384 ∧ -16384 ≤ y ∧ 16384 < y)) :
    Calls Try.prog 17 #[imgV W H A l.length cap, imgV PW PH Ap lp.length capp, .int .i64 x, .int .i64 y] w fun e w' => e = .returned (.bool true) ∧ Below w.heap.size w w' := by
  have K1 := hide (big_no h1 W H A cap)
  have K2 := hide (big_no h2 PW PH Ap capp)
  have K3 := hide fun (w' : World) (hw : Below w.heap.size w w') => (by
    have h := paste_yes W H PW PH A Ap l lp cap capp x y w' hR hR2 ((hr.below hw (Nat.le_refl _)).more hw.size) ((hr2.below hw (Nat.le_refl _)).more hw.size) hcap hcap2 hu hu2
    rw [layPx_out _ hR hR2 (by omega)] at h
    exact h : Calls Try.prog 74 #[imgV W H A l.length cap, imgV PW PH Ap lp.length capp, .int .i64 x, .int .i64 y] w' (MadeL w' W H l))
  have K4 := hide fun (w' : World) (hw : Below w.heap.size w w') => (by
    have h := over_yes W H PW PH A Ap l lp cap capp x y w' hR hR2 ((hr.below hw (Nat.le_refl _)).more hw.size) ((hr2.below hw (Nat.le_refl _)).more hw.size) hcap hcap2 hu hu2
    rw [layPx_out _ hR hR2 (by omega)] at h
    exact h : Calls Try.prog 75 #[imgV W H A l.length cap, imgV PW PH Ap lp.length capp, .int .i64 x, .int .i64 y] w' (MadeL w' W H l))
  unfold MadeL at K3 K4
  have KA := hide (refRight_yes hR A cap)
  have KB := hide (refRight_yes hR2 Ap capp)
  have HR1 := hide hr
  have HR2 := hide hr2
  have HUL := hide hu
  have ho' : x < -16384 ∨ (-16384 ≤ x ∧ 16384 < x) ∨ (-16384 ≤ x ∧ x ≤ 16384 ∧ y < -16384) ∨ (-16384 ≤ x ∧ x ≤ 16384 ∧ -16384 ≤ y ∧ 16384 < y ∧ decide ((16384 : Int) < y) = true) := by
    by_cases h4 : (16384 : Int) < y
    · simp only [h4, decide_true, and_true]; omega
    · omega
  clear h1 h2 hR hR2 hr hr2 hcap hcap2 hu hu2 ho
  rcases ho' with g1 | ⟨g1, g2⟩ | ⟨g1, g2, g3⟩ | ⟨g1, g2, g3, g4, g5⟩
  all_goals
    go_enter Try.func17, Try.ntmps17
    go_wp2_with (first | (go_at_call 50; (with_reducible refine (K1.out _).mono ?_); rintro e w1 ⟨rfl, hb1⟩; obtain ⟨B1, B2, hz, HW⟩ := own2 hb1; obtain ⟨a0, a1, a2, -⟩ := blk3 B1; obtain ⟨b0, b1, b2, -⟩ := blk3 B2; clear hb1) | (go_at_call 50; (with_reducible refine (K2.out _).mono ?_); rintro e w2 ⟨rfl, hb2⟩; have C1 := B1.below hb2 B1.lt; have C2 := B2.below hb2 B2.lt; obtain ⟨a0, a1, a2, -⟩ := blk3 C1; obtain ⟨b0, b1, b2, -⟩ := blk3 C2; have HW2 := bstep HW hb2; clear hb2 B1 B2) | (go_at_call 74; (with_reducible refine (K3.out _ HW2).mono ?_); rintro e w3 ⟨Aa, ca, rfl, hima, hb3⟩; have D1 := C1.below hb3 C1.lt; have D2 := C2.below hb3 C2.lt; obtain ⟨a0, a1, a2, -⟩ := blk3x D1; obtain ⟨b0, b1, b2, -⟩ := blk3x D2; have HW3 := bstep HW2 hb3; have HIA := hide hima; have HCA := hima.2; clear hb3 C1 C2 hima) | (go_at_call 75; (with_reducible refine (K4.out _ (balloc HW3 _)).mono ?_); rintro e w4 ⟨Ab, cb, rfl, himb, hb4⟩; obtain ⟨E3, hz4, HW4'⟩ := own1 hb4; have E1 := D1.below HW4' D1.lt; have E2 := D2.below HW4' D2.lt; obtain ⟨a0, a1, a2, -⟩ := blk3x E1; obtain ⟨b0, b1, b2, -⟩ := blk3x E2; have HW4 := bstep HW3 HW4'; have RA := hide ((HIA.out.row.below HW4' (Nat.le_refl _)).more HW4'.size); have HIB := hide himb; clear hb4 D1 D2 himb) | (go_at_call 36; (with_reducible refine (KA.out _).mono ?_); rintro e w5 ⟨rfl, hb5⟩; have NK : LbK w5 w.heap.size w3.heap.size w4.heap.size W H PW PH A Ap Aa Ab l lp l l cap capp ca cb := LbK.below ⟨⟨E1.alloc _, (HR1.out.below (balloc HW4 _) (Nat.le_refl _)).more (balloc HW4 _).size⟩, ⟨E2.alloc _, (HR2.out.below (balloc HW4 _) (Nat.le_refl _)).more (balloc HW4 _).size⟩, ⟨E3.alloc _, (RA.out.below (below_alloc w4 _) (Nat.le_refl _)).more (below_alloc w4 _).size⟩, Pic.new HIB.out.row⟩ hb5; have HW5 := bstep (balloc HW4 _) hb5; obtain ⟨⟨a0, a1, a2⟩, ⟨b0, b1, b2⟩, ⟨t0, t1, t2⟩, u0, u1, u2⟩ := NK.cells; clear E1 E2 E3 hb5) | (go_at_call 36; (with_reducible refine (KB.out _).mono ?_); rintro e w6 ⟨rfl, hb6⟩; have NK := NK.below hb6; have HW5 := bstep HW5 hb6; obtain ⟨⟨a0, a1, a2⟩, ⟨b0, b1, b2⟩, ⟨t0, t1, t2⟩, u0, u1, u2⟩ := NK.cells; clear hb6) | (go_at_call 54; (with_reducible refine (is_true _ _ Aa l ca A cap _ NK.c.row NK.a.row HUL.out).mono ?_); rintro e w7 ⟨rfl, hb7⟩; have NK := NK.below hb7; have HW5 := bstep HW5 hb7; obtain ⟨⟨a0, a1, a2⟩, ⟨b0, b1, b2⟩, ⟨t0, t1, t2⟩, u0, u1, u2⟩ := NK.cells) | (go_at_call 54; (with_reducible refine (is_true _ _ Ab l cb A cap _ NK.d.row NK.a.row HUL.out).mono ?_); rintro e w8 ⟨rfl, hb8⟩; have NK := NK.below hb8; have HW5 := bstep HW5 hb8; obtain ⟨⟨a0, a1, a2⟩, ⟨b0, b1, b2⟩, ⟨t0, t1, t2⟩, u0, u1, u2⟩ := NK.cells) | (go_at_call 51; (with_reducible refine (awake34 _).mono ?_); rintro e w9 ⟨rfl, hb9⟩))
    go_ret
    exact ⟨rfl, bstep HW5 hb9⟩

theorem lay_crop (l lp : List Int) {W H PW PH X Y : Nat} (hW : X + PW ≤ W) (hH : Y + PH ≤ H) (hR2 : rightI PW PH lp.length) (la : List Int) (hla : la = bytesL (grid (layPx (fun c _ => c) l lp W PW PH X Y) W H).flatten) : bytesL (pxs (cropPx la W X Y) PW (PW * PH)) = lp := by
  have hP := hR2.1.1
  rw [pxs_congr _ (imgPx lp PW) PW PH (by omega) (fun p q hp hq => ?_), bytes_img hR2]
  unfold cropPx
  rw [cropPx_nat, hla, img_grid _ (by omega) (by omega)]
  unfold layPx
  rw [if_pos ⟨⟨by omega, by omega⟩, by omega, by omega⟩]
  show imgPx lp PW (((X + p : Nat) : Int) - (X : Int)).toNat (((Y + q : Nat) : Int) - (Y : Int)).toNat = _
  rw [show (((X + p : Nat) : Int) - (X : Int)).toNat = p by omega, show (((Y + q : Nat) : Int) - (Y : Int)).toNat = q by omega]

set_option maxRecDepth 100000 in
set_option maxHeartbeats 32000000 in
theorem lays_near (W H PW PH : Nat) (A Ap : Option Addr) (l lp : List Int) (cap capp : Nat) (x y : Int) (w : World) (h1 : ¬ 600 < l.length) (h2 : ¬ 600 < lp.length) (hR : rightI W H l.length) (hR2 : rightI PW PH lp.length) (hr : RowAt w w.heap.size .u8 A l) (hr2 : RowAt w w.heap.size .u8 Ap lp) (hcap : l.length ≤ cap) (hcap2 : lp.length ≤ capp) (hu : U8s l) (hu2 : U8s lp)
    (hx : -16384 ≤ x ∧ x ≤ 16384) (hy : -16384 ≤ y ∧ y ≤ 16384) :
    Calls Try.prog 17 #[imgV W H A l.length cap, imgV PW PH Ap lp.length capp, .int .i64 x, .int .i64 y] w fun e w' => e = .returned (.bool true) ∧ Below w.heap.size w w' := by
  have hX := hR.1
  have hY := hR.2.1
  have hP := hR2.1
  have hQ := hR2.2.1
  have K1 := hide (big_no h1 W H A cap)
  have K2 := hide (big_no h2 PW PH Ap capp)
  have K3 := hide fun (w' : World) (hw : Below w.heap.size w w') => paste_yes W H PW PH A Ap l lp cap capp x y w' hR hR2 ((hr.below hw (Nat.le_refl _)).more hw.size) ((hr2.below hw (Nat.le_refl _)).more hw.size) hcap hcap2 hu hu2
  have K4 := hide fun (w' : World) (hw : Below w.heap.size w w') => over_yes W H PW PH A Ap l lp cap capp x y w' hR hR2 ((hr.below hw (Nat.le_refl _)).more hw.size) ((hr2.below hw (Nat.le_refl _)).more hw.size) hcap hcap2 hu hu2
  have KL0 := hide fun (w' : World) (r1 : RowAt w' w'.heap.size .u8 A l) (r2 : RowAt w' w'.heap.size .u8 Ap lp) => refLay_any false (fun c _ => c) rfl W H PW PH A Ap l lp cap capp x y w' hR hR2 r1 r2 hu hu2 hx hy
  have KL1 := hide fun (w' : World) (r1 : RowAt w' w'.heap.size .u8 A l) (r2 : RowAt w' w'.heap.size .u8 Ap lp) => refLay_any true blendC rfl W H PW PH A Ap l lp cap capp x y w' hR hR2 r1 r2 hu hu2 hx hy
  unfold MadeL at K3 K4
  rw [pxs_grid] at K3 K4
  have hua : ∀ a b, (layPx (fun c _ => c) l lp W PW PH x y a b).ok := fun a b => by
    unfold layPx; by_cases h : inPart x y PW PH a b
    · rw [if_pos h]; exact imgPx_ok hu2 _ _ _
    · rw [if_neg h]; exact imgPx_ok hu _ _ _
  have hub : ∀ a b, (layPx blendC l lp W PW PH x y a b).ok := fun a b => by
    unfold layPx; by_cases h : inPart x y PW PH a b
    · rw [if_pos h]; exact blend_ok (imgPx_ok hu2 _ _ _) (imgPx_ok hu _ _ _)
    · rw [if_neg h]; exact imgPx_ok hu _ _ _
  have HUA := hide (grid_u8s hua W H)
  have HUB := hide (grid_u8s hub W H)
  have HRA := hide (right_grid (layPx (fun c _ => c) l lp W PW PH x y) (W := W) (H := H) (by omega) (by omega))
  obtain ⟨la, hla⟩ : ∃ la, la = bytesL (grid (layPx (fun c _ => c) l lp W PW PH x y) W H).flatten := ⟨_, rfl⟩
  obtain ⟨lb, hlb⟩ : ∃ lb, lb = bytesL (grid (layPx blendC l lp W PW PH x y) W H).flatten := ⟨_, rfl⟩
  rw [← hla] at K3 KL0 HUA HRA
  rw [← hlb] at K4 KL1 HUB
  have KA := hide (refRight_yes hR A cap)
  have KB := hide (refRight_yes hR2 Ap capp)
  have HR1 := hide hr
  have HR2 := hide hr2
  have HUP := hide hu2
  have HRP := hide hR2
  have HLA := hide hla
  have d4 : decide ((16384 : Int) < y) = false := by simp; omega
  obtain ⟨hx1, hx2⟩ := hx
  obtain ⟨hy1, hy2⟩ := hy
  clear h1 h2 hR hR2 hr hr2 hcap hcap2 hu hu2 hla hlb hua hub
  go_enter Try.func17, Try.ntmps17
  go_wp2_with (first | (go_at_call 50; (with_reducible refine (K1.out _).mono ?_); rintro e w1 ⟨rfl, hb1⟩; obtain ⟨B1, B2, hz, HW⟩ := own2 hb1; obtain ⟨a0, a1, a2, -⟩ := blk3 B1; obtain ⟨b0, b1, b2, -⟩ := blk3 B2; clear hb1) | (go_at_call 50; (with_reducible refine (K2.out _).mono ?_); rintro e w2 ⟨rfl, hb2⟩; have C1 := B1.below hb2 B1.lt; have C2 := B2.below hb2 B2.lt; obtain ⟨a0, a1, a2, -⟩ := blk3 C1; obtain ⟨b0, b1, b2, -⟩ := blk3 C2; have HW2 := bstep HW hb2; clear hb2 B1 B2) | (go_at_call 74; (with_reducible refine (K3.out _ HW2).mono ?_); rintro e w3 ⟨Aa, ca, rfl, hima, hb3⟩; have D1 := C1.below hb3 C1.lt; have D2 := C2.below hb3 C2.lt; obtain ⟨a0, a1, a2, -⟩ := blk3x D1; obtain ⟨b0, b1, b2, -⟩ := blk3x D2; have HW3 := bstep HW2 hb3; have HIA := hide hima; have HCA := hima.2; clear hb3 C1 C2 hima) | (go_at_call 75; (with_reducible refine (K4.out _ (balloc HW3 _)).mono ?_); rintro e w4 ⟨Ab, cb, rfl, himb, hb4⟩; obtain ⟨E3, hz4, HW4'⟩ := own1 hb4; have E1 := D1.below HW4' D1.lt; have E2 := D2.below HW4' D2.lt; obtain ⟨a0, a1, a2, -⟩ := blk3x E1; obtain ⟨b0, b1, b2, -⟩ := blk3x E2; have HW4 := bstep HW3 HW4'; have RA := hide ((HIA.out.row.below HW4' (Nat.le_refl _)).more HW4'.size); have HIB := hide himb; clear hb4 D1 D2 himb) | (go_at_call 36; (with_reducible refine (KA.out _).mono ?_); rintro e w5 ⟨rfl, hb5⟩; have NK : LbK w5 w.heap.size w3.heap.size w4.heap.size W H PW PH A Ap Aa Ab l lp la lb cap capp ca cb := LbK.below ⟨⟨E1.alloc _, (HR1.out.below (balloc HW4 _) (Nat.le_refl _)).more (balloc HW4 _).size⟩, ⟨E2.alloc _, (HR2.out.below (balloc HW4 _) (Nat.le_refl _)).more (balloc HW4 _).size⟩, ⟨E3.alloc _, (RA.out.below (below_alloc w4 _) (Nat.le_refl _)).more (below_alloc w4 _).size⟩, Pic.new HIB.out.row⟩ hb5; have HW5 := bstep (balloc HW4 _) hb5; obtain ⟨⟨a0, a1, a2⟩, ⟨b0, b1, b2⟩, ⟨t0, t1, t2⟩, u0, u1, u2⟩ := NK.cells; clear E1 E2 E3 hb5) | (go_at_call 36; (with_reducible refine (KB.out _).mono ?_); rintro e w6 ⟨rfl, hb6⟩; have NK := NK.below hb6; have HW5 := bstep HW5 hb6; obtain ⟨⟨a0, a1, a2⟩, ⟨b0, b1, b2⟩, ⟨t0, t1, t2⟩, u0, u1, u2⟩ := NK.cells; clear hb6))
  obtain ⟨ga, hga⟩ : ∃ g, g = w3.heap.size := ⟨_, rfl⟩
  rw [← hga] at NK ⊢
  obtain ⟨gb, hgb⟩ : ∃ g, g = w4.heap.size := ⟨_, rfl⟩
  rw [← hgb] at NK ⊢
  obtain ⟨⟨a0, a1, a2⟩, ⟨b0, b1, b2⟩, ⟨t0, t1, t2⟩, u0, u1, u2⟩ := NK.cells
  have ND := NK.below (Below.refl w6.heap.size w6).drew
  have HND := hide ND
  have HWW := hide HW5
  clear K1 K2 K3 K4 KA KB NK ND HW5 hga hgb
  first | (go_region_held3 (fun w' => w'.cell? ⟨w.heap.size, 0, none⟩ = some (.int .i64 (W : Int)) ∧ w'.cell? ⟨w.heap.size, 1, none⟩ = some (.int .i64 (H : Int)) ∧ w'.cell? ⟨w.heap.size, 2, none⟩ = some (.slice A l.length cap) ∧ w'.cell? ⟨w.heap.size + 1, 0, none⟩ = some (.int .i64 (PW : Int)) ∧ w'.cell? ⟨w.heap.size + 1, 1, none⟩ = some (.int .i64 (PH : Int)) ∧ w'.cell? ⟨w.heap.size + 1, 2, none⟩ = some (.slice Ap lp.length capp) ∧ w'.cell? ⟨ga, 0, none⟩ = some (.int .i64 (W : Int)) ∧ w'.cell? ⟨ga, 1, none⟩ = some (.int .i64 (H : Int)) ∧ w'.cell? ⟨ga, 2, none⟩ = some (.slice Aa la.length ca) ∧ w'.cell? ⟨gb, 0, none⟩ = some (.int .i64 (W : Int)) ∧ w'.cell? ⟨gb, 1, none⟩ = some (.int .i64 (H : Int)) ∧ w'.cell? ⟨gb, 2, none⟩ = some (.slice Ab lb.length cb)) (go_keep) (first | (go_at_call 76; (with_reducible refine (KL0.out _ HND.out.a.row HND.out.b.row).mono ?_); rintro e x1 ⟨A7, c7, rfl, him7, hx1'⟩; have N1 := HND.out.below hx1'; have HB1 := (Below.refl w6.heap.size w6).drew.trans hx1'; obtain ⟨⟨a0, a1, a2⟩, ⟨b0, b1, b2⟩, ⟨t0, t1, t2⟩, u0, u1, u2⟩ := N1.cells) | (go_at_call 54; (with_reducible refine (is_true _ _ Aa la ca A7 c7 _ N1.c.row him7.row HUA.out).mono ?_); rintro e x2 ⟨rfl, hx2'⟩; have N1 := N1.below hx2'; have HB1 := bstep HB1 hx2'; obtain ⟨⟨a0, a1, a2⟩, ⟨b0, b1, b2⟩, ⟨t0, t1, t2⟩, u0, u1, u2⟩ := N1.cells; clear him7) | (go_at_call 76; (with_reducible refine (KL1.out _ N1.a.row N1.b.row).mono ?_); rintro e x3 ⟨A8, c8, rfl, him8, hx3'⟩; have N1 := N1.below hx3'; have HB1 := bstep HB1 hx3'; obtain ⟨⟨a0, a1, a2⟩, ⟨b0, b1, b2⟩, ⟨t0, t1, t2⟩, u0, u1, u2⟩ := N1.cells) | (go_at_call 54; (with_reducible refine (is_true _ _ Ab lb cb A8 c8 _ N1.d.row him8.row HUB.out).mono ?_); rintro e x4 ⟨rfl, hx4'⟩; have N1 := N1.below hx4'; have HB1 := bstep HB1 hx4'; obtain ⟨⟨a0, a1, a2⟩, ⟨b0, b1, b2⟩, ⟨t0, t1, t2⟩, u0, u1, u2⟩ := N1.cells))) | fail
  have HN := hide N1
  have HW6 := hide (bstep HWW.out HB1)
  clear N1 HB1 KL0 KL1 HND HWW
  by_cases hin : 0 ≤ x ∧ 0 ≤ y ∧ x + (PW : Int) ≤ (W : Int) ∧ y + (PH : Int) ≤ (H : Int)
  · obtain ⟨g1, g2, g3, g4⟩ := hin
    obtain ⟨X, rfl⟩ := Int.eq_ofNat_of_zero_le g1
    obtain ⟨Y, rfl⟩ := Int.eq_ofNat_of_zero_le g2
    have e5 : decide ((H : Int) < (Y : Int) + (PH : Int)) = false := by simp; omega
    have K6 := hide fun (w' : World) (hr' : RowAt w' w'.heap.size .u8 Aa la) => (by
      have h1 := crop_yes W H Aa la ca X Y PW PH w' HRA.out hr' HCA (by omega) (by omega) (by omega) (by omega)
      rw [lay_crop l lp (by omega) (by omega) HRP.out la HLA.out] at h1
      exact h1 : Calls Try.prog 59 #[imgV W H Aa la.length ca, .int .i64 (X : Int), .int .i64 (Y : Int), .int .i64 (PW : Int), .int .i64 (PH : Int)] w' fun e w'' => ∃ A' cap', e = .returned (.tuple #[imgV PW PH A' lp.length cap', .int .i64 0]) ∧ ImgNew w'' w'.heap.size A' cap' lp ∧ Below w'.heap.size w' w'')
    have P := HN.out
    clear HN
    go_wp2_with (first | (go_at_call 59; (with_reducible refine (K6.out _ P.c.row).mono ?_); rintro e y1 ⟨A3, cap3, rfl, him, hy1'⟩; have P1 := P.below hy1'; have HW7 := bstep HW6.out hy1'; obtain ⟨b0, b1, b2⟩ := P1.b.cellsA; have R1 := hide ((him.row.below (below_alloc y1 (.cells #[.int .i64 PW, .int .i64 PH, .slice A3 lp.length cap3] 34)) (Nat.le_refl _)).more (below_alloc y1 (.cells #[.int .i64 PW, .int .i64 PH, .slice A3 lp.length cap3] 34)).size); have R2 := hide ((P1.b.row.below (below_alloc y1 (.cells #[.int .i64 PW, .int .i64 PH, .slice A3 lp.length cap3] 34)) (Nat.le_refl _)).more (below_alloc y1 (.cells #[.int .i64 PW, .int .i64 PH, .slice A3 lp.length cap3] 34)).size)) | (go_at_call 54; (with_reducible refine (is_true _ _ A3 lp cap3 Ap capp _ R1.out R2.out HUP.out).mono ?_); rintro e y2 ⟨rfl, hy2'⟩) | (go_at_call 51; (with_reducible refine (awake34 _).mono ?_); rintro e y3 ⟨rfl, hy3'⟩))
    go_ret
    exact ⟨rfl, bstep (bstep (balloc HW7 _) hy2') hy3'⟩
  · have hc : x < 0 ∨ (0 ≤ x ∧ y < 0) ∨ (0 ≤ x ∧ 0 ≤ y ∧ (W : Int) < x + (PW : Int)) ∨ (0 ≤ x ∧ 0 ≤ y ∧ x + (PW : Int) ≤ (W : Int) ∧ (H : Int) < y + (PH : Int) ∧ decide ((H : Int) < y + (PH : Int)) = true) := by
      by_cases h4 : (H : Int) < y + (PH : Int)
      · simp only [h4, decide_true, and_true]; omega
      · omega
    clear hin
    rcases hc with g1 | ⟨g1, g2⟩ | ⟨g1, g2, g3⟩ | ⟨g1, g2, g3, g4, g5⟩
    all_goals
      go_wp2_with (go_at_call 51; (with_reducible refine (awake34 _).mono ?_); rintro e y3 ⟨rfl, hy3'⟩)
      go_ret
      exact ⟨rfl, bstep HW6.out hy3'⟩

theorem opsLays_law (w : World) (x1 y1 : Int) (A1 : Option Addr) (l1 : List Int) (c1 : Nat) (_ : I64 x1) (_ : I64 y1) (r1 : RowAt w w.heap.size .u8 A1 l1) (u1 : U8s l1) (hm1 : l1.length ≤ maxLen) (hc1 : l1.length ≤ c1)
    (x2 y2 : Int) (A2 : Option Addr) (l2 : List Int) (c2 : Nat) (_ : I64 x2) (_ : I64 y2) (r2 : RowAt w w.heap.size .u8 A2 l2) (u2 : U8s l2) (hm2 : l2.length ≤ maxLen) (hc2 : l2.length ≤ c2) (x : Int) (_ : I64 x) (y : Int) (_ : I64 y) :
    Calls Try.prog 17 #[imgV x1 y1 A1 l1.length c1, imgV x2 y2 A2 l2.length c2, .int .i64 x, .int .i64 y] w fun e w' => e = .returned (.bool true) ∧ Below w.heap.size w w' := by
  by_cases h1 : 600 < l1.length
  · exact lays_big x1 y1 x2 y2 A1 A2 _ _ c1 c2 x y w (.inl h1)
  by_cases h2 : 600 < l2.length
  · exact lays_big x1 y1 x2 y2 A1 A2 _ _ c1 c2 x y w (.inr ⟨h1, h2⟩)
  by_cases h : rightI x1 y1 l1.length ∧ rightI x2 y2 l2.length
  · obtain ⟨hR1, hR2⟩ := h
    have a1 := hR1.1.1
    have a2 := hR1.2.1.1
    have a3 := hR2.1.1
    have a4 := hR2.2.1.1
    obtain ⟨W, rfl⟩ := Int.eq_ofNat_of_zero_le (show 0 ≤ x1 by omega)
    obtain ⟨H, rfl⟩ := Int.eq_ofNat_of_zero_le (show 0 ≤ y1 by omega)
    obtain ⟨PW, rfl⟩ := Int.eq_ofNat_of_zero_le (show 0 ≤ x2 by omega)
    obtain ⟨PH, rfl⟩ := Int.eq_ofNat_of_zero_le (show 0 ≤ y2 by omega)
    by_cases ho : (-16384 ≤ x ∧ x ≤ 16384) ∧ -16384 ≤ y ∧ y ≤ 16384
    · exact lays_near W H PW PH A1 A2 l1 l2 c1 c2 x y w h1 h2 hR1 hR2 r1 r2 hc1 hc2 u1 u2 ho.1 ho.2
    · exact lays_far W H PW PH A1 A2 l1 l2 c1 c2 x y w h1 h2 hR1 hR2 r1 r2 hc1 hc2 u1 u2 (by omega)
  · exact lays_no x1 y1 x2 y2 A1 A2 _ _ c1 c2 x y w h1 h2 h
end Go.Proofs.Ytkjnheikimpliaa
