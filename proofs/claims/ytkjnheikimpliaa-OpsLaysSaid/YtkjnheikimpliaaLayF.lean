/- The reference's Lay: walked. -/
import Derived.Test.YtkjnheikimpliaaLayE
import Derived.Test.YtkjnheikimpliaaLawColor
import Derived.BigRegion
namespace Go.Proofs.Ytkjnheikimpliaa
set_option linter.unusedVariables false
set_option linter.unusedSimpArgs false
open Go.RowKit
attribute [local go_sem ↓] Go.wp_at_zero Go.wp_at_succ

/-- What Lay's rounds keep. -/
structure LayS (w wr : World) (Bm Bp : Nat) (W H PW PH : Nat) (A : Option Addr) (n cap : Nat) (px pp : Nat → Nat → Col) (g c : Nat) (bl ci : Nat → Nat) (g2 c2 : Nat) (bl2 ci2 : Nat → Nat) : Prop where
  below : Below w.heap.size w wr
  m : Blk wr w.heap.size 34 #[.int .i64 W, .int .i64 H, .slice A n cap]
  r : Blk wr (w.heap.size + 1 + 1) 34 #[.int .i64 0, .int .i64 0, .slice none 0 0]
  l : SepR wr Bm W H px g c bl ci
  p : SepR wr Bp PW PH pp g2 c2 bl2 ci2
theorem LayS.keep {w wr w' : World} {Bm Bp W H PW PH : Nat} {A : Option Addr} {n cap : Nat} {px pp : Nat → Nat → Col} {g c : Nat} {bl ci : Nat → Nat} {g2 c2 : Nat} {bl2 ci2 : Nat → Nat} (h : LayS w wr Bm Bp W H PW PH A n cap px pp g c bl ci g2 c2 bl2 ci2) (hb : Below wr.heap.size wr w') : LayS w w' Bm Bp W H PW PH A n cap px pp g c bl ci g2 c2 bl2 ci2 :=
  ⟨bstep h.below hb, h.m.below hb h.m.lt, h.r.below hb h.r.lt, h.l.below hb, h.p.below hb⟩
theorem LayS.put {w wr : World} {Bm Bp W H PW PH : Nat} {A : Option Addr} {n cap : Nat} {px pp px' : Nat → Nat → Col} {g c : Nat} {bl ci : Nat → Nat} {g2 c2 : Nat} {bl2 ci2 : Nat → Nat} (h : LayS w wr Bm Bp W H PW PH A n cap px pp g c bl ci g2 c2 bl2 ci2) (h1 : w.heap.size + 1 + 1 < Bm) {u v : Nat} (hu : u < W) (hv : v < H) (hlt : bl v < Bp) (d : Col) (he : ∀ a b, updPx px u v d a b = px' a b) :
    LayS w (put4 wr (bl v) (u * 4) d) Bm Bp W H PW PH A n cap px' pp g c bl ci g2 c2 bl2 ci2 := by
  obtain ⟨_, _, _, _, hge⟩ := own_blk (h.l.row v hv)
  exact ⟨h.below.trans (put4_below _ _ _ _ (by omega)), h.m.same (put4_far _ _ _ _ _ (by omega)), h.r.same (put4_far _ _ _ _ _ (by omega)), (h.l.put hv hu d).congr fun a b _ _ => he a b, h.p.keep fun b hb => put4_far _ _ _ _ _ (by omega)⟩

set_option maxRecDepth 100000 in
set_option maxHeartbeats 16000000 in
theorem refLay_any (ov : Bool) (f : Col → Col → Col) (hf : f = if ov then blendC else fun c _ => c) (W H PW PH : Nat) (A Ap : Option Addr) (l lp : List Int) (cap capp : Nat) (x y : Int) (w : World) (hR : rightI W H l.length) (hR2 : rightI PW PH lp.length) (hr : RowAt w w.heap.size .u8 A l) (hr2 : RowAt w w.heap.size .u8 Ap lp) (hu : U8s l) (hu2 : U8s lp) (hx : -16384 ≤ x ∧ x ≤ 16384) (hy : -16384 ≤ y ∧ y ≤ 16384) :
    Calls Try.prog 76 #[imgV W H A l.length cap, imgV PW PH Ap lp.length capp, .int .i64 x, .int .i64 y, .bool ov] w fun e w' => ∃ A' cap', e = .returned (imgV W H A' (bytesL (grid (layPx f l lp W PW PH x y) W H).flatten).length cap') ∧ ImgNew w' w.heap.size A' cap' (bytesL (grid (layPx f l lp W PW PH x y) W H).flatten) ∧ Below w.heap.size w w' := by
  have hX : 1 ≤ W ∧ W ≤ 16384 := by have := hR.1; omega
  have hY : 1 ≤ H ∧ H ≤ 16384 := by have := hR.2.1; omega
  have hP : 1 ≤ PW ∧ PW ≤ 16384 := by have := hR2.1; omega
  have hQ : 1 ≤ PH ∧ PH ≤ 16384 := by have := hR2.2.1; omega
  have hWH : W * H ≤ 268435456 := Nat.le_trans (Nat.mul_le_mul hX.2 hY.2) (by decide)
  have K1 := hide fun (w' : World) (hw : Below w.heap.size w w') => refRows_sep W H A l cap w' hR ((hr.below hw (Nat.le_refl _)).more hw.size)
  have K2 := hide fun (w' : World) (hw : Below w.heap.size w w') => refRows_sep PW PH Ap lp capp w' hR2 ((hr2.below hw (Nat.le_refl _)).more hw.size)
  have hok : ∀ a b, (imgPx l W a b).ok := fun a b => imgPx_ok hu _ _ _
  have hok2 : ∀ a b, (imgPx lp PW a b).ok := fun a b => imgPx_ok hu2 _ _ _
  have hfo : ∀ a b, (layPx f l lp W PW PH x y a b).ok := fun a b => by
    unfold layPx
    by_cases h : inPart x y PW PH a b
    · rw [if_pos h, hf]
      cases ov
      · exact hok2 _ _
      · exact blend_ok (hok2 _ _) (hok _ _)
    · rw [if_neg h]; exact hok _ _
  have K3 := hide fun (g c : Nat) (w' : World) (hro : RowsAt w' w'.heap.size (some ⟨g, 0, none⟩) (grid (layPx f l lp W PW PH x y) W H)) => gridImage_any g c W H (layPx f l lp W PW PH x y) w' hro hX hY hWH hfo
  have KB := hide fun (a b p q : Nat) (w' : World) => refBlend_any (imgPx lp PW p q) (imgPx l W a b) (hok2 p q) (hok a b) w'
  have HF := hide hf
  obtain ⟨bs, hbs⟩ : ∃ bs, bs = bytesL (grid (layPx f l lp W PW PH x y) W H).flatten := ⟨_, rfl⟩
  rw [← hbs] at K3 ⊢
  clear hR hR2 hr hr2 hu hu2 hok hok2 hfo hf hbs
  go_enter Try.func76, Try.ntmps76
  go_wp2_with (first | (go_at_call 60; (with_reducible refine (K1.out _ (balloc (balloc (below_alloc w _) _) _)).mono ?_); rintro e w1 ⟨g, c, bl, ci, rfl, hL, hb1⟩; obtain ⟨B1, B2, B3, hz, HW⟩ := own3 hb1; obtain ⟨m0, m1, m2, -⟩ := blk3 B2; have HL := hide hL; clear hb1 hL) | (go_at_call 60; (with_reducible refine (K2.out _ HW).mono ?_); rintro e w2 ⟨g2, c2, bl2, ci2, rfl, hL2, hb2⟩; have HS := hide (⟨bstep HW hb2, B1.below hb2 B1.lt, B3.below hb2 B3.lt, HL.out.below hb2, hL2⟩ : LayS w w2 (((w.alloc (.cells #[.int .i64 W, .int .i64 H, .slice A l.length cap] 34)).alloc (.cells #[.int .i64 PW, .int .i64 PH, .slice Ap lp.length capp] 34)).alloc (.cells #[.int .i64 0, .int .i64 0, .slice none 0 0] 34)).heap.size w1.heap.size W H PW PH A l.length cap (imgPx l W) (imgPx lp PW) g c bl ci g2 c2 bl2 ci2)))
  have hlt := hide fun i (hi : i < H) => own_lt (HL.out.row i hi)
  have hBm : w.heap.size + 1 + 1 < (((w.alloc (.cells #[.int .i64 W, .int .i64 H, .slice A l.length cap] 34)).alloc (.cells #[.int .i64 PW, .int .i64 PH, .slice Ap lp.length capp] 34)).alloc (.cells #[.int .i64 0, .int .i64 0, .slice none 0 0] 34)).heap.size := by simp
  generalize (((w.alloc (.cells #[.int .i64 W, .int .i64 H, .slice A l.length cap] 34)).alloc (.cells #[.int .i64 PW, .int .i64 PH, .slice Ap lp.length capp] 34)).alloc (.cells #[.int .i64 0, .int .i64 0, .slice none 0 0] 34)).heap.size = Bm at HS hBm
  have hBp : Bm ≤ w1.heap.size := by
    obtain ⟨_, _, _, _, h1⟩ := own_blk (HS.out.l.row 0 (by omega))
    have := hlt.out 0 (by omega)
    omega
  generalize w1.heap.size = Bp at HS hBp hlt
  clear HL B1 B2 B3 HW m0 m1 m2 K1 K2
  go_loopw [13] (fun s wr => ∃ k : Nat, k ≤ PH ∧ s = .int .i64 k ∧ LayS w wr Bm Bp W H PW PH A l.length cap (layN f l lp W PW PH x y (k * PW)) (imgPx lp PW) g c bl ci g2 c2 bl2 ci2) (fun s _ => PH - (intOf s).toNat)
  case atStart =>
    have h0 := HS.out
    exact ⟨0, Nat.zero_le _, rfl, ⟨h0.below, h0.m, h0.r, h0.l.congr fun a i _ _ => by rw [Nat.zero_mul, layN_zero], h0.p⟩⟩
  case round =>
    obtain ⟨k, hk, rfl, hS⟩ := hrel
    by_cases hlk : k < PH
    · have HSk := hide hS
      clear hS
      go_wp2_with fail
      go_loopw [14] (fun s wr => ∃ a : Nat, a ≤ PW ∧ s = .int .i64 a ∧ LayS w wr Bm Bp W H PW PH A l.length cap (layN f l lp W PW PH x y (k * PW + a)) (imgPx lp PW) g c bl ci g2 c2 bl2 ci2) (fun s _ => PW - (intOf s).toNat)
      case atStart => exact ⟨0, Nat.zero_le _, rfl, HSk.out⟩
      case round =>
        obtain ⟨a, ha, rfl, hS⟩ := hrel
        have o2 := hS.p.outer hlk
        obtain ⟨m0, m1, m2, -⟩ := blk3 hS.m
        by_cases hla : a < PW
        · by_cases hout : x + (a : Int) < 0 ∨ (W : Int) ≤ x + (a : Int) ∨ y + (k : Int) < 0 ∨ (H : Int) ≤ y + (k : Int)
          · have HSx := hide (⟨hS.below, hS.m, hS.r, hS.l.congr fun a' i' h1 h2 => layN_out f l lp hla hlk hout a' i' h1 h2, hS.p⟩ : LayS w wr Bm Bp W H PW PH A l.length cap (layN f l lp W PW PH x y (k * PW + a + 1)) (imgPx lp PW) g c bl ci g2 c2 bl2 ci2)
            clear hS
            have hc : x + (a : Int) < 0 ∨ (0 ≤ x + (a : Int) ∧ (W : Int) ≤ x + (a : Int)) ∨ (0 ≤ x + (a : Int) ∧ x + (a : Int) < (W : Int) ∧ y + (k : Int) < 0) ∨ (0 ≤ x + (a : Int) ∧ x + (a : Int) < (W : Int) ∧ 0 ≤ y + (k : Int) ∧ (H : Int) ≤ y + (k : Int) ∧ decide ((H : Int) ≤ y + (k : Int)) = true) := by
              by_cases h4 : (H : Int) ≤ y + (k : Int)
              · simp only [h4, decide_true, and_true]; omega
              · omega
            clear hout
            rcases hc with h1 | ⟨h1, h2⟩ | ⟨h1, h2, h3⟩ | ⟨h1, h2, h3, h4, h5⟩
            all_goals
              go_wp2_with fail
              go_roundw
              case rel => exact ⟨a + 1, by omega, by go_num, HSx.out⟩
              case measure => simp [intOf]; omega
          · obtain ⟨u, hu⟩ : ∃ u : Nat, x + (a : Int) = (u : Int) := ⟨(x + (a : Int)).toNat, by omega⟩
            obtain ⟨v, hv⟩ : ∃ v : Nat, y + (k : Int) = (v : Int) := ⟨(y + (k : Int)).toNat, by omega⟩
            have hu' : u < W := by omega
            have hv' : v < H := by omega
            obtain ⟨o, ho⟩ : ∃ o, imgPx l W u v = o := ⟨_, rfl⟩
            obtain ⟨q, hq⟩ : ∃ q, imgPx lp PW a k = q := ⟨_, rfl⟩
            have hown := layN_own (W := W) (PH := PH) f l lp hla hu hv
            have hnext := layN_in (W := W) f l lp hla hlk hu hv
            rw [ho] at hown
            rw [ho, hq] at hnext
            obtain ⟨d, hd⟩ : ∃ d, d = f q o := ⟨_, rfl⟩
            rw [← hd] at hnext
            have KBs := hide fun (w' : World) => (by have h := KB.out u v a k w'; rw [ho, hq] at h; exact h : Calls Try.prog 70 #[colV q, colV o] w' fun e w'' => e = .returned (colV (blendC q o)) ∧ Below w'.heap.size w' w'')
            have o1 := hS.l.outer hv'
            have li := hS.l.inner hv' hu'
            have lpi := hS.p.inner hlk hla
            rw [hown] at li
            rw [hq] at lpi
            obtain ⟨⟨l0, l1, l2, l3⟩, f0, f1, f2, f3⟩ := li
            obtain ⟨⟨p0, p1, p2, p3⟩, -⟩ := lpi
            have HSx := hide hS
            have HN := hide hnext
            have HOWN := hide hown
            have HQ := hide hq
            have HD := hide hd
            have hblv := hlt.out v hv'
            have n1 : ¬ bl v = g := by
              obtain ⟨_, hbk, -⟩ := own_blk (hS.l.row v hv')
              have := own_ne hS.l.own hbk (by decide)
              omega
            have n2 : ¬ bl v = g2 := by have := own_ge hS.p.own; omega
            have n3 : ¬ bl v = bl2 k := by have := own_ge (hS.p.row k hlk); omega
            have e5 : decide ((H : Int) ≤ (v : Int)) = false := by simp; omega
            have eu : IntKind.i64.wrap (u : Int) = (u : Int) := IntWalk.i64_in _ (by omega)
            have ev : IntKind.i64.wrap (v : Int) = (v : Int) := IntWalk.i64_in _ (by omega)
            clear hS hnext hown hq hd ho hout
            cases ov
            · go_wp2_with fail
              have hd0 : d = q := by rw [HD.out, HF.out]; rfl
              first | (go_region_held3 (fun w' => w'.cell? ⟨g, v, none⟩ = some (.slice (some ⟨bl v, 0, none⟩) W (ci v)) ∧ w'.cell? ⟨g2, k, none⟩ = some (.slice (some ⟨bl2 k, 0, none⟩) PW (ci2 k)) ∧ w'.cell? ⟨bl2 k, a * 4, none⟩ = some (.int .u8 q.r) ∧ w'.cell? ⟨bl2 k, a * 4 + 1, none⟩ = some (.int .u8 q.g) ∧ w'.cell? ⟨bl2 k, a * 4 + 2, none⟩ = some (.int .u8 q.b) ∧ w'.cell? ⟨bl2 k, a * 4 + 3, none⟩ = some (.int .u8 q.a)) (simp (maxDischargeDepth := 20) [*, World.cell?_alloc_some, World.cell?_setCell_far]) (fail)) | fail
              all_goals
                go_wp2_with fail
                go_roundw
                case rel =>
                  have S5 := HSx.out.keep (Below.refl wr.heap.size wr).drew
                  have S6 := S5.put hBm hu' hv' hblv d HN.out
                  rw [hd0] at S6
                  exact ⟨a + 1, by omega, by go_num, by first | exact S6 | exact S6.keep (Below.refl _ _).drew⟩
                case measure => simp [intOf]; omega
            · have hd0 : d = blendC q o := by rw [HD.out, HF.out]; rfl
              rw [← hd0] at KBs
              clear hd0
              obtain ⟨y0, y1, y2, y3⟩ := d
              go_wp2_with fail
              refine wp_region_noPanic ?_
              refine wp_region_held_drew (S := (fun w' => w'.cell? ⟨g, v, none⟩ = some (.slice (some ⟨bl v, 0, none⟩) W (ci v)) ∧ w'.cell? ⟨g2, k, none⟩ = some (.slice (some ⟨bl2 k, 0, none⟩) PW (ci2 k)) ∧ w'.cell? ⟨bl2 k, a * 4, none⟩ = some (.int .u8 q.r) ∧ w'.cell? ⟨bl2 k, a * 4 + 1, none⟩ = some (.int .u8 q.g) ∧ w'.cell? ⟨bl2 k, a * 4 + 2, none⟩ = some (.int .u8 q.b) ∧ w'.cell? ⟨bl2 k, a * 4 + 3, none⟩ = some (.int .u8 q.a))) (by kernel_rfl) ?_ (fun hHeld => ?_)
              · ((try dsimp only); simp (maxDischargeDepth := 20) [*, World.cell?_alloc_some, World.cell?_setCell_far])
              refine wpAnyH_take (i := 0) (v := ?v0) rfl (by kernel_rfl) (by kernel_rfl) (by kernel_rfl) (fun _ _ _ h => h) (Or.inl ⟨by rfl, ?hy0⟩) (by assumption) ?rest0
              case hy0 => (intro w hSw; (try dsimp only at hSw); go_simp; try with_reducible rfl)
              try simp only [Act.put, List.setIfInBounds_toArray, List.set_cons_zero, List.set_cons_succ, List.getElem_toArray, List.getElem_cons_succ, List.getElem_cons_zero]
              refine wpAnyH_take (i := 1) (v := ?v1) rfl (by kernel_rfl) (by kernel_rfl) (by kernel_rfl) (fun _ _ _ h => h) (Or.inl ⟨by rfl, ?hy1⟩) (by assumption) ?rest1
              case hy1 => (intro w hSw; (try dsimp only at hSw); go_simp; try with_reducible rfl)
              try simp only [Act.put, List.setIfInBounds_toArray, List.set_cons_zero, List.set_cons_succ, List.getElem_toArray, List.getElem_cons_succ, List.getElem_cons_zero]
              refine wpAnyH_take (i := 2) (v := ?v2) rfl (by kernel_rfl) (by kernel_rfl) (by kernel_rfl) (fun _ _ _ h => h) (Or.inl ⟨by rfl, ?hy2⟩) (by assumption) ?rest2
              case hy2 => (intro w hSw; (try dsimp only at hSw); go_simp; try with_reducible rfl)
              try simp only [Act.put, List.setIfInBounds_toArray, List.set_cons_zero, List.set_cons_succ, List.getElem_toArray, List.getElem_cons_succ, List.getElem_cons_zero]
              refine wpAnyH_take (i := 3) (v := ?v3) rfl (by kernel_rfl) (by kernel_rfl) (by kernel_rfl) (fun _ _ _ h => h) (Or.inl ⟨by rfl, ?hy3⟩) (by assumption) ?rest3
              case hy3 => (intro w hSw; (try dsimp only at hSw); go_simp; try with_reducible rfl)
              try simp only [Act.put, List.setIfInBounds_toArray, List.set_cons_zero, List.set_cons_succ, List.getElem_toArray, List.getElem_cons_succ, List.getElem_cons_zero]
              refine wpAnyH_take (i := 4) (v := ?v4) rfl (by kernel_rfl) (by kernel_rfl) (by kernel_rfl) (fun _ _ _ h => h) (Or.inl ⟨by rfl, ?hy4⟩) (by assumption) ?rest4
              case hy4 => (intro w hSw; (try dsimp only at hSw); go_simp; try with_reducible rfl)
              try simp only [Act.put, List.setIfInBounds_toArray, List.set_cons_zero, List.set_cons_succ, List.getElem_toArray, List.getElem_cons_succ, List.getElem_cons_zero]
              refine wpAnyH_take (i := 5) (v := ?v5) rfl (by kernel_rfl) (by kernel_rfl) (by kernel_rfl) (fun _ _ _ h => h) (Or.inl ⟨by rfl, ?hy5⟩) (by assumption) ?rest5
              case hy5 => (intro w hSw; (try dsimp only at hSw); go_simp; try with_reducible rfl)
              try simp only [Act.put, List.setIfInBounds_toArray, List.set_cons_zero, List.set_cons_succ, List.getElem_toArray, List.getElem_cons_succ, List.getElem_cons_zero]
              refine wpAnyH_take (i := 6) (v := ?v6) rfl (by kernel_rfl) (by kernel_rfl) (by kernel_rfl) (fun _ _ _ h => h) (Or.inl ⟨by rfl, ?hy6⟩) (by assumption) ?rest6
              case hy6 => (intro w hSw; (try dsimp only at hSw); go_simp; try with_reducible rfl)
              try simp only [Act.put, List.setIfInBounds_toArray, List.set_cons_zero, List.set_cons_succ, List.getElem_toArray, List.getElem_cons_succ, List.getElem_cons_zero]
              refine wpAnyH_take (i := 7) (v := ?v7) rfl (by kernel_rfl) (by kernel_rfl) (by kernel_rfl) (fun _ _ _ h => h) (Or.inl ⟨by rfl, ?hy7⟩) (by assumption) ?rest7
              case hy7 => (intro w hSw; (try dsimp only at hSw); go_simp; try with_reducible rfl)
              try simp only [Act.put, List.setIfInBounds_toArray, List.set_cons_zero, List.set_cons_succ, List.getElem_toArray, List.getElem_cons_succ, List.getElem_cons_zero]
              refine wpAnyH_take (i := 8) (v := ?v8) rfl (by kernel_rfl) (by kernel_rfl) (by kernel_rfl) (fun _ _ _ h => h) (Or.inl ⟨by rfl, ?hy8⟩) (by assumption) ?rest8
              case hy8 => (intro w hSw; (try dsimp only at hSw); go_simp; try with_reducible rfl)
              try simp only [Act.put, List.setIfInBounds_toArray, List.set_cons_zero, List.set_cons_succ, List.getElem_toArray, List.getElem_cons_succ, List.getElem_cons_zero]
              refine wpAnyH_take (i := 9) (v := ?v9) rfl (by kernel_rfl) (by kernel_rfl) (by kernel_rfl) (fun _ _ _ h => h) (Or.inl ⟨by rfl, ?hy9⟩) (by assumption) ?rest9
              case hy9 => (intro w hSw; (try dsimp only at hSw); go_simp; try with_reducible rfl)
              try simp only [Act.put, List.setIfInBounds_toArray, List.set_cons_zero, List.set_cons_succ, List.getElem_toArray, List.getElem_cons_succ, List.getElem_cons_zero]
              refine wpAnyH_take (i := 10) (v := ?v10) rfl (by kernel_rfl) (by kernel_rfl) (by kernel_rfl) (fun _ _ _ h => h) (Or.inl ⟨by rfl, ?hy10⟩) (by assumption) ?rest10
              case hy10 => (intro w hSw; (try dsimp only at hSw); go_simp; try with_reducible rfl)
              try simp only [Act.put, List.setIfInBounds_toArray, List.set_cons_zero, List.set_cons_succ, List.getElem_toArray, List.getElem_cons_succ, List.getElem_cons_zero]
              refine wpAnyH_take (i := 11) (v := ?v11) rfl (by kernel_rfl) (by kernel_rfl) (by kernel_rfl) (fun _ _ _ h => h) (Or.inl ⟨by rfl, ?hy11⟩) (by assumption) ?rest11
              case hy11 => (intro w hSw; (try dsimp only at hSw); go_simp; try with_reducible rfl)
              try simp only [Act.put, List.setIfInBounds_toArray, List.set_cons_zero, List.set_cons_succ, List.getElem_toArray, List.getElem_cons_succ, List.getElem_cons_zero]
              refine wpAnyH_take (i := 12) (v := ?v12) rfl (by kernel_rfl) (by kernel_rfl) (by kernel_rfl) (fun _ _ _ h => h) (Or.inl ⟨by rfl, ?hy12⟩) (by assumption) ?rest12
              case hy12 => (intro w hSw; (try dsimp only at hSw); go_simp; try with_reducible rfl)
              try simp only [Act.put, List.setIfInBounds_toArray, List.set_cons_zero, List.set_cons_succ, List.getElem_toArray, List.getElem_cons_succ, List.getElem_cons_zero]
              refine wpAnyH_take (i := 13) (v := ?v13) rfl (by kernel_rfl) (by kernel_rfl) (by kernel_rfl) (fun _ _ _ h => h) (Or.inl ⟨by rfl, ?hy13⟩) (by assumption) ?rest13
              case hy13 => (intro w hSw; (try dsimp only at hSw); go_simp; try with_reducible rfl)
              try simp only [Act.put, List.setIfInBounds_toArray, List.set_cons_zero, List.set_cons_succ, List.getElem_toArray, List.getElem_cons_succ, List.getElem_cons_zero]
              refine wpAnyH_take (i := 14) (v := ?v14) rfl (by kernel_rfl) (by kernel_rfl) (by kernel_rfl) (fun _ _ _ h => h) (Or.inl ⟨by rfl, ?hy14⟩) (by assumption) ?rest14
              case hy14 => (intro w hSw; (try dsimp only at hSw); go_simp; try with_reducible rfl)
              try simp only [Act.put, List.setIfInBounds_toArray, List.set_cons_zero, List.set_cons_succ, List.getElem_toArray, List.getElem_cons_succ, List.getElem_cons_zero]
              refine wpAnyH_take (i := 15) (v := ?v15) rfl (by kernel_rfl) (by kernel_rfl) (by kernel_rfl) (fun _ _ _ h => h) (Or.inl ⟨by rfl, ?hy15⟩) (by assumption) ?rest15
              case hy15 => (intro w hSw; (try dsimp only at hSw); go_simp; try with_reducible rfl)
              try simp only [Act.put, List.setIfInBounds_toArray, List.set_cons_zero, List.set_cons_succ, List.getElem_toArray, List.getElem_cons_succ, List.getElem_cons_zero]
              refine wpAnyH_take (i := 16) (v := ?v16) rfl (by kernel_rfl) (by kernel_rfl) (by kernel_rfl) (fun _ _ _ h => h) (Or.inl ⟨by rfl, ?hy16⟩) (by assumption) ?rest16
              case hy16 => (intro w hSw; (try dsimp only at hSw); go_simp; try with_reducible rfl)
              try simp only [Act.put, List.setIfInBounds_toArray, List.set_cons_zero, List.set_cons_succ, List.getElem_toArray, List.getElem_cons_succ, List.getElem_cons_zero]
              refine wpAnyH_take (i := 17) (v := ?v17) rfl (by kernel_rfl) (by kernel_rfl) (by kernel_rfl) (fun _ _ _ h => h) (Or.inl ⟨by rfl, ?hy17⟩) (by assumption) ?rest17
              case hy17 => (intro w hSw; (try dsimp only at hSw); go_simp; try with_reducible rfl)
              try simp only [Act.put, List.setIfInBounds_toArray, List.set_cons_zero, List.set_cons_succ, List.getElem_toArray, List.getElem_cons_succ, List.getElem_cons_zero]
              refine wpAnyH_take (i := 18) (v := ?v18) rfl (by kernel_rfl) (by kernel_rfl) (by kernel_rfl) (fun _ _ _ h => h) (Or.inl ⟨by rfl, ?hy18⟩) (by assumption) ?rest18
              case hy18 => (intro w hSw; (try dsimp only at hSw); go_simp; try with_reducible rfl)
              try simp only [Act.put, List.setIfInBounds_toArray, List.set_cons_zero, List.set_cons_succ, List.getElem_toArray, List.getElem_cons_succ, List.getElem_cons_zero]
              refine wpAnyH_take (i := 19) (v := ?v19) rfl (by kernel_rfl) (by kernel_rfl) (by kernel_rfl) (fun _ _ _ h => h) (Or.inl ⟨by rfl, ?hy19⟩) (by assumption) ?rest19
              case hy19 => (intro w hSw; (try dsimp only at hSw); go_simp; try with_reducible rfl)
              try simp only [Act.put, List.setIfInBounds_toArray, List.set_cons_zero, List.set_cons_succ, List.getElem_toArray, List.getElem_cons_succ, List.getElem_cons_zero]
              refine wpAnyH_take (i := 20) (v := ?v20) rfl (by kernel_rfl) (by kernel_rfl) (by kernel_rfl) (fun _ _ _ h => h) (Or.inl ⟨by rfl, ?hy20⟩) (by assumption) ?rest20
              case hy20 => (intro w hSw; (try dsimp only at hSw); go_simp; try with_reducible rfl)
              try simp only [Act.put, List.setIfInBounds_toArray, List.set_cons_zero, List.set_cons_succ, List.getElem_toArray, List.getElem_cons_succ, List.getElem_cons_zero]
              refine wpAnyH_take (i := 21) (v := ?v21) rfl (by kernel_rfl) (by kernel_rfl) (by kernel_rfl) (fun _ _ _ h => h) (Or.inl ⟨by rfl, ?hy21⟩) (by assumption) ?rest21
              case hy21 => (intro w hSw; (try dsimp only at hSw); go_simp; try with_reducible rfl)
              try simp only [Act.put, List.setIfInBounds_toArray, List.set_cons_zero, List.set_cons_succ, List.getElem_toArray, List.getElem_cons_succ, List.getElem_cons_zero]
              refine wpAnyH_take (i := 22) (v := ?v22) rfl (by kernel_rfl) (by kernel_rfl) (by kernel_rfl) (fun _ _ _ h => h) (Or.inl ⟨by rfl, ?hy22⟩) (by assumption) ?rest22
              case hy22 => (intro w hSw; (try dsimp only at hSw); go_simp; try with_reducible rfl)
              try simp only [Act.put, List.setIfInBounds_toArray, List.set_cons_zero, List.set_cons_succ, List.getElem_toArray, List.getElem_cons_succ, List.getElem_cons_zero]
              refine wpAnyH_take (i := 23) (v := ?v23) rfl (by kernel_rfl) (by kernel_rfl) (by kernel_rfl) (fun _ _ _ h => h) (Or.inl ⟨by rfl, ?hy23⟩) (by assumption) ?rest23
              case hy23 => (intro w hSw; (try dsimp only at hSw); go_simp; try with_reducible rfl)
              try simp only [Act.put, List.setIfInBounds_toArray, List.set_cons_zero, List.set_cons_succ, List.getElem_toArray, List.getElem_cons_succ, List.getElem_cons_zero]
              refine wpAnyH_take (i := 24) (v := ?v24) rfl (by kernel_rfl) (by kernel_rfl) (by kernel_rfl) (fun _ _ _ h => h) (Or.inl ⟨by rfl, ?hy24⟩) (by assumption) ?rest24
              case hy24 => (intro w hSw; (try dsimp only at hSw); go_simp; try with_reducible rfl)
              try simp only [Act.put, List.setIfInBounds_toArray, List.set_cons_zero, List.set_cons_succ, List.getElem_toArray, List.getElem_cons_succ, List.getElem_cons_zero]
              refine wpAnyH_take (i := 25) (v := ?v25) rfl (by kernel_rfl) (by kernel_rfl) (by kernel_rfl) (fun _ _ _ h => h) (Or.inl ⟨by rfl, ?hy25⟩) (by assumption) ?rest25
              case hy25 => (intro w hSw; (try dsimp only at hSw); go_simp; try with_reducible rfl)
              try simp only [Act.put, List.setIfInBounds_toArray, List.set_cons_zero, List.set_cons_succ, List.getElem_toArray, List.getElem_cons_succ, List.getElem_cons_zero]
              refine wpAnyH_ready (rs := [26]) (by kernel_rfl) (by simp) ?_
              refine AllReadyH.cons rfl (fun K hK => ?_) AllReadyH.nil
              go_simp
              refine hK.out _ _ ?_ (fun hHeld => ?_)
              · ((try dsimp only); simp (maxDischargeDepth := 20) [*, World.cell?_alloc_some, World.cell?_setCell_far])
              clear hK K
              try simp only [Act.put, List.setIfInBounds_toArray, List.set_cons_zero, List.set_cons_succ, List.getElem_toArray, List.getElem_cons_succ, List.getElem_cons_zero]
              refine wpAnyH_ready (rs := [27]) (by kernel_rfl) (by simp) ?_
              refine AllReadyH.cons rfl (fun K hK => ?_) AllReadyH.nil
              go_simp
              refine (KBs.out _).mono ?_
              rintro e w5 ⟨rfl, hb5⟩
              have hd5 : Below wr.heap.size wr w5 := (Below.refl wr.heap.size wr).drew.trans hb5
              have S5 := HSx.out.keep hd5
              have o1 := S5.l.outer hv'
              have o2 := S5.p.outer hlk
              have li := S5.l.inner hv' hu'
              have lpi := S5.p.inner hlk hla
              rw [HOWN.out] at li
              rw [HQ.out] at lpi
              obtain ⟨⟨l0, l1, l2, l3⟩, f0, f1, f2, f3⟩ := li
              obtain ⟨⟨p0, p1, p2, p3⟩, -⟩ := lpi
              go_simp
              refine hK.out _ _ ?_ (fun hHeld => ?_)
              · ((try dsimp only); simp (maxDischargeDepth := 20) [*, World.cell?_alloc_some, World.cell?_setCell_far])
              clear hK K
              try simp only [Act.put, List.setIfInBounds_toArray, List.set_cons_zero, List.set_cons_succ, List.getElem_toArray, List.getElem_cons_succ, List.getElem_cons_zero]
              refine wpAnyH_take (i := 28) (v := ?v28) rfl (by kernel_rfl) (by kernel_rfl) (by kernel_rfl) (fun _ _ _ h => h) (Or.inl ⟨by rfl, ?hy28⟩) (by assumption) ?rest28
              case hy28 => (intro w hSw; (try dsimp only at hSw); go_simp; try with_reducible rfl)
              try simp only [Act.put, List.setIfInBounds_toArray, List.set_cons_zero, List.set_cons_succ, List.getElem_toArray, List.getElem_cons_succ, List.getElem_cons_zero]
              refine wpAnyH_ready (rs := [29]) (by kernel_rfl) (by simp) ?_
              refine AllReadyH.cons rfl (fun K hK => ?_) AllReadyH.nil
              go_simp
              refine hK.out _ _ ?_ (fun hHeld => ?_)
              · ((try dsimp only); simp (maxDischargeDepth := 20) [*, World.cell?_alloc_some, World.cell?_setCell_far])
              clear hK K
              try simp only [Act.put, List.setIfInBounds_toArray, List.set_cons_zero, List.set_cons_succ, List.getElem_toArray, List.getElem_cons_succ, List.getElem_cons_zero]
              refine wpAnyH_done (by kernel_rfl) ?_ _
              refine NoPanic.normal ?_
              go_wp2_with fail
              go_roundw
              case rel =>
                have S6 := S5.put hBm hu' hv' hblv ⟨y0, y1, y2, y3⟩ HN.out
                exact ⟨a + 1, by omega, by go_num, by first | exact S6 | exact S6.keep (Below.refl _ _).drew⟩
              case measure => simp [intOf]; omega
        · have haP : a = PW := by omega
          have HSx := hide (⟨hS.below, hS.m, hS.r, hS.l.congr fun a' i' h1 h2 => by rw [haP, Nat.add_mul, Nat.one_mul], hS.p⟩ : LayS w wr Bm Bp W H PW PH A l.length cap (layN f l lp W PW PH x y ((k + 1) * PW)) (imgPx lp PW) g c bl ci g2 c2 bl2 ci2)
          clear hS
          go_wp2_with fail
          go_roundw
          case rel => exact ⟨k + 1, by omega, by go_num, HSx.out⟩
          case measure => simp [intOf]; omega
    · have hkP : k = PH := by omega
      have hro : RowsAt wr wr.heap.size (some ⟨g, 0, none⟩) (grid (layPx f l lp W PW PH x y) W H) := (hS.l.congr fun a i _ _ => by rw [hkP, layN_all]).rows
      have HRO := hide hro
      have HB := hide hS.below
      have HR := hide hS.r
      clear hS hro
      go_wp2_with (go_at_call 55; (with_reducible refine (K3.out _ _ _ HRO.out).mono ?_); rintro e x1 ⟨A', cap', rfl, him, hx1⟩; obtain ⟨r0, r1, r2, f0, f1, f2⟩ := blk3 (HR.out.below hx1 HR.out.lt); have lr := (HR.out.below hx1 HR.out.lt).lt; have HI := hide him; have HX := hide hx1; clear him hx1)
      have hbs := HB.out.size
      refine bodyPost_ret (v := imgV W H A' bs.length cap') (by simp [results, Try.results76, go_sem, lr, r0, r1, r2]) rfl ⟨A', cap', rfl, ?_, ?_⟩
      · have := HR.out.lt
        exact (((HI.out.set _ _ (by omega) _).set _ _ (by omega) _).set _ _ (by omega) _).less (by omega)
      · exact bset (bset (bset (bstep HB.out HX.out) _ _ (by omega) _) _ _ (by omega) _) _ _ (by omega) _
end Go.Proofs.Ytkjnheikimpliaa
