/- The law CmpCounts. -/
import Derived.Test.YtkjnheikimpliaaHistC
import Derived.Test.YtkjnheikimpliaaLawDithB
import Derived.Test.YtkjnheikimpliaaCmpD
namespace Go.Proofs.Ytkjnheikimpliaa
set_option linter.unusedVariables false
set_option linter.unusedSimpArgs false
open Go.RowKit
attribute [local go_sem ↓] Go.wp_at_zero Go.wp_at_succ

set_option maxRecDepth 100000 in
set_option maxHeartbeats 4000000 in
theorem cc_big (x y : Int) (A : Option Addr) (l : List Int) (cap : Nat) (ch : Int) (c : Col) (w : World) (h : 600 < l.length) : Calls Try.prog 7 #[imgV x y A l.length cap, .int .i64 ch, colV c] w fun e w' => e = .returned (.bool true) ∧ Below w.heap.size w w' := by
  have d1 : decide ((600 : Int) < l.length) = true := by simp; omega
  clear h
  go_enter Try.func7, Try.ntmps7
  go_wp2_with (go_at_call 34; (with_reducible refine (awake35 _).mono ?_); rintro e w2 ⟨rfl, hb2⟩)
  go_ret
  exact ⟨rfl, bstep (balloc (below_alloc w _) _) hb2⟩

set_option maxRecDepth 100000 in
set_option maxHeartbeats 8000000 in
theorem cc_no (x y : Int) (A : Option Addr) (l : List Int) (cap : Nat) (ch : Int) (c : Col) (w : World) (hs : ¬ 600 < l.length) (hP : ¬ rightI x y l.length) (hc : c.ok) : Calls Try.prog 7 #[imgV x y A l.length cap, .int .i64 ch, colV c] w fun e w' => e = .returned (.bool true) ∧ Below w.heap.size w w' := by
  have s1 : decide ((600 : Int) < l.length) = false := by simp; omega
  have KH := hide fun (w' : World) => hist_no hP A cap ch w'
  have KA := hide (refRight_no hP A cap)
  have KC := hide fun (w' : World) => count_is c hc w' (countsAt_no hP A cap l w')
  have KD := hide fun (w' : World) => colors_is w' (countsAt_no hP A cap l w')
  have e0 : cntN l c 0 = 0 := rfl
  have e1 : dcN l 0 = 0 := rfl
  rw [e0] at KC
  rw [e1] at KD
  have hz37 := zero37
  have hb37 := build37
  have hq37 := equal37 (fun _ => 0)
  clear hs hP hc e0 e1
  go_enter Try.func7, Try.ntmps7
  go_wp2_with (first | (go_at_call 35; (with_reducible refine (KH.out _).mono ?_); rintro e w1 ⟨rfl, hb1⟩; obtain ⟨B1, B2, hz, HW⟩ := own2 hb1; have HB1 := hide B1; have HB2 := hide B2; have HWW := hide HW; obtain ⟨a0, a1, a2, -⟩ := blk3 (B1.alloc (.cells (histA fun _ => 0) 37)); clear hb1 B1 B2 HW) | (refine wpList_store_row rfl 37 _ _ rfl w1.heap.size _ rfl rfl 37 _ (heap_alloc_new w1 _) (size37 _) (sizes37 _ _) (one37 _) ?_; rw [World.setRow_alloc_new]) | (go_at_call 36; (with_reducible refine (KA.out _).mono ?_); rintro e w2 ⟨rfl, hb2⟩; clear a0 a1 a2; have BH : Blk w2 w1.heap.size 37 (histA fun _ => 0) := (Blk.new w1 37 (histA fun _ => 0)).below hb2 (by simp); have HH := hide (bstep (balloc HWW.out _) hb2); have B1 := (HB1.out.alloc (.cells (histA fun _ => 0) 37)).below hb2 (by simp; omega); have B2 := (HB2.out.alloc (.cells (histA fun _ => 0) 37)).below hb2 (by simp; omega); obtain ⟨a0, a1, a2, -⟩ := blk3 B1; obtain ⟨b0, b1, b2, b3, -⟩ := blk4 B2; have HBA := hide B1; clear hb2 B1 B2) | (refine wpList_load_row rfl 37 _ rfl w1.heap.size rfl 37 _ (0, 0) _ BH Try.underlying37 rfl (size37 _) ?_) | (go_at_call 37; (with_reducible refine (KC.out _).mono ?_); rintro e w3 ⟨rfl, hb3⟩; obtain ⟨a0, a1, a2, -⟩ := blk3 (HBA.out.below hb3 HBA.out.lt)) | (go_at_call 38; (with_reducible refine (KD.out _).mono ?_); rintro e w4 ⟨rfl, hb4⟩) | (go_at_call 34; (with_reducible refine (awake35 _).mono ?_); rintro e w5 ⟨rfl, hb5⟩))
  go_ret
  exact ⟨rfl, bstep (bstep (bstep HH.out hb3) hb4) hb5⟩

set_option maxRecDepth 100000 in
set_option maxHeartbeats 16000000 in
theorem cc_yes (W H : Nat) (A : Option Addr) (l : List Int) (cap : Nat) (ch : Int) (c : Col) (w : World) (hs : ¬ 600 < l.length) (hR : rightI W H l.length) (hr : RowAt w w.heap.size .u8 A l) (hcap : l.length ≤ cap) (hu : U8s l) (hc : c.ok) : Calls Try.prog 7 #[imgV W H A l.length cap, .int .i64 ch, colV c] w fun e w' => e = .returned (.bool true) ∧ Below w.heap.size w w' := by
  have s1 : decide ((600 : Int) < l.length) = false := by simp; omega
  have hX : 1 ≤ W ∧ W ≤ 16384 := by have := hR.1; omega
  have hY : 1 ≤ H ∧ H ≤ 16384 := by have := hR.2.1; omega
  have hWH : W * H ≤ 268435456 := Nat.le_trans (Nat.mul_le_mul hX.2 hY.2) (by decide)
  have KH : ∃ (fh : Nat → Int) (eh : Int), (∀ w' : World, Below w.heap.size w w' → Calls Try.prog 35 #[imgV W H A l.length cap, .int .i64 ch] w' fun e w'' => e = .returned (.tuple #[.agg (histA fh), .int .i64 eh]) ∧ Below w'.heap.size w' w'') ∧
      (((ch < 0 ∨ (0 ≤ ch ∧ 3 < ch)) ∧ fh = (fun _ => 0) ∧ eh = 2) ∨ (0 ≤ ch ∧ ch ≤ 3 ∧ fh = wF l ch (W * H) ∧ eh = 0)) := by
    by_cases h : 0 ≤ ch ∧ ch ≤ 3
    · obtain ⟨n, rfl⟩ := Int.eq_ofNat_of_zero_le h.1
      refine ⟨hF l n (W * H), 0, fun w' hw => ?_, .inr ⟨by omega, by omega, by rw [wF_hF l n (by omega)], rfl⟩⟩
      exact hist_yes W H A l cap n (by omega) w' hR ((hr.below hw (Nat.le_refl _)).more hw.size) hcap hu
    · exact ⟨fun _ => 0, 2, fun w' hw => hist_range hR A cap ch (by omega) w', .inl ⟨by omega, rfl, rfl⟩⟩
  obtain ⟨fh, eh, hKH, hfe⟩ := KH
  have KH := hide hKH
  have HFE := hide hfe
  have KA := hide (refRight_yes hR A cap)
  have KX := hide fun (x y : Nat) (hx : x < W) (hy : y < H) (o : Col) (ho : o = imgPx l W x y) (w' : World) (hw : RowAt w' w'.heap.size .u8 A l) => (pix_is W H A l cap x y w' hR hw hx hy o ho).mono (R' := fun e w'' => e = .returned (colV o) ∧ Below w'.heap.size w' w'') (by
    rintro e w'' ⟨rfl, rfl⟩
    exact ⟨rfl, (balloc (below_alloc w' _) _).drew⟩)
  have KC := hide fun (w' : World) (hw : Below w.heap.size w w') => count_is c hc w' (countsAt_yes W H A l cap w' hR ((hr.below hw (Nat.le_refl _)).more hw.size) hcap hu)
  have KD := hide fun (w' : World) (hw : Below w.heap.size w w') => colors_is w' (countsAt_yes W H A l cap w' hR ((hr.below hw (Nat.le_refl _)).more hw.size) hcap hu)
  have KE := hide fun (w' : World) (hw : Below w.heap.size w w') => refColors_any W H A l cap w' hR ((hr.below hw (Nat.le_refl _)).more hw.size)
  have mW : IntKind.i64.wrap ((W : Int) * (H : Int)) = ((W * H : Nat) : Int) := by
    have e : (W : Int) * (H : Int) = ((W * H : Nat) : Int) := by simp
    rw [e]; exact IntWalk.i64_in _ (by omega)
  obtain ⟨N, hN⟩ : ∃ N, N = W * H := ⟨_, rfl⟩
  rw [← hN] at mW hWH KC KD KE HFE
  have HN := hide hN
  have HR0 := hide hr
  have HU := hide hu
  have HC := hide hc
  have hz37 := zero37
  have hb37 := build37
  clear hs hR hr hcap hu hc hN hKH hfe
  go_enter Try.func7, Try.ntmps7
  go_wp2_with (first | (go_at_call 35; (with_reducible refine (KH.out _ (balloc (below_alloc w _) _)).mono ?_); rintro e w1 ⟨rfl, hb1⟩; obtain ⟨B1, B2, hz, HW⟩ := own2 hb1; have HB1 := hide B1; have HB2 := hide B2; have HWW := hide HW; obtain ⟨a0, a1, a2, -⟩ := blk3 (B1.alloc (.cells (histA fh) 37)); clear hb1 B1 B2 HW) | (refine wpList_store_row rfl 37 _ _ rfl w1.heap.size _ rfl rfl 37 _ (heap_alloc_new w1 _) (size37 _) (sizes37 _ _) (one37 _) ?_; rw [World.setRow_alloc_new]) | (go_at_call 36; (with_reducible refine (KA.out _).mono ?_); rintro e w2 ⟨rfl, hb2⟩; clear a0 a1 a2; have BH := hide ((Blk.new w1 37 (histA fh)).below hb2 (by simp)); have HH := hide (bstep (balloc HWW.out _) hb2); have P0 : Pic w2 w.heap.size W H A l cap := ⟨(HB1.out.alloc (.cells (histA fh) 37)).below hb2 (by simp; omega), (HR0.out.below HH.out (Nat.le_refl _)).more HH.out.size⟩; have B2 := (HB2.out.alloc (.cells (histA fh) 37)).below hb2 (by simp; omega); have PH := hide P0; have HBC := hide B2; obtain ⟨a0, a1, a2⟩ := P0.cells; obtain ⟨a0A, a1A, a2A⟩ := P0.cellsA; clear hb2 B2 P0 HB1 HB2 HWW))
  obtain ⟨V, rfl⟩ : ∃ V : World, V = w2 := ⟨_, rfl⟩
  clear a0 a1 a2 a0A a1A a2A KA KH
  have hpz := PH.out.blk.lt
  have hcz := HBC.out.lt
  have hhz := BH.out.lt
  have BW0 := hide (Blk.new V 37 (histA fun _ => 0))
  go_loopw [53, 9] (fun i v wr => ∃ k : Nat, k ≤ N ∧ i = .int .i64 k ∧ v = .int .i64 (cntN l c k : Nat) ∧ Blk wr V.heap.size 37 (histA (wF l ch k)) ∧ Below V.heap.size V wr) (fun i _ _ => N - (intOf i).toNat)
  case atStart => exact ⟨0, Nat.zero_le _, rfl, rfl, BW0.out, below_alloc V _⟩
  case round =>
    obtain ⟨k, hk, rfl, rfl, hbw, hb⟩ := hrel
    by_cases hlt : k < N
    · have hx : k % W < W := Nat.mod_lt _ (by omega)
      have hy : k / W < H := Nat.div_lt_of_lt_mul (by rw [← HN.out]; exact hlt)
      have em : (k : Int).tmod (W : Int) = ((k % W : Nat) : Int) := tmod_nat k W
      have ed : (k : Int).tdiv (W : Int) = ((k / W : Nat) : Int) := tdiv_nat k W
      obtain ⟨o, hoe⟩ : ∃ o, o = imgPx l W (k % W) (k / W) := ⟨_, rfl⟩
      have hpx : pix l k = o := by
        rw [hoe]; unfold imgPx
        rw [Nat.mul_comm, Nat.div_add_mod]
      have hook : o.ok := by rw [hoe]; exact imgPx_ok HU.out _ _ _
      have hwF : wF l ch (k + 1) = bump (wF l ch k) (chI o ch).toNat := by rw [← hpx]; rfl
      have hcn : cntN l c (k + 1) = cntN l c k + if o = c then 1 else 0 := by rw [← hpx]; rfl
      have hcr := chI_ok hook ch
      obtain ⟨j, hjv⟩ := Int.eq_ofNat_of_zero_le hcr.1
      have hj : j < 256 := by omega
      have hjr0 : (0 : Int) ≤ (j : Int) := Int.natCast_nonneg _
      have hjr : (j : Int) < 256 := by omega
      have KL := hide (refChannel_any o ch)
      rw [hjv] at KL hwF
      simp only [Int.toNat_natCast] at hwF
      have ew : IntKind.i64.wrap (wF l ch k j + 1) = wF l ch k j + 1 := IntWalk.i64_in _ (by have := wF_le l ch k j; omega)
      have hcl := cntN_le l c k
      have ec : IntKind.i64.wrap ((cntN l c k : Int) + 1) = (cntN l c k : Int) + 1 := IntWalk.i64_in _ (by omega)
      have HWF := hide hwF
      have HCN := hide hcn
      generalize k % W = x at hx em hoe
      generalize k / W = y at hy ed hoe
      have hW0 : ¬ ((W : Int) = 0) := by omega
      have hW1 : ¬ (W = 0) := by omega
      have ey : IntKind.i64.wrap (y : Int) = (y : Int) := IntWalk.i64_in _ (by omega)
      have hP := PH.out.below hb
      have hBC := HBC.out.below hb hcz
      obtain ⟨a0, a1, a2⟩ := hP.cells
      obtain ⟨Z, rfl⟩ : ∃ Z : World, Z = wr := ⟨_, rfl⟩
      have KX1 := hide fun (w' : World) (hb : Below Z.heap.size Z w') => (KX.out x y hx hy o hoe w' ((hP.row.below hb (Nat.le_refl _)).more hb.size)).mono (R' := fun e w'' => e = .returned (colV o) ∧ Below w'.heap.size w' w'' ∧ Below Z.heap.size Z w'') (fun e w'' h => ⟨h.1, h.2, bstep' hb h.2 hb.size⟩)
      have HPZ := hide hP
      have HBCZ := hide hBC
      have HBWZ := hide hbw
      have HBZ := hide hb
      have hsz := hb.size
      have hwz := hbw.lt
      have n4 : ¬ w.heap.size = Z.heap.size := by omega
      have n7 : ¬ Z.heap.size = w.heap.size := by omega
      clear hP hBC hbw hb hoe hpx hwF hcn hcr hjv hook
      go_upto_region 12 with fail
      go_cut [12] (fun s wx => ∃ P, s = .pointer (some ⟨P, 0, none⟩) ∧ Z.heap.size ≤ P ∧ Below Z.heap.size Z wx ∧ Cl4 wx P o)
      case first =>
        clear HWF HCN KL ew ec HBCZ HBWZ HFE
        (go_region_held3 (fun w' => w'.cell? ⟨w.heap.size, 0, none⟩ = some (.int .i64 (W : Int)) ∧ w'.cell? ⟨w.heap.size, 1, none⟩ = some (.int .i64 (H : Int)) ∧ w'.cell? ⟨w.heap.size, 2, none⟩ = some (.slice A l.length cap)) (simp (maxDischargeDepth := 20) [*, World.cell?_alloc_some, World.cell?_setCell_far]) (first | (go_at_call 39; (with_reducible refine (KX1.out _ (by (repeat (first | (with_reducible exact Below.refl _ _) | (with_reducible apply Below.drew) | (with_reducible refine balloc ?_ _))))).mono ?_); rintro e w2 ⟨rfl, hb2, hd⟩; have hq : Blk w2 Z.heap.size 36 #[.int .u8 0, .int .u8 0, .int .u8 0, .int .u8 0] := Blk.below (by first | exact Blk.new Z 36 _ | exact Blk.same (Blk.new Z 36 _) rfl | exact Blk.new' Z.drew 36 _ _ rfl) hb2 (by simp [World.drew]); have HQ2 := hide ((((hq.set_ 0 (.int .u8 o.r)).set_ 1 (.int .u8 o.g)).set_ 2 (.int .u8 o.b)).set_ 3 (.int .u8 o.a)); obtain ⟨v0, v1, v2, v3, z0, z1, z2, z3⟩ := blk4 hq; have hz := hd.size; obtain ⟨a0, a1, a2⟩ := (HPZ.out.below hd).cells; have n1 : ¬ w.heap.size = w2.heap.size := (by omega); have n2 : ¬ w2.heap.size = w.heap.size := (by omega); have lq : Z.heap.size < w2.heap.size := hq.lt) | (go_at_call 39; (with_reducible refine (KX1.out _ (by (repeat (first | (with_reducible exact Below.refl _ _) | (with_reducible apply Below.drew) | (with_reducible refine balloc ?_ _))))).mono ?_); rintro e w2 ⟨rfl, hb2, hd⟩; have hz := hd.size; obtain ⟨a0, a1, a2⟩ := (HPZ.out.below hd).cells; have n1 : ¬ w.heap.size = w2.heap.size := (by omega); have n2 : ¬ w2.heap.size = w.heap.size := (by omega))))
        all_goals
          go_wp2_with fail
          go_meet
          clear KX1
          first
            | (refine ⟨_, rfl, Nat.le_refl _, ?_, ⟨by first | exact lq | (simp; exact lq), HQ2.out.cell 0, HQ2.out.cell 1, HQ2.out.cell 2, HQ2.out.cell 3⟩⟩
               repeat (first | (with_reducible exact hd) | (with_reducible apply Below.drew) | (with_reducible refine bset ?_ _ _ (Nat.le_refl _) _) | (with_reducible refine balloc ?_ _)))
            | (refine ⟨_, rfl, hd.size, ?_, ⟨?_, ?_, ?_, ?_, ?_⟩⟩
               · repeat (first | (with_reducible exact hd) | (with_reducible apply Below.drew) | (with_reducible refine balloc ?_ _))
               all_goals first | (simp (maxDischargeDepth := 20) [World.cell?_alloc_some, World.cell?_alloc_at]; done) | (simp; omega))
      case rest =>
        obtain ⟨P, rfl, hPV, hV, hP4⟩ := hcut
        obtain ⟨U, rfl⟩ : ∃ U : World, U = wc := ⟨_, rfl⟩
        obtain ⟨c0, c1, c2, c3⟩ : U.cell? ⟨P, 0, none⟩ = some (.int .u8 o.r) ∧ U.cell? ⟨P, 1, none⟩ = some (.int .u8 o.g) ∧ U.cell? ⟨P, 2, none⟩ = some (.int .u8 o.b) ∧ U.cell? ⟨P, 3, none⟩ = some (.int .u8 o.a) := ⟨hP4.c0, hP4.c1, hP4.c2, hP4.c3⟩
        obtain ⟨b0, b1, b2, b3, -⟩ := blk4 (HBCZ.out.below hV HBCZ.out.lt)
        have HWU := hide (HBWZ.out.below hV HBWZ.out.lt)
        have HBU := hide (bstep' HBZ.out hV hsz)
        clear a0 a1 a2 KX1 hV hP4 em ed ey HPZ HBCZ HBWZ HBZ
        by_cases he : o = c
        · have e4 : o.r = c.r ∧ o.g = c.g ∧ o.b = c.b ∧ o.a = c.a := by rw [he]; exact ⟨rfl, rfl, rfl, rfl⟩
          have q1 : (o.r == c.r) = true := by simpa using e4.1
          have q2 : (o.g == c.g) = true := by simpa using e4.2.1
          have q3 : (o.b == c.b) = true := by simpa using e4.2.2.1
          have q4 : (o.a == c.a) = true := by simpa using e4.2.2.2
          have hcn := HCN.out
          rw [if_pos he] at hcn
          have HC1 := hide hcn
          clear e4 he hcn
          go_wp2_with (go_at_call 40; (with_reducible refine (KL.out _).mono ?_); rintro e w5 ⟨rfl, hb5⟩; have hB5 := bstep HBU.out hb5; have HW5 := hide (HWU.out.below hb5 HWU.out.lt); have hcell : w5.cell? ⟨V.heap.size, j, none⟩ = some (.int .i64 (wF l ch k j)) := (HW5.out.cell j).trans (histA_at _ j hj); have hfr := HW5.out.frozen j; have HB5 := hide hB5; clear hB5 hb5)
          have hB6 : Blk (w5.setCell ⟨V.heap.size, j, none⟩ (.int .i64 (wF l ch k j + 1))) V.heap.size 37 (histA (wF l ch (k + 1))) := by
            have h := HW5.out.set_ j (.int .i64 (wF l ch k j + 1))
            rw [histA_set _ j hj] at h
            rw [HWF.out]
            exact h
          have HB6 := hide hB6
          clear hB6
          go_roundw
          case rel => exact ⟨k + 1, by omega, by go_num, by rw [HC1.out]; simp, HB6.out, bset HB5.out _ _ (Nat.le_refl _) _⟩
          case measure => simp [intOf]; omega
        · have hcn := HCN.out
          rw [if_neg he] at hcn
          have HC1 := hide hcn
          have hq : (o.r == c.r) = false ∨ ((o.r == c.r) = true ∧ (o.g == c.g) = false) ∨ ((o.r == c.r) = true ∧ (o.g == c.g) = true ∧ (o.b == c.b) = false) ∨ ((o.r == c.r) = true ∧ (o.g == c.g) = true ∧ (o.b == c.b) = true ∧ (o.a == c.a) = false) := by
            cases h1 : (o.r == c.r) <;> cases h2 : (o.g == c.g) <;> cases h3 : (o.b == c.b) <;> cases h4 : (o.a == c.a) <;> simp
            exact he (by cases o; cases c; simp at h1 h2 h3 h4; simp [h1, h2, h3, h4])
          clear he hcn
          rcases hq with q1 | ⟨q1, q2⟩ | ⟨q1, q2, q3⟩ | ⟨q1, q2, q3, q4⟩
          all_goals
            go_wp2_with (go_at_call 40; (with_reducible refine (KL.out _).mono ?_); rintro e w5 ⟨rfl, hb5⟩; have hB5 := bstep HBU.out hb5; have HW5 := hide (HWU.out.below hb5 HWU.out.lt); have hcell : w5.cell? ⟨V.heap.size, j, none⟩ = some (.int .i64 (wF l ch k j)) := (HW5.out.cell j).trans (histA_at _ j hj); have hfr := HW5.out.frozen j; have HB5 := hide hB5; clear hB5 hb5)
            have hB6 : Blk (w5.setCell ⟨V.heap.size, j, none⟩ (.int .i64 (wF l ch k j + 1))) V.heap.size 37 (histA (wF l ch (k + 1))) := by
              have h := HW5.out.set_ j (.int .i64 (wF l ch k j + 1))
              rw [histA_set _ j hj] at h
              rw [HWF.out]
              exact h
            have HB6 := hide hB6
            clear hB6
            go_roundw
            case rel => exact ⟨k + 1, by omega, by go_num, by rw [HC1.out]; simp, HB6.out, bset HB5.out _ _ (Nat.le_refl _) _⟩
            case measure => simp [intOf]; omega
    · have hkN : k = N := by omega
      subst hkN
      have BW := hide hbw
      have HBV := hide hb
      have hP := PH.out.below hb
      have hBC := HBC.out.below hb hcz
      obtain ⟨a0, a1, a2⟩ := hP.cells
      obtain ⟨b0, b1, b2, b3, -⟩ := blk4 hBC
      have HPZ := hide hP
      have HBCZ := hide hBC
      have hsz := hb.size
      obtain ⟨Z, rfl⟩ : ∃ Z : World, Z = wr := ⟨_, rfl⟩
      have hd0 : Below Z.heap.size Z Z.drew := (Below.refl _ _).drew
      have HZ := hide (bstep HH.out hb)
      have BHZ := hide (BH.out.below hb hhz)
      clear hP hBC hbw hb KX
      have nn1 : ((cntN l c k : Int) != (cntN l c k : Int)) = false := by simp
      have nn2 : ((dcN l k : Int) != (dcN l k : Int)) = false := by simp
      go_upto_region 18 with (first | (go_region_held3 (fun w' => w'.cell? ⟨w.heap.size, 0, none⟩ = some (.int .i64 (W : Int)) ∧ w'.cell? ⟨w.heap.size, 1, none⟩ = some (.int .i64 (H : Int)) ∧ w'.cell? ⟨w.heap.size, 2, none⟩ = some (.slice A l.length cap) ∧ w'.cell? ⟨w.heap.size + 1, 0, none⟩ = some (.int .u8 c.r) ∧ w'.cell? ⟨w.heap.size + 1, 1, none⟩ = some (.int .u8 c.g) ∧ w'.cell? ⟨w.heap.size + 1, 2, none⟩ = some (.int .u8 c.b) ∧ w'.cell? ⟨w.heap.size + 1, 3, none⟩ = some (.int .u8 c.a)) (go_keep) (first | (go_at_call 37; (with_reducible refine (KC.out _ (bstep HZ.out hd0)).mono ?_); rintro e v1 ⟨rfl, hv1⟩; have hd1 := hd0.trans hv1; obtain ⟨a0, a1, a2⟩ := (HPZ.out.below hd1).cells; obtain ⟨b0, b1, b2, b3, -⟩ := blk4 (HBCZ.out.below hd1 HBCZ.out.lt)) | (go_at_call 38; (with_reducible refine (KD.out _ (bstep HZ.out hd1)).mono ?_); rintro e v2 ⟨rfl, hv2⟩; have hd2 := bstep hd1 hv2; obtain ⟨a0, a1, a2⟩ := (HPZ.out.below hd2).cells; obtain ⟨b0, b1, b2, b3, -⟩ := blk4 (HBCZ.out.below hd2 HBCZ.out.lt)) | (go_at_call 41; (with_reducible refine (KE.out _ (bstep HZ.out hd2)).mono ?_); rintro e v3 ⟨rfl, hv3⟩; have hd3 := bstep hd2 hv3; obtain ⟨a0, a1, a2⟩ := (HPZ.out.below hd3).cells; obtain ⟨b0, b1, b2, b3, -⟩ := blk4 (HBCZ.out.below hd3 HBCZ.out.lt)))))
      have BHv := BHZ.out.below hd3 BHZ.out.lt
      have BWv := BW.out.below hd3 BW.out.lt
      have HFIN := hide (bstep HZ.out hd3)
      clear hd0 hd1 hd2 hd3 hv1 hv2 hv3 a0 a1 a2 b0 b1 b2 b3 HPZ HBCZ HZ
      rcases HFE.out with ⟨hch, rfl, rfl⟩ | ⟨h0, h1, rfl, rfl⟩
      · have hq37 := equal37 (fun _ => 0)
        rcases hch with h0 | ⟨h0, h1⟩
        all_goals
          go_wp2_with (first | (refine wpList_load_row rfl 37 _ rfl w1.heap.size rfl 37 _ (0, 0) _ BHv Try.underlying37 rfl (size37 _) ?_) | (go_at_call 34; (with_reducible refine (awake35 _).mono ?_); rintro e v5 ⟨rfl, hb5⟩))
          go_ret
          exact ⟨rfl, bstep HFIN.out hb5⟩
      · have hq37 := equal37 (wF l ch k)
        go_wp2_with (first | (refine wpList_load_row rfl 37 _ rfl w1.heap.size rfl 37 _ (0, 0) _ BHv Try.underlying37 rfl (size37 _) ?_) | (refine wpList_load_row rfl 37 _ rfl V.heap.size rfl 37 _ (0, 0) _ BWv Try.underlying37 rfl (size37 _) ?_) | (go_at_call 34; (with_reducible refine (awake35 _).mono ?_); rintro e v5 ⟨rfl, hb5⟩))
        go_ret
        exact ⟨rfl, bstep HFIN.out hb5⟩

theorem cmpCounts_law (w : World) (x y : Int) (A : Option Addr) (l : List Int) (cap : Nat) (_ : I64 x) (_ : I64 y) (hr : RowAt w w.heap.size .u8 A l) (hu : U8s l) (hm : l.length ≤ maxLen) (hcap : l.length ≤ cap) (ch : Int) (_ : I64 ch) (c : Col) (hc : c.ok) :
    Calls Try.prog 7 #[imgV x y A l.length cap, .int .i64 ch, colV c] w fun e w' => e = .returned (.bool true) ∧ Below w.heap.size w w' := by
  by_cases h : 600 < l.length
  · exact cc_big x y A l cap ch c w h
  by_cases hR : rightI x y l.length
  · have hx := hR.1.1
    have hy := hR.2.1.1
    obtain ⟨W, rfl⟩ := Int.eq_ofNat_of_zero_le (show 0 ≤ x by omega)
    obtain ⟨H, rfl⟩ := Int.eq_ofNat_of_zero_le (show 0 ≤ y by omega)
    exact cc_yes W H A l cap ch c w h hR hr hcap hu hc
  · exact cc_no x y A l cap ch c w h hR hc
end Go.Proofs.Ytkjnheikimpliaa
