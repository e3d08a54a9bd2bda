/- quant.Numbers: walked. -/
import Derived.Test.YtkjnheikimpliaaKeys
import Derived.Test.YtkjnheikimpliaaLawDithB
import Derived.Test.YtkjnheikimpliaaLayD
namespace Go.Proofs.Ytkjnheikimpliaa
set_option linter.unusedVariables false
set_option linter.unusedSimpArgs false
open Go.RowKit
attribute [local go_sem ↓] Go.wp_at_zero Go.wp_at_succ

theorem int_info : (Try.prog.info? 3).map (fun i => (i.zero, i.size, i.bytes)) = some (some (.int .i64 0), 1, 8) := by kernel_rfl
set_option maxHeartbeats 1000000 in
theorem numbers_size {x y : Int} {n : Nat} (h : ¬ rightI x y n) (A Ac : Option Addr) (cap m capc : Nat) (w : World) :
    Calls Try.prog 81 #[imgV x y A n cap, .slice Ac m capc] w fun e w' => e = .returned (.tuple #[.slice none 0 0, .int .i64 11]) ∧ Below w.heap.size w w' := by
  have K1 := hide (right_no h A cap)
  clear h
  go_enter Try.func81, Try.ntmps81
  go_wp2_with (go_at_call 94; (with_reducible refine (K1.out _).mono ?_); rintro e w1 ⟨rfl, hb1⟩; obtain ⟨B1, hz, HW⟩ := own1 hb1; clear hb1)
  exact bodyPost_ret (v := .tuple #[.slice none 0 0, .int .i64 11]) (by simp [results, Try.results81, go_sem]) rfl ⟨rfl, HW⟩
set_option maxHeartbeats 1000000 in
theorem numbers_none {x y : Int} {n : Nat} (h : rightI x y n) (A Ac : Option Addr) (cap capc : Nat) (w : World) :
    Calls Try.prog 81 #[imgV x y A n cap, .slice Ac 0 capc] w fun e w' => e = .returned (.tuple #[.slice none 0 0, .int .i64 8]) ∧ Below w.heap.size w w' := by
  have K1 := hide (right_yes h A cap)
  clear h
  go_enter Try.func81, Try.ntmps81
  go_wp2_with (go_at_call 94; (with_reducible refine (K1.out _).mono ?_); rintro e w1 ⟨rfl, hb1⟩; obtain ⟨B1, hz, HW⟩ := own1 hb1; clear hb1)
  exact bodyPost_ret (v := .tuple #[.slice none 0 0, .int .i64 8]) (by simp [results, Try.results81, go_sem]) rfl ⟨rfl, HW⟩

/-- Which of the colours is nearest to a pixel. -/
def pxNear (l : List Int) (W : Nat) (cs : List Col) (k : Nat) : Nat := nearN cs (imgPx l W (k % W) (k / W)) cs.length
def nearL (l : List Int) (W : Nat) (cs : List Col) (k : Nat) : List Value := (List.range k).map fun i => .int .i64 (pxNear l W cs i : Nat)
theorem nearL_succ (l : List Int) (W : Nat) (cs : List Col) (k : Nat) : nearL l W cs (k + 1) = nearL l W cs k ++ [.int .i64 (pxNear l W cs k : Nat)] := by simp [nearL, List.range_succ]
/-- What the map of what is known says: each colour in it has its nearest. -/
def NearD (cs : List Col) (D : DataW Unit) : Prop := ∀ c : Col, c.ok → Maps.has D (colK c) = true → D.atKey (colK c) (.lit (.int .i64 0)) = .lit (.int .i64 (nearN cs c cs.length : Nat))
theorem NearD.put {cs : List Col} {D : DataW Unit} (h : NearD cs D) (hD : Maps.IsMap D) {o : Col} (ho : o.ok) : NearD cs (D.put (colK o) (.lit (.int .i64 (nearN cs o cs.length : Nat)))) := fun c hc hh => by
  by_cases he : c = o
  · subst he
    exact Maps.atKey_put_same hD (law36.key (keyCol hc)) _ _
  · have hne := colK_ne hc ho he
    rw [Maps.has_put_other hne] at hh
    rw [Maps.atKey_put_other hne]
    exact h c hc hh

theorem map_below {w w' : World} {R : Value → Option (DataW Unit × List MemPlace)} {b n : Nat} {D : DataW Unit} {kt : TypeId} (h : w.ownsMap Try.prog kt R b n D) (hb : Below w.heap.size w w') : w'.ownsMap Try.prog kt R b n D := by
  have hlt := h.lt
  obtain ⟨es, clock, hb', F, hs, hD⟩ := h
  exact ⟨es, clock, (hb.block b hlt).trans hb', F, hs, hD⟩
set_option maxRecDepth 100000 in
set_option maxHeartbeats 16000000 in
theorem numbers_yes (W H : Nat) (A Ac : Option Addr) (l : List Int) (cs : List Col) (cap capc : Nat) (w : World) (hR : rightI W H l.length) (hr : RowAt w w.heap.size .u8 A l) (hcap : l.length ≤ cap) (hu : U8s l) (hrc : RowAt w w.heap.size .u8 Ac (bytesL cs)) (hcs : ∀ k, k < cs.length → (cs.getD k ⟨0, 0, 0, 0⟩).ok) (hn : 1 ≤ cs.length) (hm : cs.length ≤ 1073741824) :
    Calls Try.prog 81 #[imgV W H A l.length cap, .slice Ac cs.length capc] w fun e w' => ∃ g c, e = .returned (.tuple #[.slice (some ⟨g, 0, none⟩) (W * H) c, .int .i64 0]) ∧ w'.ownsRow w.heap.size 3 1 (.slice (some ⟨g, 0, none⟩) (W * H) c) (W * H) (nearL l W cs (W * H)) ∧ Below w.heap.size w w' := by
  obtain ⟨i0, hi, gz0, gz1, gz2⟩ := info_parts int_info
  have hmm := @run_makeMap Try.prog
  have hX : 1 ≤ W ∧ W ≤ 16384 := by have := hR.1; omega
  have hY : 1 ≤ H ∧ H ≤ 16384 := by have := hR.2.1; omega
  have hWH : W * H ≤ 268435456 := Nat.le_trans (Nat.mul_le_mul hX.2 hY.2) (by decide)
  have hN1 : 1 ≤ W * H := Nat.mul_le_mul hX.1 hY.1
  have K1 := hide (right_yes hR A cap)
  have KP := hide fun (x y : Nat) (hx : x < W) (hy : y < H) (o : Col) (ho : o = imgPx l W x y) (w' : World) (hr : RowAt w' w'.heap.size .u8 A l) => (pixel_yes W H A l cap x y w' hR hr hcap (by omega) (by omega)).mono (R' := fun e w'' => e = .returned (.tuple #[colV o, .bool true]) ∧ Below w'.heap.size w' w'') (by
    rintro e w'' ⟨rfl, hb⟩
    refine ⟨?_, hb⟩
    rw [ho]
    unfold imgPx
    rw [nat_idx])
  have KN := hide fun (o : Col) (ho : o.ok) (w' : World) (hw : Below w.heap.size w w') => near_any cs hcs Ac capc o ho w' ((hrc.below hw (Nat.le_refl _)).more hw.size) hn hm
  have HR0 := hide hr
  have HU := hide hu
  have mW : IntKind.i64.wrap ((W : Int) * (H : Int)) = ((W * H : Nat) : Int) := by
    have e : (W : Int) * (H : Int) = ((W * H : Nat) : Int) := by simp
    rw [e]; exact IntWalk.i64_in _ (by omega)
  obtain ⟨N, hN⟩ : ∃ N, N = W * H := ⟨_, rfl⟩
  rw [← hN] at mW hWH hN1 ⊢
  have HN := hide hN
  obtain ⟨n, hnn⟩ : ∃ n, n = cs.length := ⟨_, rfl⟩
  have t1 : ((n : Int) == 0) = false := by simp; omega
  rw [← hnn] at hn hm KN ⊢
  have HNN := hide hnn
  clear hR hr hcap hu hrc hcs hN hnn
  go_enter Try.func81, Try.ntmps81
  go_wp2_with (go_at_call 94; (with_reducible refine (K1.out _).mono ?_); rintro e w1 ⟨rfl, hb1⟩; obtain ⟨B1, hz, HW⟩ := own1 hb1; have P : Pic w1 w.heap.size W H A l cap := ⟨B1, (HR0.out.below HW (Nat.le_refl _)).more HW.size⟩; obtain ⟨a0, a1, a2⟩ := P.cellsA; clear hb1)
  have PH := hide P
  have HH := hide HW
  clear P HW B1 a0 a1 a2 K1
  have hpz := PH.out.blk.lt
  go_loopw [27, 6] (fun i v wr => ∃ (k : Nat) (v' : Value) (D : DataW Unit), k ≤ N ∧ i = .int .i64 k ∧ v' = v ∧ wr.ownsMap Try.prog 36 (plainElem Try.prog 3) w1.heap.size k D ∧ NearD cs D ∧ wr.ownsRow (w1.heap.size + 1) 3 1 v' k (nearL l W cs k) ∧ Below w1.heap.size w1 wr) (fun i _ _ => N - (intOf i).toNat)
  case atStart => exact ⟨0, _, .map [], Nat.zero_le _, rfl, rfl, World.ownsMap_made _ _ _ _, fun c _ h => by simp [Maps.has] at h, World.ownsRow_nil _ _ _ _, below_alloc w1 _⟩
  case round =>
    obtain ⟨k, v, D, hk, rfl, rfl, hM, hD, ho, hb⟩ := hrel
    by_cases hlt : k < N
    · have hx : k % W < W := Nat.mod_lt _ (by omega)
      have hy : k / W < H := Nat.div_lt_of_lt_mul (by rw [← HN.out]; exact hlt)
      have em : (k : Int).tmod (W : Int) = ((k % W : Nat) : Int) := tmod_nat k W
      have ed : (k : Int).tdiv (W : Int) = ((k / W : Nat) : Int) := tdiv_nat k W
      obtain ⟨o, hoe⟩ : ∃ o, o = imgPx l W (k % W) (k / W) := ⟨_, rfl⟩
      have hpn : pxNear l W cs k = nearN cs o n := by unfold pxNear; rw [hoe, HNN.out]
      have hook : o.ok := by rw [hoe]; exact imgPx_ok HU.out _ _ _
      generalize k % W = x at hx em hoe
      generalize k / W = y at hy ed hoe
      have hW0 : ¬ ((W : Int) = 0) := by omega
      have hW1 : ¬ (W = 0) := by omega
      have ey : IntKind.i64.wrap (y : Int) = (y : Int) := IntWalk.i64_in _ (by omega)
      have hP := PH.out.below hb
      obtain ⟨a0, a1, a2⟩ := hP.cells
      obtain ⟨V, rfl⟩ : ∃ V : World, V = wr := ⟨_, rfl⟩
      have hszV := hb.size
      have lmV := hM.lt
      have KX := hide fun (w' : World) (hb : Below V.heap.size V w') => (KP.out x y hx hy o hoe w' ((hP.row.below hb (Nat.le_refl _)).more hb.size)).mono (R' := fun e w'' => e = .returned (.tuple #[colV o, .bool true]) ∧ Below w'.heap.size w' w'' ∧ Below V.heap.size V w'') (fun e w'' h => ⟨h.1, h.2, bstep' hb h.2 hb.size⟩)
      have HPV := hide hP
      have HM := hide hM
      have HD := hide hD
      have HO := hide ho
      have HB := hide hb
      have HPN := hide hpn
      have n4 : ¬ w.heap.size = V.heap.size := by omega
      have n7 : ¬ V.heap.size = w.heap.size := by omega
      clear hP hM hD ho hb hpn hoe
      go_upto_region 10 with fail
      go_cut [9] (fun s wx => ∃ P, s = .pointer (some ⟨P, 0, none⟩) ∧ V.heap.size ≤ P ∧ Below V.heap.size V wx ∧ Cl4 wx P o)
      case first =>
        clear HM HD HO HB HPN KN
        (go_region_held3 (fun w' => w'.cell? ⟨w.heap.size, 0, none⟩ = some (.int .i64 (W : Int)) ∧ w'.cell? ⟨w.heap.size, 1, none⟩ = some (.int .i64 (H : Int)) ∧ w'.cell? ⟨w.heap.size, 2, none⟩ = some (.slice A l.length cap)) (simp (maxDischargeDepth := 20) [*, World.cell?_alloc_some, World.cell?_setCell_far]) (first | (go_at_call 120; (with_reducible refine (KX.out _ (by (repeat (first | (with_reducible exact Below.refl _ _) | (with_reducible apply Below.drew) | (with_reducible refine balloc ?_ _))))).mono ?_); rintro e w2 ⟨rfl, hb2, hd⟩; have hq : Blk w2 V.heap.size 36 #[.int .u8 0, .int .u8 0, .int .u8 0, .int .u8 0] := Blk.below (by first | exact Blk.new V 36 _ | exact Blk.same (Blk.new V 36 _) rfl | exact Blk.new' V.drew 36 _ _ rfl) hb2 (by simp [World.drew]); have HQ2 := hide ((((hq.set_ 0 (.int .u8 o.r)).set_ 1 (.int .u8 o.g)).set_ 2 (.int .u8 o.b)).set_ 3 (.int .u8 o.a)); obtain ⟨v0, v1, v2, v3, z0, z1, z2, z3⟩ := blk4 hq; have hz := hd.size; obtain ⟨a0, a1, a2⟩ := (HPV.out.below hd).cells; have n1 : ¬ w.heap.size = w2.heap.size := (by omega); have n2 : ¬ w2.heap.size = w.heap.size := (by omega); have lq : V.heap.size < w2.heap.size := hq.lt) | (go_at_call 120; (with_reducible refine (KX.out _ (by (repeat (first | (with_reducible exact Below.refl _ _) | (with_reducible apply Below.drew) | (with_reducible refine balloc ?_ _))))).mono ?_); rintro e w2 ⟨rfl, hb2, hd⟩; have hz := hd.size; obtain ⟨a0, a1, a2⟩ := (HPV.out.below hd).cells; have n1 : ¬ w.heap.size = w2.heap.size := (by omega); have n2 : ¬ w2.heap.size = w.heap.size := (by omega))))
        all_goals
          go_wp2_with fail
          go_meet
          clear KX
          first
            | (refine ⟨_, rfl, Nat.le_refl _, ?_, ⟨by first | exact lq | (simp; exact lq), HQ2.out.cell 0, HQ2.out.cell 1, HQ2.out.cell 2, HQ2.out.cell 3⟩⟩
               repeat (first | (with_reducible exact hd) | (with_reducible apply Below.drew) | (with_reducible refine bset ?_ _ _ (Nat.le_refl _) _) | (with_reducible refine balloc ?_ _)))
            | (refine ⟨_, rfl, hd.size, ?_, ⟨?_, ?_, ?_, ?_, ?_⟩⟩
               · repeat (first | (with_reducible exact hd) | (with_reducible apply Below.drew) | (with_reducible refine balloc ?_ _))
               all_goals first | (simp (maxDischargeDepth := 20) [World.cell?_alloc_some, World.cell?_alloc_at]; done) | (simp; omega))
      case rest =>
        obtain ⟨P, rfl, hPV, hV, hP4⟩ := hcut
        obtain ⟨U, rfl⟩ : ∃ U : World, U = wc := ⟨_, rfl⟩
        have hMU := map_below HM.out hV
        have HMU := hide hMU
        have lmU := hMU.lt
        have HOU := hide (owns_belowB HO.out hV)
        have HBU := hide (bstep HB.out hV)
        obtain ⟨c0, c1, c2, c3⟩ : U.cell? ⟨P, 0, none⟩ = some (.int .u8 o.r) ∧ U.cell? ⟨P, 1, none⟩ = some (.int .u8 o.g) ∧ U.cell? ⟨P, 2, none⟩ = some (.int .u8 o.b) ∧ U.cell? ⟨P, 3, none⟩ = some (.int .u8 o.a) := ⟨hP4.c0, hP4.c1, hP4.c2, hP4.c3⟩
        obtain ⟨q, hq⟩ : ∃ q, q = nearN cs o n := ⟨_, rfl⟩
        have hqn : q < n := by rw [hq]; exact nearN_lt cs o n hn
        have hpq : pxNear l W cs k = q := by rw [HPN.out, hq]
        have HPQ := hide hpq
        have KNo := hide fun (w' : World) (hw : Below w.heap.size w w') => (KN.out o hook w' hw)
        rw [← hq] at KNo
        have hDq : nearN cs o cs.length = q := by rw [← HNN.out, hq]
        have HDQ := hide hDq
        clear a0 a1 a2 HM HO HB em ed ey KX hMU hq hpq hDq HPN
        cases hhas : Maps.has D (colK o)
        · have hwf : (Lit.int .i64 ((q : Nat) : Int)).wf = true := WalkArith.wf_i64 (by omega)
          have HP4 := hide hP4
          have HDP := hide (HD.out.put HMU.out.isMap hook)
          go_wp2_with (first | (at_lookup; refine wpList_lookup_own_ok_int _ rfl _ _ 110 rfl 36 3 .i64 law36 Try.underlying110 Try.underlying3 (zero3 _) w1.heap.size k D rfl HMU.out _ _ rfl (keyCol hook) ?_; intro c hat hwc) | (go_at_call 130; (with_reducible refine (KNo.out _ (bstep HH.out HBU.out)).mono ?_); rintro e w3 ⟨rfl, hb3⟩; have hP5 := HP4.out.below hb3; obtain ⟨c0, c1, c2, c3⟩ : w3.cell? ⟨P, 0, none⟩ = some (.int .u8 o.r) ∧ w3.cell? ⟨P, 1, none⟩ = some (.int .u8 o.g) ∧ w3.cell? ⟨P, 2, none⟩ = some (.int .u8 o.b) ∧ w3.cell? ⟨P, 3, none⟩ = some (.int .u8 o.a) := ⟨hP5.c0, hP5.c1, hP5.c2, hP5.c3⟩; have HM3 := hide (map_below HMU.out hb3); have HO3 := hide (owns_belowB HOU.out hb3); have HB3 := hide (bstep HBU.out hb3); have lm3 := HM3.out.lt) | (at_mapUpdate; refine wpList_mapUpdate_own _ rfl _ _ _ 110 rfl 36 3 law36 Try.underlying110 _ w1.heap.size k D rfl HM3.out (by unfold maxLen; omega) _ _ _ rfl rfl (keyCol hook) _ [] (plainElem_int Try.underlying3 hwf) ?_; intro w4 hown4 hgrow4; have HO4 := hide (owns_keepB HO3.out (fun j hj1 hj2 => hgrow4.block j hj2 (by simp; omega))); have HB4 := hide (HB3.out.grown hgrow4 HB3.out.size (fun j hj => by injection hj with hj; omega)); have lm4 := hown4.lt; have HM4 := hide hown4) | (at_builtin; refine wpList_append_lies _ rfl _ _ _ rfl (w1.heap.size + 1) 3 i0 _ 1 8 Try.underlying29 hi gz0 gz1 gz2 rfl (by omega) v k _ rfl (HO4.out.alloc _) ⟨w4.heap.size, 0, none⟩ 1 1 [.int .i64 (q : Nat)] rfl rfl (World.news_of_block (heap_alloc_new w4 _)) (by intro u hu; simp at hu; subst hu; rfl) (by omega) (by unfold maxLen; omega) (by omega) (by simp; omega) (w4.heap.size + 1) (by simp) ?_; intro g' c' w7 hown2 hg2 hat2 hlt2))
          have hM7 := (HM4.out.alloc (.cells #[.int .i64 (q : Nat)] 3)).kept hg2 (fun e => by have := (HO4.out.lt _ e.symm).1; omega)
          have hB7 := (HB4.out.alloc HB4.out.size (.cells #[.int .i64 (q : Nat)] 3)).grown hg2 (by simp; have := HB4.out.size; omega) (fun j hj => by have := (HO4.out.lt j hj).1; omega)
          have HM7 := hide hM7
          have HB7 := hide hB7
          have HO7 := hide hown2
          clear hM7 hB7 hown2 hg2 hat2 hlt2
          go_roundw
          case rel => exact ⟨k + 1, _, _, by omega, by go_num, rfl, HM7.out, by have := HDP.out; rw [HDQ.out] at this; exact this, by rw [nearL_succ, HPQ.out]; exact HO7.out, HB7.out⟩
          case measure => simp [intOf]; omega
        · have NC := hide fun (c : Int) (h : D.atKey (colK o) (.lit (.int .i64 0)) = .lit (.int .i64 c)) => (by
            have h1 := HD.out o hook hhas
            rw [h1, HDQ.out] at h
            injection h with h; injection h with _ h; exact h.symm : c = ((q : Nat) : Int))
          go_wp2_with (first | (at_lookup; refine wpList_lookup_own_ok_int _ rfl _ _ 110 rfl 36 3 .i64 law36 Try.underlying110 Try.underlying3 (zero3 _) w1.heap.size k D rfl HMU.out _ _ rfl (keyCol hook) ?_; intro c hat hwc; obtain rfl := NC.out c hat; clear hat hwc) | (at_builtin; refine wpList_append_lies _ rfl _ _ _ rfl (w1.heap.size + 1) 3 i0 _ 1 8 Try.underlying29 hi gz0 gz1 gz2 rfl (by omega) v k _ rfl (HOU.out.alloc _) ⟨U.heap.size, 0, none⟩ 1 1 [.int .i64 (q : Nat)] rfl rfl (World.news_of_block (heap_alloc_new U _)) (by intro u hu; simp at hu; subst hu; rfl) (by omega) (by unfold maxLen; omega) (by omega) (by simp; omega) (U.heap.size + 1) (by simp) ?_; intro g' c' w7 hown2 hg2 hat2 hlt2))
          have hM7 := ((HMU.out.alloc (.cells #[.int .i64 (q : Nat)] 3)).kept hg2 (fun e => by have := (HOU.out.lt _ e.symm).1; omega)).mono (Nat.le_succ k)
          have hB7 := (HBU.out.alloc HBU.out.size (.cells #[.int .i64 (q : Nat)] 3)).grown hg2 (by simp; have := HBU.out.size; omega) (fun j hj => by have := (HOU.out.lt j hj).1; omega)
          have HM7 := hide hM7
          have HB7 := hide hB7
          have HO7 := hide hown2
          clear hM7 hB7 hown2 hg2 hat2 hlt2
          go_roundw
          case rel => exact ⟨k + 1, _, _, by omega, by go_num, rfl, HM7.out, HD.out, by rw [nearL_succ, HPQ.out]; exact HO7.out, HB7.out⟩
          case measure => simp [intOf]; omega
    · have hkN : k = N := by omega
      subst hkN
      rcases ho.2 with ⟨-, h0⟩ | ⟨g5, cap5, cur, rfl, hb5, hh, -⟩
      · omega
      have HO := hide ho
      have HWW := hide (bstep HH.out hb)
      have hsz := HH.out.size
      clear hM hD ho hb hh
      go_wp2_with fail
      exact bodyPost_ret (v := .tuple #[.slice (some ⟨g5, 0, none⟩) k cap5, .int .i64 0]) (by simp [results, Try.results81, go_sem]) rfl ⟨g5, cap5, rfl, own_less HO.out (by omega), HWW.out⟩
end Go.Proofs.Ytkjnheikimpliaa
