/- The law QuantNumbers, where numbers are told. -/
import Derived.Test.YtkjnheikimpliaaLawNumA
import Derived.Test.YtkjnheikimpliaaFarC
namespace Go.Proofs.Ytkjnheikimpliaa
set_option linter.unusedVariables false
set_option linter.unusedSimpArgs false
open Go.RowKit
attribute [local go_sem ↓] Go.wp_at_zero Go.wp_at_succ

theorem nums_cell {w : World} {B g n c : Nat} {xs : List Value} (h : w.ownsRow B 3 1 (.slice (some ⟨g, 0, none⟩) n c) n xs) {k : Nat} (hk : k < n) {v : Value} (hv : xs[k]? = some v) : w.cell? ⟨g, k, none⟩ = some v := by
  rw [h.cellAt k (by omega)]; exact hv
theorem nearL_at (l : List Int) (W : Nat) (cs : List Col) {n k : Nat} (hk : k < n) : (nearL l W cs n)[k]? = some (.int .i64 (pxNear l W cs k : Nat)) := by simp [nearL, hk]
theorem rightN {W H n : Nat} (h : rightI W H n) : 1 ≤ W ∧ 1 ≤ H ∧ W ≤ 16384 ∧ H ≤ 16384 ∧ n = 4 * (W * H) := by
  obtain ⟨⟨h1, h2⟩, ⟨h3, h4⟩, h5⟩ := h
  have e : 4 * (W : Int) * (H : Int) = ((4 * (W * H) : Nat) : Int) := by rw [Int.mul_assoc]; simp
  rw [e] at h5
  refine ⟨by omega, by omega, by omega, by omega, by omega⟩

set_option maxRecDepth 100000 in
set_option maxHeartbeats 16000000 in
theorem qn_p3s (W H : Nat) (A A1 A2 : Option Addr) (l l2 : List Int) (cs : List Col) (cap cap1 cap2 : Nat) (a : Int) (w : World) (hs1 : ¬ 600 < l.length) (hs2 : ¬ 40 < cs.length) (hs3 : ¬ 300 < l2.length) (hr : RowAt w w.heap.size .u8 A l) (hcap : l.length ≤ cap) (hu : U8s l) (hr1 : RowAt w w.heap.size .u8 A1 (bytesL cs)) (hcs : ∀ k, k < cs.length → (cs.getD k ⟨0, 0, 0, 0⟩).ok) (hr2 : RowAt w w.heap.size .i64 A2 l2) (hu2 : ∀ z ∈ l2, I64 z) (hP : rightI W H l.length) (hcs1 : 1 ≤ cs.length) (hbad : a < 1 ∨ 16384 < a ∨ l2.length = 0 ∨ (1 ≤ a ∧ a ≤ 16384 ∧ l2.length % a.toNat ≠ 0)) :
    Calls Try.prog 19 #[imgV W H A l.length cap, .slice A1 cs.length cap1, .slice A2 l2.length cap2, .int .i64 a] w fun e w' => e = .returned (.bool true) ∧ Below w.heap.size w w' := by
  have s1 : decide ((600 : Int) < l.length) = false := by simp; omega
  have s2 : decide ((40 : Int) < cs.length) = false := by simp; omega
  have s3 : decide ((300 : Int) < l2.length) = false := by simp; omega
  obtain ⟨hW1, hH1, hW2, hH2, hl4⟩ := rightN hP
  have K81 := hide fun (w' : World) (hw : Below w.heap.size w w') => numbers_yes W H A A1 l cs cap cap1 w' hP ((hr.below hw (Nat.le_refl _)).more hw.size) hcap hu ((hr1.below hw (Nat.le_refl _)).more hw.size) hcs hcs1 (by omega)
  have KA := hide (refRight_yes hP A cap)
  have KR := hide fun (o : Col) (ho : o.ok) (w' : World) (hw : Below w.heap.size w w') => refNear_any cs hcs A1 cap1 o ho w' ((hr1.below hw (Nat.le_refl _)).more hw.size) hcs1 (by omega)
  have KX := hide fun (w' : World) (hw : RowAt w' w'.heap.size .u8 A l) (x y : Nat) (hx : x < W) (hy : y < H) (o : Col) (ho : o = imgPx l W x y) => pix_is W H A l cap x y w' hP hw hx hy o ho
  have HRI := hide hr
  have HU := hide hu
  have t0 : ((cs.length : Int) == 0) = false := len_no0 (by omega)
  have mW : IntKind.i64.wrap ((W : Int) * (H : Int)) = ((W * H : Nat) : Int) := by
    have e : (W : Int) * (H : Int) = ((W * H : Nat) : Int) := by simp
    rw [e]; exact IntWalk.i64_in _ (by omega)
  obtain ⟨N, hN⟩ : ∃ N, N = W * H := ⟨_, rfl⟩
  rw [← hN] at mW hl4
  rw [← hN] at K81
  have HN := hide hN
  have hN6 : N ≤ 150 := by omega
  clear hl4 hN
  have K83 := hide fun (w' : World) => qimage_size a A2 A1 l2.length cs.length cap2 cap1 w' (by omega) hbad
  unfold Refused at K83
  have hb : a < 1 ∨ (1 ≤ a ∧ 16384 < a) ∨ (1 ≤ a ∧ a ≤ 16384 ∧ l2.length = 0) ∨ (∃ X : Nat, a = X ∧ 1 ≤ X ∧ X ≤ 16384 ∧ l2.length ≠ 0 ∧ l2.length % X ≠ 0) := by
    by_cases h1 : 1 ≤ a ∧ a ≤ 16384
    · by_cases h2 : l2.length = 0
      · exact .inr (.inr (.inl ⟨h1.1, h1.2, h2⟩))
      · exact .inr (.inr (.inr ⟨a.toNat, by omega, by omega, by omega, h2, by omega⟩))
    · omega
  clear hP hbad hcs1 hr hcap hu hr1 hcs hr2 hu2
  have HB4 := hide hb
  clear hb
  generalize l2.length = n2 at *
  generalize hm1 : cs.length = m1 at *
  have HM1 := hide hm1
  clear hm1
  go_enter Try.func19, Try.ntmps19
  go_wp2_with (first | (go_at_call 81; (with_reducible refine (K81.out _ (below_alloc w _)).mono ?_); rintro e w1 ⟨g9, c9, rfl, ho9, hb1⟩; obtain ⟨B1, hz, HW⟩ := own1 hb1; have P : Pic w1 w.heap.size W H A l cap := ⟨B1, (HRI.out.below HW (Nat.le_refl _)).more HW.size⟩; have PH1 := hide P; have HO1 := hide ho9; obtain ⟨a0, a1, a2, -⟩ := blk3 B1; clear hb1 P ho9) | (go_at_call 36; (with_reducible refine (KA.out _).mono ?_); rintro e w2 ⟨rfl, hb2⟩; clear a0 a1 a2 B1; have PH := hide (PH1.out.below hb2); have HO2 := hide (owns_belowB HO1.out hb2); have HW := bstep HW hb2; obtain ⟨a0, a1, a2⟩ := PH.out.cells; clear hb2 PH1 HO1))
  have HWP := hide HW
  clear HW a0 a1 a2 K81 KA
  go_loopw [53] (fun i wr => ∃ k : Nat, k ≤ N ∧ i = .int .i64 k ∧ Below w2.heap.size w2 wr) (fun i _ => N - (intOf i).toNat)
  case atStart => exact ⟨0, Nat.zero_le _, rfl, Below.refl _ _⟩
  case round =>
    obtain ⟨k, hk, rfl, hb⟩ := hrel
    by_cases hlt : k < N
    · have hx : k % W < W := Nat.mod_lt _ (by omega)
      have hy : k / W < H := Nat.div_lt_of_lt_mul (by rw [← HN.out]; exact hlt)
      have em : (k : Int).tmod (W : Int) = ((k % W : Nat) : Int) := tmod_nat k W
      have ed : (k : Int).tdiv (W : Int) = ((k / W : Nat) : Int) := tdiv_nat k W
      have hgn := nums_cell (owns_belowB HO2.out hb) hlt (nearL_at l W cs hlt)
      obtain ⟨q, hq⟩ : ∃ q, q = pxNear l W cs k := ⟨_, rfl⟩
      rw [← hq] at hgn
      unfold pxNear at hq
      rw [HM1.out] at hq
      obtain ⟨o, hoe⟩ : ∃ o, o = imgPx l W (k % W) (k / W) := ⟨_, rfl⟩
      rw [← hoe] at hq
      have hook : o.ok := by rw [hoe]; exact imgPx_ok HU.out _ _ _
      have KR1 := hide (KR.out o hook)
      rw [← hq] at KR1
      generalize k % W = x at hx em hoe
      generalize k / W = y at hy ed hoe
      have hW0 : ¬ ((W : Int) = 0) := by omega
      have hW1 : ¬ (W = 0) := by omega
      have ey : IntKind.i64.wrap (y : Int) = (y : Int) := IntWalk.i64_in _ (by omega)
      have hd : Below w2.heap.size w2 wr.drew := hb.drew
      have hP := PH.out.below hd
      have HX := hide (KX.out wr.drew hP.row x y hx hy o hoe)
      have HPR := hide (PH.out.below hb)
      obtain ⟨a0, a1, a2⟩ := (PH.out.below hb).cells
      have hwr := bstep HWP.out hb
      have KN := hide fun (w' : World) (hb : Below wr.heap.size wr w') => (KR1.out w' (bstep hwr hb)).mono (R' := fun e w'' => e = .returned (.int .i64 (q : Nat)) ∧ Below wr.heap.size wr w'') (fun e w'' h => ⟨h.1, bstep' hb h.2 hb.size⟩)
      have HB := hide hb
      have nqq : ((q : Int) != (q : Int)) = false := by simp
      have n1 : ¬ w.heap.size = wr.heap.size := by have := (PH.out.below hb).blk.lt; omega
      clear hP hb hwr hd hq hoe KR KR1 HO2 PH
      go_wp2_with fail
      first | (go_region_held3 (fun w' => w'.cell? ⟨w.heap.size, 0, none⟩ = some (.int .i64 (W : Int)) ∧ w'.cell? ⟨w.heap.size, 1, none⟩ = some (.int .i64 (H : Int)) ∧ w'.cell? ⟨w.heap.size, 2, none⟩ = some (.slice A l.length cap)) (simp (maxDischargeDepth := 20) [*, World.cell?_alloc_some, World.cell?_setCell_far]) (first | (go_at_call 39; (with_reducible refine HX.out.mono ?_); rintro e v2 ⟨rfl, rfl⟩) | (go_at_call 82; (with_reducible refine (KN.out _ (by (repeat (first | (with_reducible exact Below.refl _ _) | (with_reducible apply Below.drew) | (with_reducible refine balloc ?_ _))))).mono ?_); rintro e v3 ⟨rfl, hv3⟩; obtain ⟨a0, a1, a2⟩ := (HPR.out.below hv3).cells))) | fail
      go_wp2_with fail
      go_roundw
      case rel => exact ⟨k + 1, by omega, by go_num, bstep HB.out hv3⟩
      case measure => simp [intOf]; omega
    · have HW := bstep HWP.out hb
      clear hb HO2 PH KR KX HWP HRI HU
      clear mW hN6
      have hb := HB4.out
      clear HB4
      rcases hb with g1 | ⟨g1, g2⟩ | ⟨g1, g2, g3⟩ | ⟨X, rfl, g1, g2, g3, g4⟩
      · go_wp2_with (first | (go_at_call 83; (with_reducible refine (K83.out _).mono ?_); rintro e w5 ⟨rfl, hb5⟩; have HW := bstep HW hb5; clear hb5) | (go_at_call 45; (with_reducible refine (is_zero _).mono ?_); rintro e w6 ⟨rfl, hb6⟩) | (go_at_call 46; (with_reducible refine (awake36 _).mono ?_); rintro e w7 ⟨rfl, hb7⟩))
        go_ret
        exact ⟨rfl, bstep (bstep (balloc HW _) hb6) hb7⟩
      · go_wp2_with (first | (go_at_call 83; (with_reducible refine (K83.out _).mono ?_); rintro e w5 ⟨rfl, hb5⟩; have HW := bstep HW hb5; clear hb5) | (go_at_call 45; (with_reducible refine (is_zero _).mono ?_); rintro e w6 ⟨rfl, hb6⟩) | (go_at_call 46; (with_reducible refine (awake36 _).mono ?_); rintro e w7 ⟨rfl, hb7⟩))
        go_ret
        exact ⟨rfl, bstep (bstep (balloc HW _) hb6) hb7⟩
      · have n0 : ((n2 : Int) == 0) = true := len_is0 g3
        clear g3
        go_wp2_with (first | (go_at_call 83; (with_reducible refine (K83.out _).mono ?_); rintro e w5 ⟨rfl, hb5⟩; have HW := bstep HW hb5; clear hb5) | (go_at_call 45; (with_reducible refine (is_zero _).mono ?_); rintro e w6 ⟨rfl, hb6⟩) | (go_at_call 46; (with_reducible refine (awake36 _).mono ?_); rintro e w7 ⟨rfl, hb7⟩))
        go_ret
        exact ⟨rfl, bstep (bstep (balloc HW _) hb6) hb7⟩
      · have em : (n2 : Int).tmod (X : Int) = ((n2 % X : Nat) : Int) := tmod_nat _ X
        have hx0 : ¬ ((X : Int) = 0) := by omega
        have hx1 : ¬ (X = 0) := by omega
        have n0 : ((n2 : Int) == 0) = false := len_no0 g3
        have n1 : (((n2 % X : Nat) : Int) == 0) = false := len_no0 g4
        have n3 : (((n2 % X : Nat) : Int) != 0) = true := by simp; omega
        generalize n2 % X = q at em n1 n3 g4
        go_wp2_with (first | (go_at_call 83; (with_reducible refine (K83.out _).mono ?_); rintro e w5 ⟨rfl, hb5⟩; have HW := bstep HW hb5; clear hb5) | (go_at_call 45; (with_reducible refine (is_zero _).mono ?_); rintro e w6 ⟨rfl, hb6⟩) | (go_at_call 46; (with_reducible refine (awake36 _).mono ?_); rintro e w7 ⟨rfl, hb7⟩))
        go_ret
        exact ⟨rfl, bstep (bstep (balloc HW _) hb6) hb7⟩

set_option maxRecDepth 100000 in
set_option maxHeartbeats 16000000 in
theorem qn_p3b (W H : Nat) (A A1 A2 : Option Addr) (l l2 : List Int) (cs : List Col) (cap cap1 cap2 : Nat) (w : World) (X : Nat) (hX : 1 ≤ X ∧ X ≤ 16384) (hn : 1 ≤ l2.length) (hmod : l2.length % X = 0) (hs1 : ¬ 600 < l.length) (hs2 : ¬ 40 < cs.length) (hs3 : ¬ 300 < l2.length) (hr : RowAt w w.heap.size .u8 A l) (hcap : l.length ≤ cap) (hu : U8s l) (hr1 : RowAt w w.heap.size .u8 A1 (bytesL cs)) (hcs : ∀ k, k < cs.length → (cs.getD k ⟨0, 0, 0, 0⟩).ok) (hr2 : RowAt w w.heap.size .i64 A2 l2) (hu2 : ∀ z ∈ l2, I64 z) (hP : rightI W H l.length) (hcs1 : 1 ≤ cs.length) (hall : ¬ allIn l2 cs.length) :
    Calls Try.prog 19 #[imgV W H A l.length cap, .slice A1 cs.length cap1, .slice A2 l2.length cap2, .int .i64 (X : Int)] w fun e w' => e = .returned (.bool true) ∧ Below w.heap.size w w' := by
  have s1 : decide ((600 : Int) < l.length) = false := by simp; omega
  have s2 : decide ((40 : Int) < cs.length) = false := by simp; omega
  have s3 : decide ((300 : Int) < l2.length) = false := by simp; omega
  obtain ⟨hW1, hH1, hW2, hH2, hl4⟩ := rightN hP
  have K81 := hide fun (w' : World) (hw : Below w.heap.size w w') => numbers_yes W H A A1 l cs cap cap1 w' hP ((hr.below hw (Nat.le_refl _)).more hw.size) hcap hu ((hr1.below hw (Nat.le_refl _)).more hw.size) hcs hcs1 (by omega)
  have KA := hide (refRight_yes hP A cap)
  have KR := hide fun (o : Col) (ho : o.ok) (w' : World) (hw : Below w.heap.size w w') => refNear_any cs hcs A1 cap1 o ho w' ((hr1.below hw (Nat.le_refl _)).more hw.size) hcs1 (by omega)
  have KX := hide fun (w' : World) (hw : RowAt w' w'.heap.size .u8 A l) (x y : Nat) (hx : x < W) (hy : y < H) (o : Col) (ho : o = imgPx l W x y) => pix_is W H A l cap x y w' hP hw hx hy o ho
  have HRI := hide hr
  have HU := hide hu
  have t0 : ((cs.length : Int) == 0) = false := len_no0 (by omega)
  have mW : IntKind.i64.wrap ((W : Int) * (H : Int)) = ((W * H : Nat) : Int) := by
    have e : (W : Int) * (H : Int) = ((W * H : Nat) : Int) := by simp
    rw [e]; exact IntWalk.i64_in _ (by omega)
  obtain ⟨N, hN⟩ : ∃ N, N = W * H := ⟨_, rfl⟩
  rw [← hN] at mW hl4
  rw [← hN] at K81
  have HN := hide hN
  have hN6 : N ≤ 150 := by omega
  clear hl4 hN
  have K83 := hide fun (w' : World) (hw : Below w.heap.size w w') => (qimage_any X A2 A1 l2 cs cap2 cap1 w' hX hn (by omega) hmod ((hr2.below hw (Nat.le_refl _)).more hw.size) ((hr1.below hw (Nat.le_refl _)).more hw.size) (by omega) hu2).mono (R' := fun e w'' => e = .returned (.tuple #[imgV 0 0 none 0 0, .int .i64 2]) ∧ Below w'.heap.size w' w'') (by
    rintro e w'' (⟨h, -⟩ | ⟨-, h⟩)
    · exact absurd h hall
    · exact h)
  have HBAD := hide hall
  obtain ⟨i0, hi, gz0, gz1, gz2⟩ := info_parts col_info
  have em : (l2.length : Int).tmod (X : Int) = ((l2.length % X : Nat) : Int) := tmod_nat _ X
  have ed : (l2.length : Int).tdiv (X : Int) = ((l2.length / X : Nat) : Int) := tdiv_nat _ X
  rw [hmod] at em
  have hYb : l2.length / X ≤ 300 := Nat.le_trans (Nat.div_le_self _ _) (by omega)
  generalize l2.length / X = Y at *
  have hx0 : ¬ ((X : Int) = 0) := by omega
  have hx1 : ¬ (X = 0) := by omega
  have n0 : ((l2.length : Int) == 0) = false := len_no0 (by omega)
  have a1 : decide ((X : Int) < 1) = false := by simp; omega
  have a2 : decide ((16384 : Int) < (X : Int)) = false := by simp; omega
  have hrn0 : ∃ ba oa, A2 = some ⟨ba, oa, none⟩ ∧ ba < w.heap.size ∧ ∀ i, i < l2.length → w.cell? ⟨ba, oa + i, none⟩ = some (.int .i64 (l2.getD i 0)) := by
    obtain ⟨ba, oa, rfl, hb, -⟩ := hr2 0 (by omega)
    refine ⟨ba, oa, rfl, hb, fun i hi => ?_⟩
    obtain ⟨b', o', e, -, h⟩ := hr2 i (by omega)
    injection e with e; injection e with e1 e2
    subst e1 e2
    exact h
  obtain ⟨ba, oa, rfl, hba, hcn⟩ := hrn0
  have HCN := hide hcn
  have HR1 := hide hr1
  clear hcn hr1 hr2
  generalize hn2 : l2.length = n2 at *
  generalize hm1 : cs.length = m1 at *
  have HN2 := hide hn2
  have HM1 := hide hm1
  clear hn2 hm1
  clear hP hall hr hcap hu hcs hu2 hmod hcs1
  go_enter Try.func19, Try.ntmps19
  go_wp2_with (first | (go_at_call 81; (with_reducible refine (K81.out _ (below_alloc w _)).mono ?_); rintro e w1 ⟨g9, c9, rfl, ho9, hb1⟩; obtain ⟨B1, hz, HW⟩ := own1 hb1; have P : Pic w1 w.heap.size W H A l cap := ⟨B1, (HRI.out.below HW (Nat.le_refl _)).more HW.size⟩; have PH1 := hide P; have HO1 := hide ho9; obtain ⟨a0, a1, a2, -⟩ := blk3 B1; clear hb1 P ho9) | (go_at_call 36; (with_reducible refine (KA.out _).mono ?_); rintro e w2 ⟨rfl, hb2⟩; clear a0 a1 a2 B1; have PH := hide (PH1.out.below hb2); have HO2 := hide (owns_belowB HO1.out hb2); have HW := bstep HW hb2; obtain ⟨a0, a1, a2⟩ := PH.out.cells; clear hb2 PH1 HO1))
  have HWP := hide HW
  clear HW a0 a1 a2 K81 KA
  go_loopw [53] (fun i wr => ∃ k : Nat, k ≤ N ∧ i = .int .i64 k ∧ Below w2.heap.size w2 wr) (fun i _ => N - (intOf i).toNat)
  case atStart => exact ⟨0, Nat.zero_le _, rfl, Below.refl _ _⟩
  case round =>
    obtain ⟨k, hk, rfl, hb⟩ := hrel
    by_cases hlt : k < N
    · have hx : k % W < W := Nat.mod_lt _ (by omega)
      have hy : k / W < H := Nat.div_lt_of_lt_mul (by rw [← HN.out]; exact hlt)
      have em : (k : Int).tmod (W : Int) = ((k % W : Nat) : Int) := tmod_nat k W
      have ed : (k : Int).tdiv (W : Int) = ((k / W : Nat) : Int) := tdiv_nat k W
      have hgn := nums_cell (owns_belowB HO2.out hb) hlt (nearL_at l W cs hlt)
      obtain ⟨q, hq⟩ : ∃ q, q = pxNear l W cs k := ⟨_, rfl⟩
      rw [← hq] at hgn
      unfold pxNear at hq
      rw [HM1.out] at hq
      obtain ⟨o, hoe⟩ : ∃ o, o = imgPx l W (k % W) (k / W) := ⟨_, rfl⟩
      rw [← hoe] at hq
      have hook : o.ok := by rw [hoe]; exact imgPx_ok HU.out _ _ _
      have KR1 := hide (KR.out o hook)
      rw [← hq] at KR1
      generalize k % W = x at hx em hoe
      generalize k / W = y at hy ed hoe
      have hW0 : ¬ ((W : Int) = 0) := by omega
      have hW1 : ¬ (W = 0) := by omega
      have ey : IntKind.i64.wrap (y : Int) = (y : Int) := IntWalk.i64_in _ (by omega)
      have hd : Below w2.heap.size w2 wr.drew := hb.drew
      have hP := PH.out.below hd
      have HX := hide (KX.out wr.drew hP.row x y hx hy o hoe)
      have HPR := hide (PH.out.below hb)
      obtain ⟨a0, a1, a2⟩ := (PH.out.below hb).cells
      have hwr := bstep HWP.out hb
      have KN := hide fun (w' : World) (hb : Below wr.heap.size wr w') => (KR1.out w' (bstep hwr hb)).mono (R' := fun e w'' => e = .returned (.int .i64 (q : Nat)) ∧ Below wr.heap.size wr w'') (fun e w'' h => ⟨h.1, bstep' hb h.2 hb.size⟩)
      have HB := hide hb
      have nqq : ((q : Int) != (q : Int)) = false := by simp
      have n1 : ¬ w.heap.size = wr.heap.size := by have := (PH.out.below hb).blk.lt; omega
      clear hP hb hwr hd hq hoe KR KR1 HO2 PH
      go_wp2_with fail
      first | (go_region_held3 (fun w' => w'.cell? ⟨w.heap.size, 0, none⟩ = some (.int .i64 (W : Int)) ∧ w'.cell? ⟨w.heap.size, 1, none⟩ = some (.int .i64 (H : Int)) ∧ w'.cell? ⟨w.heap.size, 2, none⟩ = some (.slice A l.length cap)) (simp (maxDischargeDepth := 20) [*, World.cell?_alloc_some, World.cell?_setCell_far]) (first | (go_at_call 39; (with_reducible refine HX.out.mono ?_); rintro e v2 ⟨rfl, rfl⟩) | (go_at_call 82; (with_reducible refine (KN.out _ (by (repeat (first | (with_reducible exact Below.refl _ _) | (with_reducible apply Below.drew) | (with_reducible refine balloc ?_ _))))).mono ?_); rintro e v3 ⟨rfl, hv3⟩; obtain ⟨a0, a1, a2⟩ := (HPR.out.below hv3).cells))) | fail
      go_wp2_with fail
      go_roundw
      case rel => exact ⟨k + 1, by omega, by go_num, bstep HB.out hv3⟩
      case measure => simp [intOf]; omega
    · have HW := bstep HWP.out hb
      clear hb HO2 PH KR KX HWP HRI HU
      clear mW hN6
      go_wp2_with (first | (go_at_call 83; (with_reducible refine (K83.out _ HW).mono ?_); rintro e w5 ⟨rfl, hb5⟩; have HW := bstep HW hb5; clear hb5))
      clear hlt hk
      have HV0 := balloc HW (.cells #[.int .i64 0, .int .i64 0, .slice none 0 0] 34)
      have hT := Blk.new w5 34 #[.int .i64 0, .int .i64 0, .slice none 0 0]
      generalize w5.alloc (.cells #[.int .i64 0, .int .i64 0, .slice none 0 0] 34) = V at HV0 hT ⊢
      have HV := hide HV0
      have HT := hide hT
      clear HV0 hT HW
      go_loopw [132, 15] (fun i v wr => ∃ (k : Nat) (v' : Value), k ≤ n2 ∧ i = .int .i64 k ∧ v' = v ∧ (∀ i, i < k → 0 ≤ l2.getD i 0 ∧ l2.getD i 0 < m1) ∧ wr.ownsRow V.heap.size 36 4 v' k (u8L (bytesL ((l2.take k).map (pickC cs)))) ∧ Below V.heap.size V wr) (fun i _ _ => n2 - (intOf i).toNat)
      case atStart => exact ⟨0, _, Nat.zero_le _, rfl, rfl, fun i hi => absurd hi (Nat.not_lt_zero _), World.ownsRow_nil _ _ _ _, Below.refl _ _⟩
      case round =>
        obtain ⟨k, v, hk, rfl, rfl, hin, ho, hb⟩ := hrel
        by_cases hlt : k < n2
        · have hbw := bstep HV.out hb
          have hck : wr.cell? ⟨ba, oa + k, none⟩ = some (.int .i64 (l2.getD k 0)) := (hbw.cell (p := ⟨ba, _, none⟩) hba).trans (HCN.out k hlt)
          obtain ⟨z, hz⟩ : ∃ z, z = l2.getD k 0 := ⟨_, rfl⟩
          rw [← hz] at hck
          have HZ := hide hz
          have HO := hide ho
          have HB := hide hb
          have HIN := hide hin
          clear hz ho hb hin
          by_cases hzr : 0 ≤ z ∧ z < m1
          · obtain ⟨j, rfl⟩ := Int.eq_ofNat_of_zero_le hzr.1
            have hj : j < m1 := by omega
            obtain ⟨bc, oc, rfl, hat⟩ := cols_at HR1.out (by rw [HM1.out]; omega)
            have hxk := (hat.below hbw).at_ j (by rw [HM1.out]; exact hj)
            obtain ⟨c, hc⟩ : ∃ c, c = cs.getD j ⟨0, 0, 0, 0⟩ := ⟨_, rfl⟩
            rw [← hc] at hxk
            obtain ⟨x0, x1, x2, x3⟩ := hxk
            have HC := hide hc
            have d1 : decide ((m1 : Int) ≤ (j : Int)) = false := by simp; omega
            clear hc hat hbw
            go_wp2_with (at_builtin; refine wpList_append_lies _ rfl _ _ _ rfl V.heap.size 36 i0 _ 4 4 Try.underlying58 hi gz0 gz1 gz2 rfl (by omega) v k _ rfl (HO.out.alloc _) ⟨wr.heap.size, 0, none⟩ 1 1 [.int .u8 c.r, .int .u8 c.g, .int .u8 c.b, .int .u8 c.a] rfl rfl (World.news_of_block (heap_alloc_new wr _)) (u8L_one [c.r, c.g, c.b, c.a]) (by omega) (by unfold maxLen; omega) (by omega) (by have := HB.out.size; simp; omega) (wr.heap.size + 1) (by simp) ?_; intro g' c' w7 hown2 hg2 hat2 hlt2)
            have hb7 := (HB.out.alloc HB.out.size (.cells #[.int .u8 c.r, .int .u8 c.g, .int .u8 c.b, .int .u8 c.a] 36)).grown hg2 (by simp; have := HB.out.size; omega) (fun q hq => (HO.out.lt q hq).1)
            have H7 := hide hown2
            have HB7 := hide hb7
            clear hown2 hg2 hat2 hlt2 hb7
            go_roundw
            case rel => exact ⟨k + 1, _, by omega, by go_num, rfl, fun i hi => (Decidable.em (i = k)).elim (fun e => by rw [e, ← HZ.out]; exact hzr) (fun e => HIN.out i (by omega)), by rw [pick_succ l2 cs k j c (by rw [HN2.out]; exact hlt) HZ.out HC.out, u8L_append]; exact H7.out, HB7.out⟩
            case measure => simp [intOf]; omega
          · have d1 : z < 0 ∨ (0 ≤ z ∧ (m1 : Int) ≤ z ∧ decide ((m1 : Int) ≤ z) = true) := by
              by_cases h4 : (m1 : Int) ≤ z
              · simp only [h4, decide_true, and_true]; omega
              · omega
            have hT2 := HT.out.below HB.out HT.out.lt
            obtain ⟨t0', t1', t2', -⟩ := blk3 hT2
            have hbw2 := bstep HV.out HB.out
            rcases d1 with d1 | ⟨d1, d2, d3⟩
            all_goals
              go_wp2_with (first | (go_at_call 45; (with_reducible refine (is_zero _).mono ?_); rintro e x6 ⟨rfl, hb6⟩) | (go_at_call 46; (with_reducible refine (awake36 _).mono ?_); rintro e x7 ⟨rfl, hb7⟩))
              go_ret
              exact ⟨rfl, bstep (bstep hbw2 hb6) hb7⟩
        · exact absurd (fun i (hi : i < l2.length) => hin i (by rw [HN2.out] at hi; omega)) HBAD.out

set_option maxRecDepth 100000 in
set_option maxHeartbeats 16000000 in
theorem qn_p3g (W H : Nat) (A A1 A2 : Option Addr) (l l2 : List Int) (cs : List Col) (cap cap1 cap2 : Nat) (w : World) (X : Nat) (hX : 1 ≤ X ∧ X ≤ 16384) (hn : 1 ≤ l2.length) (hmod : l2.length % X = 0) (hs1 : ¬ 600 < l.length) (hs2 : ¬ 40 < cs.length) (hs3 : ¬ 300 < l2.length) (hr : RowAt w w.heap.size .u8 A l) (hcap : l.length ≤ cap) (hu : U8s l) (hr1 : RowAt w w.heap.size .u8 A1 (bytesL cs)) (hcs : ∀ k, k < cs.length → (cs.getD k ⟨0, 0, 0, 0⟩).ok) (hr2 : RowAt w w.heap.size .i64 A2 l2) (hu2 : ∀ z ∈ l2, I64 z) (hP : rightI W H l.length) (hcs1 : 1 ≤ cs.length) (hall : allIn l2 cs.length) :
    Calls Try.prog 19 #[imgV W H A l.length cap, .slice A1 cs.length cap1, .slice A2 l2.length cap2, .int .i64 (X : Int)] w fun e w' => e = .returned (.bool true) ∧ Below w.heap.size w w' := by
  have s1 : decide ((600 : Int) < l.length) = false := by simp; omega
  have s2 : decide ((40 : Int) < cs.length) = false := by simp; omega
  have s3 : decide ((300 : Int) < l2.length) = false := by simp; omega
  obtain ⟨hW1, hH1, hW2, hH2, hl4⟩ := rightN hP
  have K81 := hide fun (w' : World) (hw : Below w.heap.size w w') => numbers_yes W H A A1 l cs cap cap1 w' hP ((hr.below hw (Nat.le_refl _)).more hw.size) hcap hu ((hr1.below hw (Nat.le_refl _)).more hw.size) hcs hcs1 (by omega)
  have KA := hide (refRight_yes hP A cap)
  have KR := hide fun (o : Col) (ho : o.ok) (w' : World) (hw : Below w.heap.size w w') => refNear_any cs hcs A1 cap1 o ho w' ((hr1.below hw (Nat.le_refl _)).more hw.size) hcs1 (by omega)
  have KX := hide fun (w' : World) (hw : RowAt w' w'.heap.size .u8 A l) (x y : Nat) (hx : x < W) (hy : y < H) (o : Col) (ho : o = imgPx l W x y) => pix_is W H A l cap x y w' hP hw hx hy o ho
  have HRI := hide hr
  have HU := hide hu
  have t0 : ((cs.length : Int) == 0) = false := len_no0 (by omega)
  have mW : IntKind.i64.wrap ((W : Int) * (H : Int)) = ((W * H : Nat) : Int) := by
    have e : (W : Int) * (H : Int) = ((W * H : Nat) : Int) := by simp
    rw [e]; exact IntWalk.i64_in _ (by omega)
  obtain ⟨N, hN⟩ : ∃ N, N = W * H := ⟨_, rfl⟩
  rw [← hN] at mW hl4
  rw [← hN] at K81
  have HN := hide hN
  have hN6 : N ≤ 150 := by omega
  clear hl4 hN
  obtain ⟨bs, hbs⟩ : ∃ bs, bs = bytesL (l2.map (pickC cs)) := ⟨_, rfl⟩
  have K83 := hide fun (w' : World) (hw : Below w.heap.size w w') => (qimage_any X A2 A1 l2 cs cap2 cap1 w' hX hn (by omega) hmod ((hr2.below hw (Nat.le_refl _)).more hw.size) ((hr1.below hw (Nat.le_refl _)).more hw.size) (by omega) hu2).mono (R' := MadeL w' X (l2.length / X : Nat) bs) (by
    rintro e w'' (⟨-, h⟩ | ⟨h, -⟩)
    · rw [hbs]; exact h
    · exact absurd hall h)
  unfold MadeL at K83
  have HALL := hide hall
  have HBS := hide hbs
  obtain ⟨i0, hi, gz0, gz1, gz2⟩ := info_parts col_info
  have em : (l2.length : Int).tmod (X : Int) = ((l2.length % X : Nat) : Int) := tmod_nat _ X
  have ed : (l2.length : Int).tdiv (X : Int) = ((l2.length / X : Nat) : Int) := tdiv_nat _ X
  rw [hmod] at em
  have hYb : l2.length / X ≤ 300 := Nat.le_trans (Nat.div_le_self _ _) (by omega)
  generalize l2.length / X = Y at *
  have hx0 : ¬ ((X : Int) = 0) := by omega
  have hx1 : ¬ (X = 0) := by omega
  have n0 : ((l2.length : Int) == 0) = false := len_no0 (by omega)
  have a1 : decide ((X : Int) < 1) = false := by simp; omega
  have a2 : decide ((16384 : Int) < (X : Int)) = false := by simp; omega
  have hrn0 : ∃ ba oa, A2 = some ⟨ba, oa, none⟩ ∧ ba < w.heap.size ∧ ∀ i, i < l2.length → w.cell? ⟨ba, oa + i, none⟩ = some (.int .i64 (l2.getD i 0)) := by
    obtain ⟨ba, oa, rfl, hb, -⟩ := hr2 0 (by omega)
    refine ⟨ba, oa, rfl, hb, fun i hi => ?_⟩
    obtain ⟨b', o', e, -, h⟩ := hr2 i (by omega)
    injection e with e; injection e with e1 e2
    subst e1 e2
    exact h
  obtain ⟨ba, oa, rfl, hba, hcn⟩ := hrn0
  have HCN := hide hcn
  have HR1 := hide hr1
  clear hcn hr1 hr2
  generalize hn2 : l2.length = n2 at *
  generalize hm1 : cs.length = m1 at *
  have HN2 := hide hn2
  have HM1 := hide hm1
  clear hn2 hm1
  clear hP hall hr hcap hu hcs hu2 hmod hcs1 hbs
  go_enter Try.func19, Try.ntmps19
  go_wp2_with (first | (go_at_call 81; (with_reducible refine (K81.out _ (below_alloc w _)).mono ?_); rintro e w1 ⟨g9, c9, rfl, ho9, hb1⟩; obtain ⟨B1, hz, HW⟩ := own1 hb1; have P : Pic w1 w.heap.size W H A l cap := ⟨B1, (HRI.out.below HW (Nat.le_refl _)).more HW.size⟩; have PH1 := hide P; have HO1 := hide ho9; obtain ⟨a0, a1, a2, -⟩ := blk3 B1; clear hb1 P ho9) | (go_at_call 36; (with_reducible refine (KA.out _).mono ?_); rintro e w2 ⟨rfl, hb2⟩; clear a0 a1 a2 B1; have PH := hide (PH1.out.below hb2); have HO2 := hide (owns_belowB HO1.out hb2); have HW := bstep HW hb2; obtain ⟨a0, a1, a2⟩ := PH.out.cells; clear hb2 PH1 HO1))
  have HWP := hide HW
  clear HW a0 a1 a2 K81 KA
  go_loopw [53] (fun i wr => ∃ k : Nat, k ≤ N ∧ i = .int .i64 k ∧ Below w2.heap.size w2 wr) (fun i _ => N - (intOf i).toNat)
  case atStart => exact ⟨0, Nat.zero_le _, rfl, Below.refl _ _⟩
  case round =>
    obtain ⟨k, hk, rfl, hb⟩ := hrel
    by_cases hlt : k < N
    · have hx : k % W < W := Nat.mod_lt _ (by omega)
      have hy : k / W < H := Nat.div_lt_of_lt_mul (by rw [← HN.out]; exact hlt)
      have em : (k : Int).tmod (W : Int) = ((k % W : Nat) : Int) := tmod_nat k W
      have ed : (k : Int).tdiv (W : Int) = ((k / W : Nat) : Int) := tdiv_nat k W
      have hgn := nums_cell (owns_belowB HO2.out hb) hlt (nearL_at l W cs hlt)
      obtain ⟨q, hq⟩ : ∃ q, q = pxNear l W cs k := ⟨_, rfl⟩
      rw [← hq] at hgn
      unfold pxNear at hq
      rw [HM1.out] at hq
      obtain ⟨o, hoe⟩ : ∃ o, o = imgPx l W (k % W) (k / W) := ⟨_, rfl⟩
      rw [← hoe] at hq
      have hook : o.ok := by rw [hoe]; exact imgPx_ok HU.out _ _ _
      have KR1 := hide (KR.out o hook)
      rw [← hq] at KR1
      generalize k % W = x at hx em hoe
      generalize k / W = y at hy ed hoe
      have hW0 : ¬ ((W : Int) = 0) := by omega
      have hW1 : ¬ (W = 0) := by omega
      have ey : IntKind.i64.wrap (y : Int) = (y : Int) := IntWalk.i64_in _ (by omega)
      have hd : Below w2.heap.size w2 wr.drew := hb.drew
      have hP := PH.out.below hd
      have HX := hide (KX.out wr.drew hP.row x y hx hy o hoe)
      have HPR := hide (PH.out.below hb)
      obtain ⟨a0, a1, a2⟩ := (PH.out.below hb).cells
      have hwr := bstep HWP.out hb
      have KN := hide fun (w' : World) (hb : Below wr.heap.size wr w') => (KR1.out w' (bstep hwr hb)).mono (R' := fun e w'' => e = .returned (.int .i64 (q : Nat)) ∧ Below wr.heap.size wr w'') (fun e w'' h => ⟨h.1, bstep' hb h.2 hb.size⟩)
      have HB := hide hb
      have nqq : ((q : Int) != (q : Int)) = false := by simp
      have n1 : ¬ w.heap.size = wr.heap.size := by have := (PH.out.below hb).blk.lt; omega
      clear hP hb hwr hd hq hoe KR KR1 HO2 PH
      go_wp2_with fail
      first | (go_region_held3 (fun w' => w'.cell? ⟨w.heap.size, 0, none⟩ = some (.int .i64 (W : Int)) ∧ w'.cell? ⟨w.heap.size, 1, none⟩ = some (.int .i64 (H : Int)) ∧ w'.cell? ⟨w.heap.size, 2, none⟩ = some (.slice A l.length cap)) (simp (maxDischargeDepth := 20) [*, World.cell?_alloc_some, World.cell?_setCell_far]) (first | (go_at_call 39; (with_reducible refine HX.out.mono ?_); rintro e v2 ⟨rfl, rfl⟩) | (go_at_call 82; (with_reducible refine (KN.out _ (by (repeat (first | (with_reducible exact Below.refl _ _) | (with_reducible apply Below.drew) | (with_reducible refine balloc ?_ _))))).mono ?_); rintro e v3 ⟨rfl, hv3⟩; obtain ⟨a0, a1, a2⟩ := (HPR.out.below hv3).cells))) | fail
      go_wp2_with fail
      go_roundw
      case rel => exact ⟨k + 1, by omega, by go_num, bstep HB.out hv3⟩
      case measure => simp [intOf]; omega
    · have HW := bstep HWP.out hb
      clear hb HO2 PH KR KX HWP HRI HU
      clear mW hN6
      go_wp2_with (first | (go_at_call 83; (with_reducible refine (K83.out _ HW).mono ?_); rintro e w5 ⟨A5, c5, rfl, him, hb5⟩; have HW := bstep HW hb5; have HIM := hide him; clear hb5 him))
      clear hlt hk
      have HV0 := balloc HW (.cells #[.int .i64 X, .int .i64 (Y : Nat), .slice A5 bs.length c5] 34)
      have hT := Pic.new (x := (X : Int)) (y := ((Y : Nat) : Int)) (cap := c5) HIM.out.row
      generalize w5.alloc (.cells #[.int .i64 X, .int .i64 (Y : Nat), .slice A5 bs.length c5] 34) = V at HV0 hT ⊢
      obtain ⟨gt, hgt⟩ : ∃ g, g = w5.heap.size := ⟨_, rfl⟩
      rw [← hgt] at hT ⊢
      have HV := hide HV0
      have HT := hide hT
      clear HV0 hT HW hgt
      go_loopw [132, 15] (fun i v wr => ∃ (k : Nat) (v' : Value), k ≤ n2 ∧ i = .int .i64 k ∧ v' = v ∧ (∀ i, i < k → 0 ≤ l2.getD i 0 ∧ l2.getD i 0 < m1) ∧ wr.ownsRow V.heap.size 36 4 v' k (u8L (bytesL ((l2.take k).map (pickC cs)))) ∧ Below V.heap.size V wr) (fun i _ _ => n2 - (intOf i).toNat)
      case atStart => exact ⟨0, _, Nat.zero_le _, rfl, rfl, fun i hi => absurd hi (Nat.not_lt_zero _), World.ownsRow_nil _ _ _ _, Below.refl _ _⟩
      case round =>
        obtain ⟨k, v, hk, rfl, rfl, hin, ho, hb⟩ := hrel
        by_cases hlt : k < n2
        · have hbw := bstep HV.out hb
          have hck : wr.cell? ⟨ba, oa + k, none⟩ = some (.int .i64 (l2.getD k 0)) := (hbw.cell (p := ⟨ba, _, none⟩) hba).trans (HCN.out k hlt)
          obtain ⟨z, hz⟩ : ∃ z, z = l2.getD k 0 := ⟨_, rfl⟩
          rw [← hz] at hck
          have HZ := hide hz
          have HO := hide ho
          have HB := hide hb
          have HIN := hide hin
          clear hz ho hb hin
          by_cases hzr : 0 ≤ z ∧ z < m1
          · obtain ⟨j, rfl⟩ := Int.eq_ofNat_of_zero_le hzr.1
            have hj : j < m1 := by omega
            obtain ⟨bc, oc, rfl, hat⟩ := cols_at HR1.out (by rw [HM1.out]; omega)
            have hxk := (hat.below hbw).at_ j (by rw [HM1.out]; exact hj)
            obtain ⟨c, hc⟩ : ∃ c, c = cs.getD j ⟨0, 0, 0, 0⟩ := ⟨_, rfl⟩
            rw [← hc] at hxk
            obtain ⟨x0, x1, x2, x3⟩ := hxk
            have HC := hide hc
            have d1 : decide ((m1 : Int) ≤ (j : Int)) = false := by simp; omega
            clear hc hat hbw
            go_wp2_with (at_builtin; refine wpList_append_lies _ rfl _ _ _ rfl V.heap.size 36 i0 _ 4 4 Try.underlying58 hi gz0 gz1 gz2 rfl (by omega) v k _ rfl (HO.out.alloc _) ⟨wr.heap.size, 0, none⟩ 1 1 [.int .u8 c.r, .int .u8 c.g, .int .u8 c.b, .int .u8 c.a] rfl rfl (World.news_of_block (heap_alloc_new wr _)) (u8L_one [c.r, c.g, c.b, c.a]) (by omega) (by unfold maxLen; omega) (by omega) (by have := HB.out.size; simp; omega) (wr.heap.size + 1) (by simp) ?_; intro g' c' w7 hown2 hg2 hat2 hlt2)
            have hb7 := (HB.out.alloc HB.out.size (.cells #[.int .u8 c.r, .int .u8 c.g, .int .u8 c.b, .int .u8 c.a] 36)).grown hg2 (by simp; have := HB.out.size; omega) (fun q hq => (HO.out.lt q hq).1)
            have H7 := hide hown2
            have HB7 := hide hb7
            clear hown2 hg2 hat2 hlt2 hb7
            go_roundw
            case rel => exact ⟨k + 1, _, by omega, by go_num, rfl, fun i hi => HALL.out i (by rw [HN2.out]; omega), by rw [pick_succ l2 cs k j c (by rw [HN2.out]; exact hlt) HZ.out HC.out, u8L_append]; exact H7.out, HB7.out⟩
            case measure => simp [intOf]; omega
          · exact absurd (by have := HALL.out k (by rw [HN2.out]; exact hlt); rw [← HZ.out] at this; exact this) hzr
        · have hkn : k = n2 := by omega
          subst hkn
          rw [List.take_of_length_le (by rw [HN2.out]; exact Nat.le_refl _)] at ho
          rcases ho.2 with ⟨-, h0⟩ | ⟨g5, cap5, cur, rfl, hb5, hh, -⟩
          · omega
          obtain ⟨-, -, htr⟩ := TRow.of_own ho
          have hplen : (l2.map (pickC cs)).length = k := by rw [List.length_map]; exact HN2.out
          have HTR := hide htr
          have K84 := hide fun (w' : World) (hw : Below wr.heap.size wr w') => (by
            have h := bytes_any (some ⟨g5, 0, none⟩) (l2.map (pickC cs)) cap5 w' ((HTR.out.row.below hw (Nat.le_refl _)).more hw.size) (by rw [hplen]; omega)
            rw [hplen, ← HBS.out] at h
            exact h : Calls Try.prog 84 #[.slice (some ⟨g5, 0, none⟩) k cap5] w' fun e w'' => e = .returned (.string (strOfNums bs)) ∧ Below w'.heap.size w' w'')
          have hT2 := HT.out.below hb
          obtain ⟨t0', t1', t2'⟩ := hT2.cells
          have hdr : Below wr.heap.size wr wr.drew := (Below.refl _ _).drew
          have kc := conv_row c5 (hT2.below hdr).row
          have HT2 := hide hT2
          have HWW := hide (bstep HV.out hb)
          clear hT2 ho hb hin hh htr hplen
          have ey : IntKind.i64.wrap (Y : Int) = (Y : Int) := IntWalk.i64_in _ (by omega)
          have hss : ((strOfNums bs).toList == (strOfNums bs).toList) = true := beq_self_eq_true _
          go_wp2_with fail
          first | (go_region_held3 (fun w' => w'.cell? ⟨gt, 0, none⟩ = some (.int .i64 (X : Int)) ∧ w'.cell? ⟨gt, 1, none⟩ = some (.int .i64 (Y : Int)) ∧ w'.cell? ⟨gt, 2, none⟩ = some (.slice A5 bs.length c5) ∧ (convert 32 9 (.slice A5 bs.length c5)).run Try.prog w' = .ok (.string (strOfNums bs)) w') (go_keep) (first | (go_at_call 84; (with_reducible refine (K84.out _ hdr).mono ?_); rintro e y1 ⟨rfl, hy1⟩; have hd1 := hdr.trans hy1; have hT3 := HT2.out.below hd1; obtain ⟨t0', t1', t2'⟩ := hT3.cells; have kc := conv_row c5 hT3.row) | (go_at_call 46; (with_reducible refine (awake36 _).mono ?_); rintro e y2 ⟨rfl, hy2⟩; have hd2 := bstep hd1 hy2; have hT4 := HT2.out.below hd2; obtain ⟨t0', t1', t2'⟩ := hT4.cells; have kc := conv_row c5 hT4.row))) | fail
          go_wp2
          go_ret
          exact ⟨rfl, bstep HWW.out hd2⟩
end Go.Proofs.Ytkjnheikimpliaa
