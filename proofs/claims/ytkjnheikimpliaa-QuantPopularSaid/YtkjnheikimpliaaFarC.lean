/- The reference's Nearest: walked. -/
import Derived.Test.YtkjnheikimpliaaFarB
namespace Go.Proofs.Ytkjnheikimpliaa
set_option linter.unusedVariables false
set_option linter.unusedSimpArgs false
open Go.RowKit
attribute [local go_sem ↓] Go.wp_at_zero Go.wp_at_succ

set_option maxRecDepth 100000 in
set_option maxHeartbeats 8000000 in
theorem refNear_any (cs : List Col) (hcs : ∀ k, k < cs.length → (cs.getD k ⟨0, 0, 0, 0⟩).ok) (A : Option Addr) (cap : Nat) (c : Col) (hc : c.ok) (w : World) (hr : RowAt w w.heap.size .u8 A (bytesL cs)) (hn : 1 ≤ cs.length) (hm : cs.length ≤ 1073741824) :
    Calls Try.prog 82 #[.slice A cs.length cap, colV c] w fun e w' => e = .returned (.int .i64 (nearN cs c cs.length : Nat)) ∧ Below w.heap.size w w' := by
  obtain ⟨b, off, rfl, hat⟩ := cols_at hr hn
  have HCS := hide hcs
  have HAT := hide hat
  have KF := hide fun (x : Col) (hx : x.ok) (w' : World) => refFar_any x c hx hc w'
  have hC0 := Blk.new w 36 #[.int .u8 c.r, .int .u8 c.g, .int .u8 c.b, .int .u8 c.a]
  have hb0 := below_alloc w (.cells #[.int .u8 c.r, .int .u8 c.g, .int .u8 c.b, .int .u8 c.a] 36)
  have HC0 := hide hC0
  have HB0 := hide hb0
  obtain ⟨n, hnn⟩ : ∃ n, n = cs.length := ⟨_, rfl⟩
  rw [← hnn] at hn hm ⊢
  have HN := hide hnn
  clear hcs hat hr hc hC0 hb0 hnn
  go_enter Try.func82, Try.ntmps82
  go_wp2_with fail
  go_loopw [6, 5] (fun i s5 wr => ∃ k : Nat, 1 ≤ k ∧ k ≤ n ∧ i = .int .i64 k ∧ s5 = .int .i64 (nearN cs c k : Nat) ∧ Blk wr w.heap.size 36 #[.int .u8 c.r, .int .u8 c.g, .int .u8 c.b, .int .u8 c.a] ∧ Below w.heap.size w wr) (fun i _ _ => n - (intOf i).toNat)
  case atStart =>
    have hn1 : nearN cs c 1 = 0 := by
      have : nearN cs c 1 < 1 := nearN_lt cs c 1 (by omega)
      omega
    exact ⟨1, Nat.le_refl _, hn, rfl, by rw [hn1]; rfl, HC0.out, HB0.out⟩
  case round =>
    obtain ⟨k, hk1, hk, rfl, rfl, hC, hw⟩ := hrel
    by_cases hlt : k < n
    · have hat := HAT.out.below hw
      obtain ⟨x, hx⟩ : ∃ x, x = cs.getD k ⟨0, 0, 0, 0⟩ := ⟨_, rfl⟩
      have hxk := hat.at_ k (by rw [← HN.out]; exact hlt)
      have hxo := HCS.out k (by rw [← HN.out]; exact hlt)
      rw [← hx] at hxk hxo
      obtain ⟨x0, x1, x2, x3⟩ := hxk
      have HX := hide hx
      clear hx
      obtain ⟨nb, hnb⟩ : ∃ nb, nb = nearN cs c k := ⟨_, rfl⟩
      have hnl : nb < k := by rw [hnb]; exact nearN_lt cs c k hk1
      obtain ⟨y, hy⟩ : ∃ y, y = cs.getD nb ⟨0, 0, 0, 0⟩ := ⟨_, rfl⟩
      have hyo := HCS.out nb (by rw [← HN.out]; omega)
      rw [← hy] at hyo
      rw [← hnb]
      obtain ⟨V, rfl⟩ : ∃ V : World, V = wr := ⟨_, rfl⟩
      have KX := hide fun (w' : World) (hb : Below V.heap.size V w') => (KF.out x hxo w').mono (R' := fun e w'' => e = .returned (.int .i64 (farV x c)) ∧ Below V.heap.size V w'') (fun e w'' h => ⟨h.1, bstep' hb h.2 hb.size⟩)
      have KY := hide fun (w' : World) (hb : Below V.heap.size V w') => (KF.out y hyo w').mono (R' := fun e w'' => e = .returned (.int .i64 (farV y c)) ∧ Below V.heap.size V w'') (fun e w'' h => ⟨h.1, bstep' hb h.2 hb.size⟩)
      have hyes : farV x c < farV y c → nearN cs c (k + 1) = k := fun h => nearN_yes (by rw [← HX.out, ← hnb, ← hy]; exact h)
      have hno : ¬ farV x c < farV y c → nearN cs c (k + 1) = nb := fun h => by rw [nearN_no (by rw [← HX.out, ← hnb, ← hy]; exact h), hnb]
      have HYES := hide hyes
      have HNO := hide hno
      have HHW := hide hw
      have HCV := hide hC
      have HAV := hide hat
      have hyk := hat.at_ nb (by rw [← HN.out]; omega)
      rw [← hy] at hyk
      obtain ⟨y0, y1, y2, y3⟩ := hyk
      obtain ⟨c0, c1, c2, c3, -⟩ := blk4 hC
      have HY := hide hy
      have hnbn : nb < n := by omega
      have lc := hC.lt
      have HNB := hide (show nb < cs.length by rw [← HN.out]; exact hnbn)
      have HKB := hide (show k < cs.length by rw [← HN.out]; exact hlt)
      clear hy hnb hyes hno hC hw hat hxo hyo
      obtain ⟨fx, hfx⟩ : ∃ f, f = farV x c := ⟨_, rfl⟩
      obtain ⟨fy, hfy⟩ : ∃ f, f = farV y c := ⟨_, rfl⟩
      rw [← hfx] at KX HYES HNO
      rw [← hfy] at KY HYES HNO
      clear hfx hfy
      have hd0 := Below.refl V.heap.size V
      go_upto_region 5 with fail
      go_cut [25] (fun s wx => s = .bool (decide (fx < fy)) ∧ Below V.heap.size V wx)
      case first =>
        clear HYES HNO HHW HCS HAT KF HN
        by_cases hlt2 : fx < fy
        · have d1 : decide (fx < fy) = true := decide_eq_true hlt2
          first | (go_region_held3 (fun w' => w'.cell? ⟨b, off + k * 4, none⟩ = some (.int .u8 x.r) ∧ w'.cell? ⟨b, off + k * 4 + 1, none⟩ = some (.int .u8 x.g) ∧ w'.cell? ⟨b, off + k * 4 + 2, none⟩ = some (.int .u8 x.b) ∧ w'.cell? ⟨b, off + k * 4 + 3, none⟩ = some (.int .u8 x.a) ∧ w'.cell? ⟨w.heap.size, 0, none⟩ = some (.int .u8 c.r) ∧ w'.cell? ⟨w.heap.size, 1, none⟩ = some (.int .u8 c.g) ∧ w'.cell? ⟨w.heap.size, 2, none⟩ = some (.int .u8 c.b) ∧ w'.cell? ⟨w.heap.size, 3, none⟩ = some (.int .u8 c.a) ∧ w'.cell? ⟨b, off + nb * 4, none⟩ = some (.int .u8 y.r) ∧ w'.cell? ⟨b, off + nb * 4 + 1, none⟩ = some (.int .u8 y.g) ∧ w'.cell? ⟨b, off + nb * 4 + 2, none⟩ = some (.int .u8 y.b) ∧ w'.cell? ⟨b, off + nb * 4 + 3, none⟩ = some (.int .u8 y.a)) (go_keep) (first | (go_at_call 131; (with_reducible refine (KX.out _ (by (repeat (first | (with_reducible exact hd) | (with_reducible exact Below.refl _ _) | (with_reducible apply Below.drew) | (with_reducible refine balloc ?_ _))))).mono ?_); rintro e z1 ⟨rfl, hd⟩; obtain ⟨c0, c1, c2, c3, -⟩ := blk4 (HCV.out.below hd lc); have hyk := (HAV.out.below hd).at_ nb HNB.out; rw [← HY.out] at hyk; obtain ⟨y0, y1, y2, y3⟩ := hyk; have hxk := (HAV.out.below hd).at_ k HKB.out; rw [← HX.out] at hxk; obtain ⟨x0, x1, x2, x3⟩ := hxk) | (go_at_call 131; (with_reducible refine (KY.out _ (by (repeat (first | (with_reducible exact hd) | (with_reducible exact Below.refl _ _) | (with_reducible apply Below.drew) | (with_reducible refine balloc ?_ _))))).mono ?_); rintro e z2 ⟨rfl, hd⟩; obtain ⟨c0, c1, c2, c3, -⟩ := blk4 (HCV.out.below hd lc); have hyk := (HAV.out.below hd).at_ nb HNB.out; rw [← HY.out] at hyk; obtain ⟨y0, y1, y2, y3⟩ := hyk; have hxk := (HAV.out.below hd).at_ k HKB.out; rw [← HX.out] at hxk; obtain ⟨x0, x1, x2, x3⟩ := hxk))) | fail
          all_goals
            go_wp2_with fail
            go_meet
            exact ⟨by simp [d1], by first | exact hd | exact hd.drew⟩
        · have d1 : decide (fx < fy) = false := decide_eq_false hlt2
          first | (go_region_held3 (fun w' => w'.cell? ⟨b, off + k * 4, none⟩ = some (.int .u8 x.r) ∧ w'.cell? ⟨b, off + k * 4 + 1, none⟩ = some (.int .u8 x.g) ∧ w'.cell? ⟨b, off + k * 4 + 2, none⟩ = some (.int .u8 x.b) ∧ w'.cell? ⟨b, off + k * 4 + 3, none⟩ = some (.int .u8 x.a) ∧ w'.cell? ⟨w.heap.size, 0, none⟩ = some (.int .u8 c.r) ∧ w'.cell? ⟨w.heap.size, 1, none⟩ = some (.int .u8 c.g) ∧ w'.cell? ⟨w.heap.size, 2, none⟩ = some (.int .u8 c.b) ∧ w'.cell? ⟨w.heap.size, 3, none⟩ = some (.int .u8 c.a) ∧ w'.cell? ⟨b, off + nb * 4, none⟩ = some (.int .u8 y.r) ∧ w'.cell? ⟨b, off + nb * 4 + 1, none⟩ = some (.int .u8 y.g) ∧ w'.cell? ⟨b, off + nb * 4 + 2, none⟩ = some (.int .u8 y.b) ∧ w'.cell? ⟨b, off + nb * 4 + 3, none⟩ = some (.int .u8 y.a)) (go_keep) (first | (go_at_call 131; (with_reducible refine (KX.out _ (by (repeat (first | (with_reducible exact hd) | (with_reducible exact Below.refl _ _) | (with_reducible apply Below.drew) | (with_reducible refine balloc ?_ _))))).mono ?_); rintro e z1 ⟨rfl, hd⟩; obtain ⟨c0, c1, c2, c3, -⟩ := blk4 (HCV.out.below hd lc); have hyk := (HAV.out.below hd).at_ nb HNB.out; rw [← HY.out] at hyk; obtain ⟨y0, y1, y2, y3⟩ := hyk; have hxk := (HAV.out.below hd).at_ k HKB.out; rw [← HX.out] at hxk; obtain ⟨x0, x1, x2, x3⟩ := hxk) | (go_at_call 131; (with_reducible refine (KY.out _ (by (repeat (first | (with_reducible exact hd) | (with_reducible exact Below.refl _ _) | (with_reducible apply Below.drew) | (with_reducible refine balloc ?_ _))))).mono ?_); rintro e z2 ⟨rfl, hd⟩; obtain ⟨c0, c1, c2, c3, -⟩ := blk4 (HCV.out.below hd lc); have hyk := (HAV.out.below hd).at_ nb HNB.out; rw [← HY.out] at hyk; obtain ⟨y0, y1, y2, y3⟩ := hyk; have hxk := (HAV.out.below hd).at_ k HKB.out; rw [← HX.out] at hxk; obtain ⟨x0, x1, x2, x3⟩ := hxk))) | fail
          all_goals
            go_wp2_with fail
            go_meet
            exact ⟨by simp [d1], by first | exact hd | exact hd.drew⟩
      case rest =>
        obtain ⟨rfl, hdc⟩ := hcut
        by_cases hlt2 : fx < fy
        · have d1 : decide (fx < fy) = true := decide_eq_true hlt2
          have HK := hide (HYES.out hlt2)
          go_wp2_with fail
          go_roundw
          case rel => exact ⟨k + 1, by omega, by omega, by go_num, by rw [HK.out], HCV.out.below hdc lc, bstep HHW.out hdc⟩
          case measure => simp [intOf]; omega
        · have d1 : decide (fx < fy) = false := decide_eq_false hlt2
          have HK := hide (HNO.out hlt2)
          go_wp2_with fail
          go_roundw
          case rel => exact ⟨k + 1, by omega, by omega, by go_num, by rw [HK.out], HCV.out.below hdc lc, bstep HHW.out hdc⟩
          case measure => simp [intOf]; omega
    · have hkn : k = n := by omega
      rw [hkn]
      have HW := hide hw
      clear hw hC
      go_wp2_with fail
      go_ret
      exact ⟨rfl, HW.out⟩
end Go.Proofs.Ytkjnheikimpliaa
