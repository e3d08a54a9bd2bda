/- The nearest of colours: palette.Nearest, the reference's Nearest: walked. -/
import Derived.Test.YtkjnheikimpliaaFarA
import Derived.Test.YtkjnheikimpliaaRefA
import Derived.Test.YtkjnheikimpliaaDithB
namespace Go.Proofs.Ytkjnheikimpliaa
set_option linter.unusedVariables false
set_option linter.unusedSimpArgs false
open Go.RowKit
attribute [local go_sem ↓] Go.wp_at_zero Go.wp_at_succ

/-- What is owned stays, whatever is made beyond. -/
theorem owns_belowB {w w' : World} {base n sz : Nat} {e : TypeId} {v : Value} {xs : List Value} (h : w.ownsRow base e sz v n xs) (hb : Below w.heap.size w w') : w'.ownsRow base e sz v n xs := by
  refine ⟨h.1, ?_⟩
  rcases h.2 with h2 | ⟨g, cap, cur, hv, hb1, hh, h3⟩
  · exact .inl h2
  · exact .inr ⟨g, cap, cur, hv, hb1, (hb.block g (Blk.lt (t := e) (cs := cur) hh)).trans hh, h3⟩
theorem owns_keepB {w w' : World} {base n sz : Nat} {e : TypeId} {v : Value} {xs : List Value} (h : w.ownsRow base e sz v n xs) (hk : ∀ k, base ≤ k → k < w.heap.size → w'.heap[k]? = w.heap[k]?) : w'.ownsRow base e sz v n xs := by
  refine ⟨h.1, ?_⟩
  rcases h.2 with h2 | ⟨g, cap, cur, hv, hb1, hh, h3⟩
  · exact .inl h2
  · exact .inr ⟨g, cap, cur, hv, hb1, (hk g hb1 (Blk.lt (t := e) (cs := cur) hh)).trans hh, h3⟩

/-- Four cells of a colour, at a place. -/
def CAt (w : World) (b q : Nat) (c : Col) : Prop := w.cell? ⟨b, q, none⟩ = some (.int .u8 c.r) ∧ w.cell? ⟨b, q + 1, none⟩ = some (.int .u8 c.g) ∧ w.cell? ⟨b, q + 2, none⟩ = some (.int .u8 c.b) ∧ w.cell? ⟨b, q + 3, none⟩ = some (.int .u8 c.a)
/-- The cells of a slice of colours. -/
structure CsAt (w : World) (b off : Nat) (cs : List Col) : Prop where
  lt : b < w.heap.size
  at_ : ∀ k, k < cs.length → CAt w b (off + k * 4) (cs.getD k ⟨0, 0, 0, 0⟩)
theorem CsAt.below {w w' : World} {b off : Nat} {cs : List Col} (h : CsAt w b off cs) (hb : Below w.heap.size w w') : CsAt w' b off cs :=
  ⟨Nat.lt_of_lt_of_le h.lt hb.size, fun k hk => by
    obtain ⟨h0, h1, h2, h3⟩ := h.at_ k hk
    exact ⟨(hb.cell (p := ⟨b, _, none⟩) h.lt).trans h0, (hb.cell (p := ⟨b, _, none⟩) h.lt).trans h1, (hb.cell (p := ⟨b, _, none⟩) h.lt).trans h2, (hb.cell (p := ⟨b, _, none⟩) h.lt).trans h3⟩⟩
theorem cols_at {w : World} {A : Option Addr} {cs : List Col} (hr : RowAt w w.heap.size .u8 A (bytesL cs)) (hn : 1 ≤ cs.length) : ∃ b off, A = some ⟨b, off, none⟩ ∧ CsAt w b off cs := by
  obtain ⟨b, off, rfl, hb, -⟩ := colAt hr 0 (by omega) _ (List.getElem?_eq_getElem (by omega))
  refine ⟨b, off, rfl, hb, fun k hk => ?_⟩
  obtain ⟨b', off', e, -, h0, h1, h2, h3⟩ := colAt hr k hk (cs.getD k ⟨0, 0, 0, 0⟩) (by simp [List.getD, hk])
  injection e with e; injection e with e1 e2
  subst e1 e2
  exact ⟨h0, h1, h2, h3⟩

/-- The first of those that are least far, among so many. -/
def nearN (cs : List Col) (c : Col) : Nat → Nat
  | 0 => 0
  | k + 1 => if farV (cs.getD k ⟨0, 0, 0, 0⟩) c < farV (cs.getD (nearN cs c k) ⟨0, 0, 0, 0⟩) c then k else nearN cs c k
theorem nearN_lt (cs : List Col) (c : Col) : ∀ k, 1 ≤ k → nearN cs c k < k := by
  intro k
  induction k with
  | zero => intro h; omega
  | succ k ih =>
    intro _
    show (if _ then k else nearN cs c k) < k + 1
    rcases Nat.eq_zero_or_pos k with h0 | h0
    · subst h0
      have : nearN cs c 0 = 0 := rfl
      split <;> omega
    · have := ih h0
      split <;> omega
theorem nearN_yes {cs : List Col} {c : Col} {k : Nat} (h : farV (cs.getD k ⟨0, 0, 0, 0⟩) c < farV (cs.getD (nearN cs c k) ⟨0, 0, 0, 0⟩) c) : nearN cs c (k + 1) = k := by
  show (if _ then k else nearN cs c k) = k
  rw [if_pos h]
theorem nearN_no {cs : List Col} {c : Col} {k : Nat} (h : ¬ farV (cs.getD k ⟨0, 0, 0, 0⟩) c < farV (cs.getD (nearN cs c k) ⟨0, 0, 0, 0⟩) c) : nearN cs c (k + 1) = nearN cs c k := by
  show (if _ then k else nearN cs c k) = _
  rw [if_neg h]

set_option maxRecDepth 100000 in
set_option maxHeartbeats 8000000 in
theorem near_any (cs : List Col) (hcs : ∀ k, k < cs.length → (cs.getD k ⟨0, 0, 0, 0⟩).ok) (A : Option Addr) (cap : Nat) (c : Col) (hc : c.ok) (w : World) (hr : RowAt w w.heap.size .u8 A (bytesL cs)) (hn : 1 ≤ cs.length) (hm : cs.length ≤ 1073741824) :
    Calls Try.prog 130 #[.slice A cs.length cap, colV c] w fun e w' => e = .returned (.tuple #[.int .i64 (nearN cs c cs.length : Nat), .bool true]) ∧ Below w.heap.size w w' := by
  obtain ⟨b, off, rfl, hat⟩ := cols_at hr hn
  have HCS := hide hcs
  have HAT := hide hat
  have KF := hide fun (x : Col) (hx : x.ok) (w' : World) => far_any x c hx hc w'
  have hC0 := Blk.new w 36 #[.int .u8 c.r, .int .u8 c.g, .int .u8 c.b, .int .u8 c.a]
  have hb0 := below_alloc w (.cells #[.int .u8 c.r, .int .u8 c.g, .int .u8 c.b, .int .u8 c.a] 36)
  have HC0 := hide hC0
  have HB0 := hide hb0
  obtain ⟨n, hnn⟩ : ∃ n, n = cs.length := ⟨_, rfl⟩
  rw [← hnn] at hn hm ⊢
  have HN := hide hnn
  clear hcs hat hr hc hC0 hb0 hnn
  go_enter Try.func130, Try.ntmps130
  go_wp2_with fail
  go_loopw [12, 6, 7] (fun i s6 s7 wr => ∃ k : Nat, k ≤ n ∧ i = .int .i64 k ∧ s6 = .int .i64 (nearN cs c k : Nat) ∧ s7 = .bool (decide (0 < k)) ∧ Blk wr w.heap.size 36 #[.int .u8 c.r, .int .u8 c.g, .int .u8 c.b, .int .u8 c.a] ∧ Below w.heap.size w wr) (fun i _ _ _ => n - (intOf i).toNat)
  case atStart => exact ⟨0, Nat.zero_le _, rfl, rfl, rfl, HC0.out, HB0.out⟩
  case round =>
    obtain ⟨k, hk, rfl, rfl, rfl, hC, hw⟩ := hrel
    by_cases hlt : k < n
    · have hat := HAT.out.below hw
      obtain ⟨x, hx⟩ : ∃ x, x = cs.getD k ⟨0, 0, 0, 0⟩ := ⟨_, rfl⟩
      have hxk := hat.at_ k (by rw [← HN.out]; exact hlt)
      have hxo := HCS.out k (by rw [← HN.out]; exact hlt)
      rw [← hx] at hxk hxo
      obtain ⟨x0, x1, x2, x3⟩ := hxk
      have HX := hide hx
      clear hx
      by_cases hk0 : k = 0
      · subst hk0
        have d0 : decide (0 < 0) = false := by decide
        simp only [Nat.zero_mul, Nat.add_zero] at x0 x1 x2 x3
        obtain ⟨c0, c1, c2, c3, -⟩ := blk4f' hC
        have HC := hide hC
        have HW := hide hw
        have lc := hC.lt
        clear hC hw hat
        go_wp2_with fail
        go_quiet (fail)
        go_wp2_with fail
        go_roundw
        case rel =>
          have hn1 : nearN cs c 1 = 0 := by
            have : nearN cs c 1 < 1 := nearN_lt cs c 1 (by omega)
            omega
          have hd : Below wr.heap.size wr ((wr.alloc (.cells #[.int .u8 x.r, .int .u8 x.g, .int .u8 x.b, .int .u8 x.a] 36)).drewN nq) := (below_alloc wr _).trans ((below_drewN _ _).mono (by simp))
          exact ⟨1, by omega, by go_num, by rw [hn1], rfl, HC.out.below hd lc, bstep HW.out hd⟩
        case measure => simp [intOf]; omega
      · have hk1 : 1 ≤ k := by omega
        have d0 : decide (0 < k) = true := by simp; omega
        obtain ⟨nb, hnb⟩ : ∃ nb, nb = nearN cs c k := ⟨_, rfl⟩
        have hnl : nb < k := by rw [hnb]; exact nearN_lt cs c k hk1
        obtain ⟨y, hy⟩ : ∃ y, y = cs.getD nb ⟨0, 0, 0, 0⟩ := ⟨_, rfl⟩
        have hyo := HCS.out nb (by rw [← HN.out]; omega)
        rw [← hy] at hyo
        rw [← hnb, d0]
        clear d0
        obtain ⟨V, hV⟩ : ∃ V, V = wr.alloc (.cells #[.int .u8 x.r, .int .u8 x.g, .int .u8 x.b, .int .u8 x.a] 36) := ⟨_, rfl⟩
        have hBV : Below wr.heap.size wr V := by rw [hV]; exact below_alloc wr _
        have hXV : Blk V wr.heap.size 36 #[.int .u8 x.r, .int .u8 x.g, .int .u8 x.b, .int .u8 x.a] := by rw [hV]; exact Blk.new _ _ _
        have hCV := hC.below hBV hC.lt
        have hAV := hat.below hBV
        have KX := hide fun (w' : World) (hb : Below V.heap.size V w') => (KF.out x hxo w').mono (R' := fun e w'' => e = .returned (.int .i64 (farV x c)) ∧ Below V.heap.size V w'') (fun e w'' h => ⟨h.1, bstep' hb h.2 hb.size⟩)
        have KY := hide fun (w' : World) (hb : Below V.heap.size V w') => (KF.out y hyo w').mono (R' := fun e w'' => e = .returned (.int .i64 (farV y c)) ∧ Below V.heap.size V w'') (fun e w'' h => ⟨h.1, bstep' hb h.2 hb.size⟩)
        have hyes : farV x c < farV y c → nearN cs c (k + 1) = k := fun h => nearN_yes (by rw [← HX.out, ← hnb, ← hy]; exact h)
        have hno : ¬ farV x c < farV y c → nearN cs c (k + 1) = nb := fun h => by rw [nearN_no (by rw [← HX.out, ← hnb, ← hy]; exact h), hnb]
        have HYES := hide hyes
        have HNO := hide hno
        have HHW := hide (bstep hw hBV)
        have HXV := hide hXV
        have HCV := hide hCV
        have HAV := hide hAV
        have hyk := hAV.at_ nb (by rw [← HN.out]; omega)
        rw [← hy] at hyk
        obtain ⟨y0, y1, y2, y3⟩ := hyk
        obtain ⟨p0, p1, p2, p3, -⟩ := blk4 hXV
        obtain ⟨c0, c1, c2, c3, -⟩ := blk4 hCV
        have HY := hide hy
        have hnbn : nb < n := by omega
        have lx := hXV.lt
        have lc := hCV.lt
        have HV := hide hV
        have HNB := hide (show nb < cs.length by rw [← HN.out]; exact hnbn)
        clear hy hnb hyes hno hBV hXV hCV hAV hC hw hat hxo hyo hV
        obtain ⟨fx, hfx⟩ : ∃ f, f = farV x c := ⟨_, rfl⟩
        obtain ⟨fy, hfy⟩ : ∃ f, f = farV y c := ⟨_, rfl⟩
        rw [← hfx] at KX HYES HNO
        rw [← hfy] at KY HYES HNO
        clear hfx hfy
        have hd0 := Below.refl V.heap.size V
        go_upto_region 5 with fail
        rw [← HV.out]
        go_cut [30] (fun s wx => s = .bool (decide (fx < fy)) ∧ Below V.heap.size V wx)
        case first =>
          clear HYES HNO HHW HCS HAT KF HX HN
          by_cases hlt2 : fx < fy
          · have d1 : decide (fx < fy) = true := decide_eq_true hlt2
            first | (go_region_held3 (fun w' => w'.cell? ⟨wr.heap.size, 0, none⟩ = some (.int .u8 x.r) ∧ w'.cell? ⟨wr.heap.size, 1, none⟩ = some (.int .u8 x.g) ∧ w'.cell? ⟨wr.heap.size, 2, none⟩ = some (.int .u8 x.b) ∧ w'.cell? ⟨wr.heap.size, 3, none⟩ = some (.int .u8 x.a) ∧ w'.cell? ⟨w.heap.size, 0, none⟩ = some (.int .u8 c.r) ∧ w'.cell? ⟨w.heap.size, 1, none⟩ = some (.int .u8 c.g) ∧ w'.cell? ⟨w.heap.size, 2, none⟩ = some (.int .u8 c.b) ∧ w'.cell? ⟨w.heap.size, 3, none⟩ = some (.int .u8 c.a) ∧ w'.cell? ⟨b, off + nb * 4, none⟩ = some (.int .u8 y.r) ∧ w'.cell? ⟨b, off + nb * 4 + 1, none⟩ = some (.int .u8 y.g) ∧ w'.cell? ⟨b, off + nb * 4 + 2, none⟩ = some (.int .u8 y.b) ∧ w'.cell? ⟨b, off + nb * 4 + 3, none⟩ = some (.int .u8 y.a)) (go_keep) (first | (go_at_call 140; (with_reducible refine (KX.out _ (by (repeat (first | (with_reducible exact hd) | (with_reducible exact Below.refl _ _) | (with_reducible apply Below.drew) | (with_reducible refine balloc ?_ _))))).mono ?_); rintro e z1 ⟨rfl, hd⟩; obtain ⟨p0, p1, p2, p3, -⟩ := blk4 (HXV.out.below hd lx); obtain ⟨c0, c1, c2, c3, -⟩ := blk4 (HCV.out.below hd lc); have hyk := (HAV.out.below hd).at_ nb HNB.out; rw [← HY.out] at hyk; obtain ⟨y0, y1, y2, y3⟩ := hyk) | (go_at_call 140; (with_reducible refine (KY.out _ (by (repeat (first | (with_reducible exact hd) | (with_reducible exact Below.refl _ _) | (with_reducible apply Below.drew) | (with_reducible refine balloc ?_ _))))).mono ?_); rintro e z2 ⟨rfl, hd⟩; obtain ⟨p0, p1, p2, p3, -⟩ := blk4 (HXV.out.below hd lx); obtain ⟨c0, c1, c2, c3, -⟩ := blk4 (HCV.out.below hd lc); have hyk := (HAV.out.below hd).at_ nb HNB.out; rw [← HY.out] at hyk; obtain ⟨y0, y1, y2, y3⟩ := hyk))) | fail
            all_goals
              go_wp2_with fail
              go_meet
              exact ⟨by simp [d1], by first | exact hd | exact hd.drew⟩
          · have d1 : decide (fx < fy) = false := decide_eq_false hlt2
            first | (go_region_held3 (fun w' => w'.cell? ⟨wr.heap.size, 0, none⟩ = some (.int .u8 x.r) ∧ w'.cell? ⟨wr.heap.size, 1, none⟩ = some (.int .u8 x.g) ∧ w'.cell? ⟨wr.heap.size, 2, none⟩ = some (.int .u8 x.b) ∧ w'.cell? ⟨wr.heap.size, 3, none⟩ = some (.int .u8 x.a) ∧ w'.cell? ⟨w.heap.size, 0, none⟩ = some (.int .u8 c.r) ∧ w'.cell? ⟨w.heap.size, 1, none⟩ = some (.int .u8 c.g) ∧ w'.cell? ⟨w.heap.size, 2, none⟩ = some (.int .u8 c.b) ∧ w'.cell? ⟨w.heap.size, 3, none⟩ = some (.int .u8 c.a) ∧ w'.cell? ⟨b, off + nb * 4, none⟩ = some (.int .u8 y.r) ∧ w'.cell? ⟨b, off + nb * 4 + 1, none⟩ = some (.int .u8 y.g) ∧ w'.cell? ⟨b, off + nb * 4 + 2, none⟩ = some (.int .u8 y.b) ∧ w'.cell? ⟨b, off + nb * 4 + 3, none⟩ = some (.int .u8 y.a)) (go_keep) (first | (go_at_call 140; (with_reducible refine (KX.out _ (by (repeat (first | (with_reducible exact hd) | (with_reducible exact Below.refl _ _) | (with_reducible apply Below.drew) | (with_reducible refine balloc ?_ _))))).mono ?_); rintro e z1 ⟨rfl, hd⟩; obtain ⟨p0, p1, p2, p3, -⟩ := blk4 (HXV.out.below hd lx); obtain ⟨c0, c1, c2, c3, -⟩ := blk4 (HCV.out.below hd lc); have hyk := (HAV.out.below hd).at_ nb HNB.out; rw [← HY.out] at hyk; obtain ⟨y0, y1, y2, y3⟩ := hyk) | (go_at_call 140; (with_reducible refine (KY.out _ (by (repeat (first | (with_reducible exact hd) | (with_reducible exact Below.refl _ _) | (with_reducible apply Below.drew) | (with_reducible refine balloc ?_ _))))).mono ?_); rintro e z2 ⟨rfl, hd⟩; obtain ⟨p0, p1, p2, p3, -⟩ := blk4 (HXV.out.below hd lx); obtain ⟨c0, c1, c2, c3, -⟩ := blk4 (HCV.out.below hd lc); have hyk := (HAV.out.below hd).at_ nb HNB.out; rw [← HY.out] at hyk; obtain ⟨y0, y1, y2, y3⟩ := hyk))) | fail
            all_goals
              go_wp2_with fail
              go_meet
              exact ⟨by simp [d1], by first | exact hd | exact hd.drew⟩
        case rest =>
          obtain ⟨rfl, hdc⟩ := hcut
          by_cases hlt2 : fx < fy
          · have d1 : decide (fx < fy) = true := decide_eq_true hlt2
            have HK := hide (HYES.out hlt2)
            go_wp2_with fail
            go_roundw
            case rel => exact ⟨k + 1, by omega, by go_num, by rw [HK.out], by simp, HCV.out.below hdc lc, bstep HHW.out hdc⟩
            case measure => simp [intOf]; omega
          · have d1 : decide (fx < fy) = false := decide_eq_false hlt2
            have HK := hide (HNO.out hlt2)
            go_wp2_with fail
            go_roundw
            case rel => exact ⟨k + 1, by omega, by go_num, by rw [HK.out], by simp, HCV.out.below hdc lc, bstep HHW.out hdc⟩
            case measure => simp [intOf]; omega
    · have hkn : k = n := by omega
      rw [hkn]
      have d0 : decide (0 < n) = true := by simp; omega
      rw [d0]
      have HW := hide hw
      clear hw hC d0
      go_wp2_with fail
      exact bodyPost_ret (v := .tuple #[.int .i64 (nearN cs c n : Nat), .bool true]) (by simp [results, Try.results130, go_sem]) rfl ⟨rfl, HW.out⟩
end Go.Proofs.Ytkjnheikimpliaa
