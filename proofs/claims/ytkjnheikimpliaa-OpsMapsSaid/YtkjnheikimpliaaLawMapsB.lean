/- The law OpsMaps, walked. -/
import Derived.Test.YtkjnheikimpliaaLawMaps
namespace Go.Proofs.Ytkjnheikimpliaa
set_option linter.unusedVariables false
set_option linter.unusedSimpArgs false
open Go.RowKit
attribute [local go_sem ↓] Go.wp_at_zero Go.wp_at_succ

theorem blk3xx' {w : World} {g : Nat} {t : TypeId} {a b c : Value} (h : Blk w g t #[a, b, c]) : (∀ o, (w.alloc o).cell? ⟨g, 0, none⟩ = some a) ∧ (∀ o, (w.alloc o).cell? ⟨g, 1, none⟩ = some b) ∧ (∀ o, (w.alloc o).cell? ⟨g, 2, none⟩ = some c) := ⟨fun o => (h.alloc o).cell 0, fun o => (h.alloc o).cell 1, fun o => (h.alloc o).cell 2⟩
theorem blk4xx {w : World} {g : Nat} {t : TypeId} {a b c d : Value} (h : Blk w g t #[a, b, c, d]) : (∀ o, (w.alloc o).cell? ⟨g, 0, none⟩ = some a) ∧ (∀ o, (w.alloc o).cell? ⟨g, 1, none⟩ = some b) ∧ (∀ o, (w.alloc o).cell? ⟨g, 2, none⟩ = some c) ∧ (∀ o, (w.alloc o).cell? ⟨g, 3, none⟩ = some d) := ⟨fun o => (h.alloc o).cell 0, fun o => (h.alloc o).cell 1, fun o => (h.alloc o).cell 2, fun o => (h.alloc o).cell 3⟩
/-- A box of an image that Fill has handed back, and the colour's. -/
structure FilB (w v : World) (gf : Nat) (c : Col) (fx fy : Int) (A : Option Addr) (n cap : Nat) : Prop where
  f : Blk v gf 34 #[.int .i64 fx, .int .i64 fy, .slice A n cap]
  c : Blk v (w.heap.size + 1) 36 #[.int .u8 c.r, .int .u8 c.g, .int .u8 c.b, .int .u8 c.a]
theorem FilB.below {w v v' : World} {gf : Nat} {c : Col} {fx fy : Int} {A : Option Addr} {n cap : Nat} (h : FilB w v gf c fx fy A n cap) (hb : Below v.heap.size v v') : FilB w v' gf c fx fy A n cap := ⟨h.f.below hb h.f.lt, h.c.below hb h.c.lt⟩
theorem FilB.cells {w v : World} {gf : Nat} {c : Col} {fx fy : Int} {A : Option Addr} {n cap : Nat} (h : FilB w v gf c fx fy A n cap) :
    (v.cell? ⟨gf, 0, none⟩ = some (.int .i64 fx) ∧ v.cell? ⟨gf, 1, none⟩ = some (.int .i64 fy) ∧ v.cell? ⟨gf, 2, none⟩ = some (.slice A n cap)) ∧ v.cell? ⟨w.heap.size + 1, 0, none⟩ = some (.int .u8 c.r) ∧ v.cell? ⟨w.heap.size + 1, 1, none⟩ = some (.int .u8 c.g) ∧ v.cell? ⟨w.heap.size + 1, 2, none⟩ = some (.int .u8 c.b) ∧ v.cell? ⟨w.heap.size + 1, 3, none⟩ = some (.int .u8 c.a) :=
  ⟨⟨h.f.cell 0, h.f.cell 1, h.f.cell 2⟩, h.c.cell 0, h.c.cell 1, h.c.cell 2, h.c.cell 3⟩

set_option maxRecDepth 100000 in
set_option maxHeartbeats 8000000 in
theorem maps_no (x y : Int) (A : Option Addr) (l : List Int) (cap : Nat) (a b : Int) (c : Col) (w : World) (h : ¬ 600 < l.length) (hR : ¬ rightI x y l.length) (ha : a ≤ 40 ∨ 16384 < a) (hb : b ≤ 40 ∨ 16384 < b) (hcok : c.ok) :
    Calls Try.prog 11 #[imgV x y A l.length cap, .int .i64 a, .int .i64 b, colV c] w fun e w' => e = .returned (.bool true) ∧ Below w.heap.size w w' := by
  have K1 := hide (big_no h x y A cap)
  have K2 := hide fun (gk : Nat) => map_no hR A cap (.func (.func 57) #[] #[.pointer (some ⟨gk, 0, none⟩)]) rfl
  have K3 := hide (refRight_no hR A cap)
  unfold Refused at K2
  clear hR
  have KF := hide fun (w' : World) => fill_any a b c ha hb w'
  have KF : Hid (∀ w' : World, Calls Try.prog 58 #[.int .i64 a, .int .i64 b, .agg #[.int .u8 c.r, .int .u8 c.g, .int .u8 c.b, .int .u8 c.a]] w' fun e w'' => ∃ fx fy A n cap err, e = .returned (.tuple #[imgV fx fy A n cap, .int .i64 err]) ∧ FillR w' a b c fx fy A n cap err w'' ∧ Below w'.heap.size w' w'') := KF
  go_enter Try.func11, Try.ntmps11
  go_upto_region 1 with fail
  go_cut [35] (fun s wx => s = .bool false ∧ Blk wx w.heap.size 34 #[.int .i64 x, .int .i64 y, .slice A l.length cap] ∧ Blk wx (w.heap.size + 1) 36 #[.int .u8 c.r, .int .u8 c.g, .int .u8 c.b, .int .u8 c.a] ∧ Below w.heap.size w wx)
  case first =>
    clear KF K2 K3
    rcases ha with ha | ha <;> rcases hb with hb | hb
    all_goals
      go_wp2_with (go_at_call 50; (with_reducible refine (K1.out _).mono ?_); rintro e w1 ⟨rfl, hb1⟩; obtain ⟨B1, B2, hz, HW⟩ := own2 hb1; have H1 := hide B1; have H2 := hide B2; clear hb1 B1 B2)
      go_meet
      exact ⟨by first | rfl | (simp; omega), H1.out, H2.out, HW⟩
  case rest =>
    obtain ⟨rfl, hm, hc, hw⟩ := hcut
    obtain ⟨wk, rfl⟩ : ∃ wk : World, wk = wc := ⟨_, rfl⟩
    obtain ⟨m0, m1, m2⟩ := blk3xx' hm
    have lm := hm.lt
    have lc := hc.lt
    have hg1 : w.heap.size + 1 < wk.heap.size := lc
    have HI0 := hide (show MapsI w wk.heap.size x y A l.length cap c 0 (wk.alloc (.cells #[.int .i64 0] 3)) from ⟨balloc hw _, hm.alloc _, hc.alloc _, Blk.new _ _ _⟩)
    clear hm hc hw ha hb K1
    go_upto_region 6 with (first | (go_at_call 56; (with_reducible refine (K2.out _ _).mono ?_); rintro e w1 ⟨rfl, hb1⟩; have hI1 := hide (HI0.out.next hg1 hb1); obtain ⟨c0, c1, c2, c3⟩ := blk4xx hI1.out.c; clear hb1 HI0) | (go_at_call 58; (with_reducible refine (KF.out _).mono ?_); rintro e w2 ⟨fx, fy, A3, n3, cap3, err, rfl, hF, hb2⟩; have hI2 := (hI1.out.next hg1 (below_alloc w1 _)).next hg1 hb2; have Bn2 := (Blk.new w1 34 _).below hb2 (Blk.new w1 34 _).lt; have HF := hide hF; have HI2 := hide hI2; have HBn := hide Bn2; clear hI1 hF hI2 hb2 Bn2))
    have hIf := hide (HI2.out.next hg1 (below_alloc w2 (.cells #[.int .i64 fx, .int .i64 fy, .slice A3 n3 cap3] 34)))
    have hFB := hide (⟨Blk.new _ _ _, hIf.out.c⟩ : FilB w (w2.alloc (.cells #[.int .i64 fx, .int .i64 fy, .slice A3 n3 cap3] 34)) w2.heap.size c fx fy A3 n3 cap3)
    have hBn := hide (HBn.out.alloc (.cells #[.int .i64 fx, .int .i64 fy, .slice A3 n3 cap3] 34))
    have hFR : FillR (w1.alloc (.cells #[.int .i64 0, .int .i64 0, .slice none 0 0] 34)) a b c fx fy A3 n3 cap3 err w2 := HF.out
    clear m0 m1 m2 HI2 HBn HF c0 c1 c2 c3
    obtain ⟨gf, hgf⟩ : ∃ gf, gf = w2.heap.size := ⟨_, rfl⟩
    rw [← hgf] at hFB ⊢
    obtain ⟨gn, hgn⟩ : ∃ gn, gn = w1.heap.size := ⟨_, rfl⟩
    rw [← hgn] at hBn ⊢
    obtain ⟨V, hV⟩ : ∃ V, V = w2.alloc (.cells #[.int .i64 fx, .int .i64 fy, .slice A3 n3 cap3] 34) := ⟨_, rfl⟩
    have hrf : ∀ l3, RowAt w2 w2.heap.size .u8 A3 l3 → RowAt V V.heap.size .u8 A3 l3 := fun l3 h => by rw [hV]; exact (h.below (below_alloc w2 _) (Nat.le_refl _)).more (below_alloc w2 _).size
    rw [← hV] at hIf hFB hBn ⊢
    obtain ⟨⟨f0, f1, f2⟩, c0, c1, c2, c3⟩ := hFB.out.cells
    have HRF := hide hrf
    have HFR := hide hFR
    clear hV hrf hFR hgf hgn
    obtain ⟨fb, hfb⟩ : ∃ fb : Bool, fb = decide (a < 1 ∨ 16384 < a ∨ b < 1 ∨ 16384 < b) := ⟨_, rfl⟩
    go_cut [63] (fun s wx => s = .bool fb ∧ wx = V)
    case first =>
      have hab : (1 ≤ a ∧ a ≤ 16384 ∧ 1 ≤ b ∧ b ≤ 16384 ∧ fb = false) ∨ (a < 1 ∧ fb = true) ∨ (1 ≤ a ∧ 16384 < a ∧ fb = true) ∨ (1 ≤ a ∧ a ≤ 16384 ∧ b < 1 ∧ fb = true) ∨ (1 ≤ a ∧ a ≤ 16384 ∧ 1 ≤ b ∧ 16384 < b ∧ fb = true) := by
        by_cases hbad : a < 1 ∨ 16384 < a ∨ b < 1 ∨ 16384 < b
        · have : fb = true := by rw [hfb]; exact decide_eq_true hbad
          simp [this]; omega
        · have : fb = false := by rw [hfb]; exact decide_eq_false hbad
          simp [this]; omega
      clear HFR HRF hFB hIf hBn hfb
      rcases hab with ⟨g1, g2, g3, g4, g5⟩ | ⟨g1, g5⟩ | ⟨g1, g2, g5⟩ | ⟨g1, g2, g3, g5⟩ | ⟨g1, g2, g3, g4, g5⟩
      all_goals
        have G5 := hide g5
        clear g5
        go_wp2_with fail
        go_meet
        exact ⟨by rw [G5.out]; try (simp; omega), rfl⟩
    obtain ⟨h63, hwc⟩ := hcut
    rw [hwc, h63]
    clear h63 hwc
    go_upto_if 63 with fail
    go_cut [] (fun wx => Below V.heap.size V wx)
    case first =>
      have hfb0 : (1 ≤ a ∧ a ≤ 40) ∧ (1 ≤ b ∧ b ≤ 40) → fb = false := fun h => by rw [hfb]; exact decide_eq_false (by omega)
      have hfb1 : (a < 1 ∨ 16384 < a ∨ b < 1 ∨ 16384 < b) → fb = true := fun h => by rw [hfb]; exact decide_eq_true h
      clear hfb
      rcases HFR.out with ⟨FW, FH, lf, ⟨hW1, hW2⟩, ⟨hH1, hH2⟩, rfl, rfl, rfl, rfl, rfl, rfl, hRf, hpf, hrow⟩ | ⟨hbad, rfl, rfl, rfl, rfl, rfl, rfl⟩
      · obtain rfl := hfb0 ⟨⟨by omega, by omega⟩, by omega, by omega⟩
        clear hfb0 hfb1
        have KR := hide fun (A2 : Option Addr) (cap2 : Nat) => refRight_yes hRf A2 cap2
        have hrV := HRF.out lf hrow
        have KX := hide fun (w' : World) (hb : Below V.heap.size V w') (x y : Nat) (hx : x < FW) (hy : y < FH) => pix_is FW FH A3 lf cap3 x y w' hRf ((hrV.below hb (Nat.le_refl _)).more hb.size) hx hy c (hpf x y hx hy).symm
        have hWH : FW * FH ≤ 1600 := Nat.le_trans (Nat.mul_le_mul hW2 hH2) (by decide)
        have mF : IntKind.i64.wrap ((FW : Int) * (FH : Int)) = ((FW * FH : Nat) : Int) := by
          have e : (FW : Int) * (FH : Int) = ((FW * FH : Nat) : Int) := by simp
          rw [e]; exact IntWalk.i64_in _ (by omega)
        obtain ⟨N2, hN2⟩ : ∃ N2, N2 = FW * FH := ⟨_, rfl⟩
        rw [← hN2] at mF hWH
        have HN2 := hide hN2
        have HFB := hide hFB.out
        clear hRf hpf hrow hrV hN2 HFR hFB HRF
        go_wp2_with (go_at_call 36; (with_reducible refine (KR.out _ _ _).mono ?_); rintro e v1 ⟨rfl, hv1⟩; have hF1 := HFB.out.below hv1; obtain ⟨⟨f0, f1, f2⟩, c0, c1, c2, c3⟩ := hF1.cells; have hbv := hide hv1; have HF1 := hide hF1; clear hv1 hF1)
        go_loopw [90] (fun i wr => ∃ k : Nat, k ≤ N2 ∧ i = .int .i64 k ∧ FilB w wr gf c FW FH A3 lf.length cap3 ∧ Below V.heap.size V wr) (fun i _ => N2 - (intOf i).toNat)
        case atStart => exact ⟨0, Nat.zero_le _, rfl, HF1.out, hbv.out⟩
        case round =>
          obtain ⟨k, hk, rfl, hf, hwr⟩ := hrel
          by_cases hlt : k < N2
          · have hx : k % FW < FW := Nat.mod_lt _ (by omega)
            have hy : k / FW < FH := Nat.div_lt_of_lt_mul (by rw [← HN2.out]; exact hlt)
            have em : (k : Int).tmod (FW : Int) = ((k % FW : Nat) : Int) := tmod_nat k FW
            have ed : (k : Int).tdiv (FW : Int) = ((k / FW : Nat) : Int) := tdiv_nat k FW
            generalize k % FW = x1 at hx em
            generalize k / FW = y1 at hy ed
            have hW0 : ¬ ((FW : Int) = 0) := by omega
            have hW1' : ¬ (FW = 0) := by omega
            have ey : IntKind.i64.wrap (y1 : Int) = (y1 : Int) := IntWalk.i64_in _ (by omega)
            obtain ⟨⟨f0, f1, f2⟩, c0, c1, c2, c3⟩ := hf.cells
            have hd : Below V.heap.size V wr.drew := hwr.drew
            have HX := hide (KX.out wr.drew hd x1 y1 hx hy)
            have hfd : FilB w wr.drew gf c FW FH A3 lf.length cap3 := hf.below (Below.refl _ _).drew
            have HFD := hide hfd
            have HWD := hide hd
            have n1 : ¬ gf = wr.heap.size := by have := hf.f.lt; omega
            have n2 : ¬ w.heap.size + 1 = wr.heap.size := by have := hf.c.lt; omega
            clear hf hwr hd hfd
            go_wp2_with fail
            first | (go_region_held3 (fun w' => w'.cell? ⟨gf, 0, none⟩ = some (.int .i64 (FW : Int)) ∧ w'.cell? ⟨gf, 1, none⟩ = some (.int .i64 (FH : Int)) ∧ w'.cell? ⟨gf, 2, none⟩ = some (.slice A3 lf.length cap3) ∧ w'.cell? ⟨w.heap.size + 1, 0, none⟩ = some (.int .u8 c.r) ∧ w'.cell? ⟨w.heap.size + 1, 1, none⟩ = some (.int .u8 c.g) ∧ w'.cell? ⟨w.heap.size + 1, 2, none⟩ = some (.int .u8 c.b) ∧ w'.cell? ⟨w.heap.size + 1, 3, none⟩ = some (.int .u8 c.a)) (simp (maxDischargeDepth := 20) [*, World.cell?_alloc_some, World.cell?_setCell_far]) ((go_at_call 39; (with_reducible refine HX.out.mono ?_); rintro e v2 ⟨rfl, rfl⟩))) | fail
            all_goals
              have hbz : Below wr.heap.size wr.drew (((wr.drew.alloc (.cells #[.int .i64 (FW : Int), .int .i64 (FH : Int), .slice A3 lf.length cap3] 34)).alloc (.cells #[.int .u8 c.r, .int .u8 c.g, .int .u8 c.b, .int .u8 c.a] 36)).drew) := (balloc (below_alloc wr.drew _) _).drew
              go_wp2_with fail
              go_roundw
              case rel => exact ⟨k + 1, by omega, by go_num, HFD.out.below hbz, bstep HWD.out hbz⟩
              case measure => simp [intOf]; omega
          · have HW := hide hwr
            clear hf hwr
            go_wp2_with fail
            go_meet
            exact HW.out
      · obtain rfl := hfb1 (by omega)
        clear hfb0 hfb1
        have KN := hide fun (w' : World) => none_true 11 w'
        clear HRF HFR hbad
        all_goals
          go_wp2_with (go_at_call 53; (with_reducible refine (KN.out _).mono ?_); rintro e v1 ⟨rfl, hv1⟩)
          go_meet
          exact hv1
    case rest =>
      have hI := hIf.out.next hg1 hcut
      have hN := hBn.out.below hcut hBn.out.lt
      clear HRF HFR f0 f1 f2 c0 c1 c2 c3 hFB hIf hBn hcut
      have hk0 : wc.cell? ⟨wk.heap.size, 0, none⟩ = some (.int .i64 0) := hI.k.cell 0
      obtain ⟨m0, m1, m2, -⟩ := blk3 hI.m
      go_wp2_with (first | (go_at_call 36; (with_reducible refine (K3.out _).mono ?_); rintro e v1 ⟨rfl, hv1⟩; have hI := hI.next hg1 hv1; have hN := hN.below hv1 hN.lt; obtain ⟨m0, m1, m2, -⟩ := blk3 hN) | (go_at_call 53; (with_reducible refine (none_true 11 _).mono ?_); rintro e v2 ⟨rfl, hv2⟩; have hI := hI.next hg1 hv2; have k0 : v2.cell? ⟨wk.heap.size, 0, none⟩ = some (.int .i64 0) := hI.k.cell 0) | (go_at_call 51; (with_reducible refine (awake34 _).mono ?_); rintro e v3 ⟨rfl, hv3⟩))
      go_ret
      exact ⟨rfl, bstep hI.below hv3⟩
end Go.Proofs.Ytkjnheikimpliaa
