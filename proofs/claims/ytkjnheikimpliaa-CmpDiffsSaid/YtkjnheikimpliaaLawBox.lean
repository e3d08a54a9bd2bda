/- The law CmpBoxes, at a right image. -/
import Derived.Test.YtkjnheikimpliaaBoxD
import Derived.Test.YtkjnheikimpliaaLawDithB
namespace Go.Proofs.Ytkjnheikimpliaa
set_option linter.unusedVariables false
set_option linter.unusedSimpArgs false
open Go.RowKit
attribute [local go_sem ↓] Go.wp_at_zero Go.wp_at_succ

theorem bool_info : (Try.prog.info? 4).map (fun i => (i.zero, i.size, i.bytes)) = some (some (.bool false), 1, 1) := by kernel_rfl
/-- What is owned stays, whatever is made beyond. -/
theorem owns_below {w w' : World} {base n sz : Nat} {e : TypeId} {v : Value} {xs : List Value} (h : w.ownsRow base e sz v n xs) (hb : Below w.heap.size w w') : w'.ownsRow base e sz v n xs := by
  refine ⟨h.1, ?_⟩
  rcases h.2 with h2 | ⟨g, cap, cur, hv, hb1, hh, h3⟩
  · exact .inl h2
  · exact .inr ⟨g, cap, cur, hv, hb1, (hb.block g (Blk.lt (t := e) (cs := cur) hh)).trans hh, h3⟩
/-- Marks, as cells. -/
def marksL (mk : Nat → Bool) (k : Nat) : List Value := (List.range k).map fun i => .bool (mk i)
theorem marksL_succ (mk : Nat → Bool) (k : Nat) : marksL mk (k + 1) = marksL mk k ++ [.bool (mk k)] := by simp [marksL, List.range_succ]
theorem marks_cell {w : World} {base n g c : Nat} {e : TypeId} {mk : Nat → Bool} (h : w.ownsRow base e 1 (.slice (some ⟨g, 0, none⟩) n c) n (marksL mk n)) : ∀ k, k < n → w.cell? ⟨g, k, none⟩ = some (.bool (mk k)) := fun k hk => owns_cell h k _ (by simp [marksL, hk])

/-- What the law's rounds find: the image's box, the colour's, the part's. -/
structure TrK (w : World) (p g : Nat) (W H : Nat) (x2 y2 : Int) (A : Option Addr) (l : List Int) (cap : Nat) (A2 : Option Addr) (l2 : List Int) (cap2 : Nat) (c : Col) : Prop where
  a : Pic w p W H A l cap
  c : Blk w (p + 1) 36 (col4 c)
  b : Pic w g x2 y2 A2 l2 cap2
theorem TrK.below {w w' : World} {p g W H : Nat} {x2 y2 : Int} {A : Option Addr} {l : List Int} {cap : Nat} {A2 : Option Addr} {l2 : List Int} {cap2 : Nat} {c : Col} (h : TrK w p g W H x2 y2 A l cap A2 l2 cap2 c) (hb : Below w.heap.size w w') : TrK w' p g W H x2 y2 A l cap A2 l2 cap2 c :=
  ⟨h.a.below hb, h.c.below hb h.c.lt, h.b.below hb⟩
/-- What Trim tells. -/
def TrimR (W H : Nat) (l : List Int) (c : Col) (x2 y2 : Int) (A2 : Option Addr) (l2 : List Int) (cap2 : Nat) (err : Int) : Prop :=
  ((markN W (diffMk l W c) (W * H)).sd = (0, 0, 0, 0) ∧ x2 = 0 ∧ y2 = 0 ∧ A2 = none ∧ l2 = [] ∧ cap2 = 0 ∧ err = 8) ∨
  ∃ X Y P Q : Nat, (markN W (diffMk l W c) (W * H)).sd = ((X : Int), (Y : Int), (P : Int), (Q : Int)) ∧ X + P ≤ W ∧ Y + Q ≤ H ∧ 1 ≤ P ∧ 1 ≤ Q ∧ x2 = P ∧ y2 = Q ∧ l2 = bytesL (pxs (partPx l W X Y) P (P * Q)) ∧ err = 0
theorem trim_any (W H : Nat) (A : Option Addr) (l : List Int) (cap : Nat) (c : Col) (w : World) (hR : rightI W H l.length) (hr : RowAt w w.heap.size .u8 A l) (hcap : l.length ≤ cap) :
    Calls Try.prog 86 #[imgV W H A l.length cap, colV c] w fun e w' => ∃ x2 y2 A2 l2 cap2 err, e = .returned (.tuple #[imgV x2 y2 A2 l2.length cap2, .int .i64 err]) ∧ RowAt w' w'.heap.size .u8 A2 l2 ∧ TrimR W H l c x2 y2 A2 l2 cap2 err ∧ Below w.heap.size w w' := by
  have hx := hR.1
  have hy := hR.2.1
  rcases mark_box W H (diffMk l W c) (by omega) (by omega) with hs | ⟨X, Y, P, Q, hs, h1, h2, h3, h4⟩
  · refine (trim_none W H A l cap c w hR hr hcap hs).mono ?_
    rintro e w' ⟨rfl, hb⟩
    exact ⟨0, 0, none, [], 0, 8, rfl, fun i hi => by simp at hi, .inl ⟨hs, rfl, rfl, rfl, rfl, rfl, rfl⟩, hb⟩
  · refine (trim_yes W H A l cap c w hR hr hcap X Y P Q hs h1 h2 h3 h4).mono ?_
    rintro e w' ⟨A2, cap2, rfl, him, hb⟩
    exact ⟨P, Q, A2, _, cap2, 0, rfl, him.row, .inr ⟨X, Y, P, Q, hs, h1, h2, h3, h4, rfl, rfl, rfl, rfl⟩, hb⟩

set_option maxRecDepth 100000 in
set_option maxHeartbeats 16000000 in
theorem boxes_yes (W H : Nat) (A : Option Addr) (l : List Int) (cap : Nat) (c : Col) (w : World) (hu : U8s l) (hr : RowAt w w.heap.size .u8 A l) (hcap : l.length ≤ cap) (h : ¬ 600 < l.length) (hR : rightI W H l.length) :
    Calls Try.prog 20 #[imgV W H A l.length cap, colV c] w fun e w' => e = .returned (.bool true) ∧ Below w.heap.size w w' := by
  obtain ⟨i0, hi, gz0, gz1, gz2⟩ := info_parts bool_info
  have hX : 1 ≤ W ∧ W ≤ 16384 := by have := hR.1; omega
  have hY : 1 ≤ H ∧ H ≤ 16384 := by have := hR.2.1; omega
  have hWH : W * H ≤ 268435456 := Nat.le_trans (Nat.mul_le_mul hX.2 hY.2) (by decide)
  have hN1 : 1 ≤ W * H := Nat.mul_le_mul hX.1 hY.1
  have d1 : decide ((600 : Int) < l.length) = false := by simp; omega
  have K1 := hide fun (w' : World) (hw : Below w.heap.size w w') => box_yes W H A l cap c w' hR ((hr.below hw (Nat.le_refl _)).more hw.size) hcap
  have K2 := hide fun (w' : World) (hw : Below w.heap.size w w') => trim_any W H A l cap c w' hR ((hr.below hw (Nat.le_refl _)).more hw.size) hcap
  have K3 := hide (refRight_yes hR A cap)
  have K4 := hide fun (x y : Nat) (w' : World) (hr' : RowAt w' w'.heap.size .u8 A l) (hx : x < W) (hy : y < H) (o : Col) (ho : o = imgPx l W x y) => (refPixel_any W H A l cap x y w' hR hr' ⟨by omega, by omega⟩ ⟨by omega, by omega⟩).mono (R' := fun e w'' => e = .returned (colV o) ∧ Below w'.heap.size w' w'') (by
    rintro e w'' ⟨rfl, hb⟩
    rw [nat_idx, ho]
    exact ⟨rfl, hb⟩)
  have KP := hide fun (x y : Nat) (w' : World) (hr' : RowAt w' w'.heap.size .u8 A l) (hx : x < W) (hy : y < H) (c : Col) (hc : c = imgPx l W x y) => pix_is W H A l cap x y w' hR hr' hx hy c hc
  have HR0 := hide hr
  have mW : IntKind.i64.wrap ((W : Int) * (H : Int)) = ((W * H : Nat) : Int) := by
    have e : (W : Int) * (H : Int) = ((W * H : Nat) : Int) := by simp
    rw [e]; exact IntWalk.i64_in _ (by omega)
  obtain ⟨mk, hmk⟩ : ∃ mk, mk = diffMk l W c := ⟨_, rfl⟩
  have K5 := hide fun (g cap : Nat) (w' : World) (hg : g < w'.heap.size) (hc : ∀ k, k < W * H → w'.cell? ⟨g, k, none⟩ = some (.bool (mk k))) => refBox_any W (W * H) mk g cap w' hX (by omega) hg hc
  rw [← hmk] at K1
  have HMK := hide hmk
  obtain ⟨sd, hsd⟩ : ∃ s, s = (markN W mk (W * H)).sd := ⟨_, rfl⟩
  rw [← hsd] at K1 K5
  have HSD := hide hsd
  obtain ⟨s1, s2, s3, s4⟩ := sd
  obtain ⟨N, hN⟩ : ∃ N, N = W * H := ⟨_, rfl⟩
  rw [← hN] at mW hWH K5 hN1
  have HN := hide hN
  clear h hR hr hcap hu hmk hsd hN
  go_enter Try.func20, Try.ntmps20
  go_wp2_with (first | (go_at_call 85; (with_reducible refine (K1.out _ (balloc (below_alloc w _) _)).mono ?_); rintro e w1 ⟨rfl, hb1⟩; obtain ⟨B1, B2, hz, HW⟩ := own2 hb1; obtain ⟨m0, m1, m2, -⟩ := blk3 B1; obtain ⟨u0, u1, u2, u3, -⟩ := blk4 B2; clear hb1) | (go_at_call 86; (with_reducible refine (K2.out _ HW).mono ?_); rintro e w2 ⟨x2, y2, A2, l2, cap2, err, rfl, hrow2, hT, hb2⟩; have C1 := B1.below hb2 B1.lt; have C2 := B2.below hb2 B2.lt; obtain ⟨m0, m1, m2, -⟩ := blk3x C1; have HW2 := bstep HW hb2; have HROW := hide hrow2; have HT := hide hT; clear hb2 hrow2 hT B1 B2 HW) | (go_at_call 36; (with_reducible refine (K3.out _).mono ?_); rintro e w3 ⟨rfl, hb3⟩; have P : TrK w3 w.heap.size w2.heap.size W H x2 y2 A l cap A2 l2 cap2 c := TrK.below ⟨⟨C1.alloc _, (HR0.out.below (balloc HW2 _) (Nat.le_refl _)).more (balloc HW2 _).size⟩, C2.alloc _, Pic.new HROW.out⟩ hb3; have HW3 := bstep (balloc HW2 _) hb3; obtain ⟨a0, a1, a2⟩ := P.a.cells; clear hb3 C1 C2 HW2))
  obtain ⟨g, hg⟩ : ∃ g, g = w2.heap.size := ⟨_, rfl⟩
  rw [← hg] at P ⊢
  have PH := hide P
  have HH := hide HW3
  have hwz := HW3.size
  have hz3 := P.c.lt
  have hz3g := P.b.blk.lt
  clear P HW3 hg a0 a1 a2 K1 K2 K3 m0 m1 m2 HROW
  go_loopw [66, 11] (fun i v wr => ∃ (k : Nat) (v' : Value), k ≤ N ∧ i = .int .i64 k ∧ v' = v ∧ wr.ownsRow w3.heap.size 4 1 v' k (marksL mk k) ∧ Below w3.heap.size w3 wr) (fun i _ _ => N - (intOf i).toNat)
  case atStart => exact ⟨0, _, Nat.zero_le _, rfl, rfl, World.ownsRow_nil _ _ _ _, Below.refl _ _⟩
  case round =>
    obtain ⟨k, v, hk, rfl, rfl, ho, hb⟩ := hrel
    have PR := PH.out.below hb
    obtain ⟨a0, a1, a2⟩ := PR.a.cells
    obtain ⟨u0, u1, u2, u3, -⟩ := blk4 PR.c
    by_cases hlt : k < N
    · have hx : k % W < W := Nat.mod_lt _ (by omega)
      have hy : k / W < H := Nat.div_lt_of_lt_mul (by rw [← HN.out]; exact hlt)
      have em : (k : Int).tmod (W : Int) = ((k % W : Nat) : Int) := tmod_nat k W
      have ed : (k : Int).tdiv (W : Int) = ((k / W : Nat) : Int) := tdiv_nat k W
      have hmk : mk k = !decide (imgPx l W (k % W) (k / W) = c) := by rw [HMK.out]; rfl
      generalize k % W = x at hx em hmk
      generalize k / W = y at hy ed hmk
      have hW0 : ¬ ((W : Int) = 0) := by omega
      have hW1 : ¬ (W = 0) := by omega
      have ey : IntKind.i64.wrap (y : Int) = (y : Int) := IntWalk.i64_in _ (by omega)
      obtain ⟨o, hoe⟩ : ∃ o, o = imgPx l W x y := ⟨_, rfl⟩
      rw [← hoe] at hmk
      have HX := hide (K4.out x y wr.drew (PR.below (Below.refl wr.heap.size wr).drew).a.row hx hy o hoe)
      have HP := hide PR
      have HL := hide ho
      have HB := hide hb
      clear ho hb PR hoe
      by_cases he : o = c
      · rw [decide_eq_true he] at hmk
        have HMKK := hide hmk
        have e4 : o.r = c.r ∧ o.g = c.g ∧ o.b = c.b ∧ o.a = c.a := by rw [he]; exact ⟨rfl, rfl, rfl, rfl⟩
        have q1 : (o.r == c.r) = true := by simpa using e4.1
        have q2 : (o.g == c.g) = true := by simpa using e4.2.1
        have q3 : (o.b == c.b) = true := by simpa using e4.2.2.1
        have q4 : (o.a == c.a) = true := by simpa using e4.2.2.2
        clear e4 he hmk
        go_wp2_with fail
        go_region_held3 (fun w' => w'.cell? ⟨w.heap.size, 0, none⟩ = some (.int .i64 (W : Int)) ∧ w'.cell? ⟨w.heap.size, 1, none⟩ = some (.int .i64 (H : Int)) ∧ w'.cell? ⟨w.heap.size, 2, none⟩ = some (.slice A l.length cap) ∧ w'.cell? ⟨w.heap.size + 1, 0, none⟩ = some (.int .u8 c.r) ∧ w'.cell? ⟨w.heap.size + 1, 1, none⟩ = some (.int .u8 c.g) ∧ w'.cell? ⟨w.heap.size + 1, 2, none⟩ = some (.int .u8 c.b) ∧ w'.cell? ⟨w.heap.size + 1, 3, none⟩ = some (.int .u8 c.a)) (go_keep) (first | (go_at_call 39; (with_reducible refine HX.out.mono ?_); rintro e w5 ⟨rfl, hb5⟩; have hb5d : Below wr.heap.size wr w5 := (Below.refl wr.heap.size wr).drew.trans hb5; have P5 := HP.out.below hb5d; obtain ⟨a0, a1, a2⟩ := P5.a.cells; obtain ⟨u0, u1, u2, u3, -⟩ := blk4 P5.c; have z5 := P5.a.blk.lt; have z5' := P5.c.lt; have HL1 := hide (owns_below HL.out hb5d); have HB3 := hide (HB.out.trans (hb5d.mono HB.out.size))) | (refine step_append_lies _ (by rfl) _ _ _ (by rfl) w3.heap.size 4 i0 _ 1 1 Try.underlying86 hi gz0 gz1 gz2 rfl (by omega) v k _ (by rfl) (HL1.out.alloc _) ⟨w5.heap.size, 0, none⟩ 1 1 [.bool false] (by rfl) (by rfl) (World.news_of_block (heap_alloc_new w5 _)) (by intro u hu; simp at hu; subst hu; rfl) (by omega) (by unfold maxLen; omega) (by omega) (by have := HB3.out.size; simp; omega) (w5.heap.size + 1) (by simp) ?_; intro g' c' w6 hown2 hg2 hat2 hlt2; have B6 := (P5.a.blk.alloc _).grown hg2 (fun e => by have := (HL1.out.lt _ e.symm).1; omega); obtain ⟨a0, a1, a2, -⟩ := blk3 B6; have C6 := (P5.c.alloc _).grown hg2 (fun e => by have := (HL1.out.lt _ e.symm).1; omega); obtain ⟨u0, u1, u2, u3, -⟩ := blk4 C6))
        have HB6 := hide ((HB3.out.alloc HB3.out.size _).grown hg2 (by simp; have := HB3.out.size; omega) (fun q hq => (HL1.out.lt q hq).1))
        have HO2 := hide hown2
        clear hown2 hg2 hat2
        go_wp2
        go_roundw
        case rel => exact ⟨k + 1, _, by omega, by go_num, rfl, by rw [marksL_succ, HMKK.out]; exact HO2.out, HB6.out⟩
        case measure => simp [intOf]; omega
      · rw [decide_eq_false he] at hmk
        have HMKK := hide hmk
        have hq : (o.r == c.r) = false ∨ ((o.r == c.r) = true ∧ (o.g == c.g) = false) ∨ ((o.r == c.r) = true ∧ (o.g == c.g) = true ∧ (o.b == c.b) = false) ∨ ((o.r == c.r) = true ∧ (o.g == c.g) = true ∧ (o.b == c.b) = true ∧ (o.a == c.a) = false) := by
          cases h1 : (o.r == c.r) <;> cases h2 : (o.g == c.g) <;> cases h3 : (o.b == c.b) <;> cases h4 : (o.a == c.a) <;> simp
          exact he (by cases o; cases c; simp at h1 h2 h3 h4; simp [h1, h2, h3, h4])
        clear he hmk
        rcases hq with q1 | ⟨q1, q2⟩ | ⟨q1, q2, q3⟩ | ⟨q1, q2, q3, q4⟩
        all_goals
          go_wp2_with fail
          go_region_held3 (fun w' => w'.cell? ⟨w.heap.size, 0, none⟩ = some (.int .i64 (W : Int)) ∧ w'.cell? ⟨w.heap.size, 1, none⟩ = some (.int .i64 (H : Int)) ∧ w'.cell? ⟨w.heap.size, 2, none⟩ = some (.slice A l.length cap) ∧ w'.cell? ⟨w.heap.size + 1, 0, none⟩ = some (.int .u8 c.r) ∧ w'.cell? ⟨w.heap.size + 1, 1, none⟩ = some (.int .u8 c.g) ∧ w'.cell? ⟨w.heap.size + 1, 2, none⟩ = some (.int .u8 c.b) ∧ w'.cell? ⟨w.heap.size + 1, 3, none⟩ = some (.int .u8 c.a)) (go_keep) (first | (go_at_call 39; (with_reducible refine HX.out.mono ?_); rintro e w5 ⟨rfl, hb5⟩; have hb5d : Below wr.heap.size wr w5 := (Below.refl wr.heap.size wr).drew.trans hb5; have P5 := HP.out.below hb5d; obtain ⟨a0, a1, a2⟩ := P5.a.cells; obtain ⟨u0, u1, u2, u3, -⟩ := blk4 P5.c; have z5 := P5.a.blk.lt; have z5' := P5.c.lt; have HL1 := hide (owns_below HL.out hb5d); have HB3 := hide (HB.out.trans (hb5d.mono HB.out.size))) | (refine step_append_lies _ (by rfl) _ _ _ (by rfl) w3.heap.size 4 i0 _ 1 1 Try.underlying86 hi gz0 gz1 gz2 rfl (by omega) v k _ (by rfl) (HL1.out.alloc _) ⟨w5.heap.size, 0, none⟩ 1 1 [.bool true] (by rfl) (by rfl) (World.news_of_block (heap_alloc_new w5 _)) (by intro u hu; simp at hu; subst hu; rfl) (by omega) (by unfold maxLen; omega) (by omega) (by have := HB3.out.size; simp; omega) (w5.heap.size + 1) (by simp) ?_; intro g' c' w6 hown2 hg2 hat2 hlt2; have B6 := (P5.a.blk.alloc _).grown hg2 (fun e => by have := (HL1.out.lt _ e.symm).1; omega); obtain ⟨a0, a1, a2, -⟩ := blk3 B6; have C6 := (P5.c.alloc _).grown hg2 (fun e => by have := (HL1.out.lt _ e.symm).1; omega); obtain ⟨u0, u1, u2, u3, -⟩ := blk4 C6))
          have HB6 := hide ((HB3.out.alloc HB3.out.size _).grown hg2 (by simp; have := HB3.out.size; omega) (fun q hq => (HL1.out.lt q hq).1))
          have HO2 := hide hown2
          clear hown2 hg2 hat2
          go_wp2
          go_roundw
          case rel => exact ⟨k + 1, _, by omega, by go_num, rfl, by rw [marksL_succ, HMKK.out]; exact HO2.out, HB6.out⟩
          case measure => simp [intOf]; omega
    · have hkN : k = N := by omega
      subst hkN
      rcases ho.2 with ⟨-, h0⟩ | ⟨g5, cap5, cur, rfl, hb5, hh, -⟩
      · omega
      have hcl := marks_cell ho
      have hg5 := own_lt ho
      have HWW := HH.out.trans (hb.mono (Nat.le_trans (Nat.le_of_lt (by omega : w.heap.size < w3.heap.size)) (Nat.le_refl _)))
      clear ho hb hh
      rcases HT.out with ⟨hsd, rfl, rfl, rfl, rfl, rfl, rfl⟩ | ⟨X, Y, P, Q, hsd, h1, h2, h3, h4, rfl, rfl, hl2, rfl⟩
      · have hs := HSD.out
        rw [HMK.out, hsd] at hs
        injection hs with e1 hs; injection hs with e2 hs; injection hs with e3 e4
        subst e1 e2 e3 e4
        obtain ⟨b0, b1, b2⟩ := PR.b.cells
        have PV := hide PR
        clear PR
        go_wp2_with (first | (go_at_call 80; (with_reducible refine (K5.out _ _ _ hg5 hcl).mono ?_); rintro e v1 ⟨rfl, hv1⟩; have PR := PV.out.below hv1; have HW1 := bstep HWW hv1; obtain ⟨a0, a1, a2⟩ := PR.a.cells; obtain ⟨b0, b1, b2⟩ := PR.b.cells) | (go_at_call 45; (with_reducible refine (is_zero _).mono ?_); rintro e v2 ⟨rfl, hv2⟩) | (go_at_call 34; (with_reducible refine (awake35 _).mono ?_); rintro e v3 ⟨rfl, hv3⟩))
        go_ret
        exact ⟨rfl, bstep (bstep HW1 hv2) hv3⟩
      · have hs := HSD.out
        rw [HMK.out, hsd] at hs
        injection hs with e1 hs; injection hs with e2 hs; injection hs with e3 e4
        subst e1 e2 e3 e4
        have el2 : l2 = bytesL (grid (partPx l W X Y) P Q).flatten := by rw [hl2, ← pxs_grid]
        have hR2 : rightI P Q l2.length := by rw [el2]; exact right_grid _ (by omega) (by omega)
        have hpx : ∀ x y, x < P → y < Q → imgPx l2 P x y = imgPx l W (X + x) (Y + y) := fun x y hx hy => by rw [el2, img_grid _ hx hy]; rfl
        have K6 := hide (refRight_yes hR2 A2 cap2)
        have KQ := hide fun (x y : Nat) (w' : World) (hr' : RowAt w' w'.heap.size .u8 A2 l2) (hx : x < P) (hy : y < Q) (c : Col) (hc : c = imgPx l2 P x y) => pix_is P Q A2 l2 cap2 x y w' hR2 hr' hx hy c hc
        have HPX := hide hpx
        have t1 : ((P : Int) == 0) = false := by simp; omega
        have hPQ : P * Q ≤ 268435456 := Nat.le_trans (Nat.mul_le_mul (by omega : P ≤ 16384) (by omega : Q ≤ 16384)) (by decide)
        have mP : IntKind.i64.wrap ((P : Int) * (Q : Int)) = ((P * Q : Nat) : Int) := by
          have e : (P : Int) * (Q : Int) = ((P * Q : Nat) : Int) := by simp
          rw [e]; exact IntWalk.i64_in _ (by omega)
        obtain ⟨N2, hN2⟩ : ∃ N2, N2 = P * Q := ⟨_, rfl⟩
        rw [← hN2] at mP hPQ
        have HN2 := hide hN2
        obtain ⟨b0, b1, b2⟩ := PR.b.cells
        have PV := hide PR
        clear PR hl2 el2 hR2 hpx hN2 hsd
        go_wp2_with (first | (go_at_call 80; (with_reducible refine (K5.out _ _ _ hg5 hcl).mono ?_); rintro e v1 ⟨rfl, hv1⟩; have PR := PV.out.below hv1; have HW1 := bstep HWW hv1; obtain ⟨a0, a1, a2⟩ := PR.a.cells; obtain ⟨b0, b1, b2⟩ := PR.b.cells; clear hv1) | (go_at_call 36; (with_reducible refine (K6.out _).mono ?_); rintro e v2 ⟨rfl, hv2⟩; have PS := PR.below hv2; have HW2 := bstep HW1 hv2; obtain ⟨a0, a1, a2⟩ := PS.a.cells; obtain ⟨b0, b1, b2⟩ := PS.b.cells; clear hv2))
        have PZ := hide PS
        have HZ := hide HW2
        clear PS HW2 PR HW1 a0 a1 a2 b0 b1 b2 K5 K4 HSD HT
        go_loopw [146] (fun i wr => ∃ k : Nat, k ≤ N2 ∧ i = .int .i64 k ∧ TrK wr w.heap.size g W H (P : Int) (Q : Int) A l cap A2 l2 cap2 c ∧ Below w.heap.size w wr) (fun i _ => N2 - (intOf i).toNat)
        case atStart => exact ⟨0, Nat.zero_le _, rfl, PZ.out, HZ.out⟩
        case round =>
          obtain ⟨k, hk, rfl, hP, hw⟩ := hrel
          by_cases hlt : k < N2
          · have hx : k % P < P := Nat.mod_lt _ (by omega)
            have hy : k / P < Q := Nat.div_lt_of_lt_mul (by rw [← HN2.out]; exact hlt)
            have em : (k : Int).tmod (P : Int) = ((k % P : Nat) : Int) := tmod_nat k P
            have ed : (k : Int).tdiv (P : Int) = ((k / P : Nat) : Int) := tdiv_nat k P
            generalize k % P = x at hx em
            generalize k / P = y at hy ed
            have hW0 : ¬ ((P : Int) = 0) := by omega
            have hW1 : ¬ (P = 0) := by omega
            have ey : IntKind.i64.wrap (y : Int) = (y : Int) := IntWalk.i64_in _ (by omega)
            have eX : IntKind.i64.wrap ((X : Int) + (x : Int)) = (X : Int) + (x : Int) := IntWalk.i64_in _ (by omega)
            have eY : IntKind.i64.wrap ((Y : Int) + (y : Int)) = (Y : Int) + (y : Int) := IntWalk.i64_in _ (by omega)
            obtain ⟨a0, a1, a2⟩ := hP.a.cells
            obtain ⟨b0, b1, b2⟩ := hP.b.cells
            obtain ⟨V1, rfl⟩ : ∃ V1 : World, V1 = wr := ⟨_, rfl⟩
            obtain ⟨d, hd⟩ : ∃ d, d = imgPx l2 P x y := ⟨_, rfl⟩
            have hd2 : d = imgPx l W (X + x) (Y + y) := by rw [hd, HPX.out x y hx hy]
            have HV1 := hide fun (w' : World) (hb : Below V1.heap.size V1 w') => KQ.out x y w' ((hP.b.row.below hb (Nat.le_refl _)).more hb.size) hx hy d hd
            have HV2 := fun (w' : World) (hb : Below V1.heap.size V1 w') => KP.out (X + x) (Y + y) w' ((hP.a.row.below hb (Nat.le_refl _)).more hb.size) (by omega) (by omega) d hd2
            rw [show ((X + x : Nat) : Int) = (X : Int) + (x : Int) by omega, show ((Y + y : Nat) : Int) = (Y : Int) + (y : Int) by omega] at HV2
            have HV2 := hide HV2
            have lt1 := hP.a.blk.lt
            have lt2 := hP.b.blk.lt
            have n1 : ¬ w.heap.size = V1.heap.size := by omega
            have n2 : ¬ g = V1.heap.size := by omega
            have HPV := hide hP
            have HWV := hide hw
            clear hP hw hd hd2
            go_upto_region 23 with fail
            go_cut [169] (fun s wx => s = .bool false ∧ Below V1.heap.size V1 wx)
            case first =>
              clear HPX K6 KP KQ
              first | (go_region_held3 (fun w' => w'.cell? ⟨w.heap.size, 0, none⟩ = some (.int .i64 (W : Int)) ∧ w'.cell? ⟨w.heap.size, 1, none⟩ = some (.int .i64 (H : Int)) ∧ w'.cell? ⟨w.heap.size, 2, none⟩ = some (.slice A l.length cap) ∧ w'.cell? ⟨g, 0, none⟩ = some (.int .i64 (P : Int)) ∧ w'.cell? ⟨g, 1, none⟩ = some (.int .i64 (Q : Int)) ∧ w'.cell? ⟨g, 2, none⟩ = some (.slice A2 l2.length cap2)) (simp (maxDischargeDepth := 20) [*, World.cell?_alloc_some, World.cell?_setCell_far]) (first | (go_at_call 39; (with_reducible refine (HV1.out _ (by (repeat (first | (with_reducible exact Below.refl _ _) | (with_reducible apply Below.drew) | (with_reducible refine balloc ?_ _))))).mono ?_); rintro e v1 ⟨rfl, rfl⟩) | (go_at_call 39; (with_reducible refine (HV2.out _ (by (repeat (first | (with_reducible exact Below.refl _ _) | (with_reducible apply Below.drew) | (with_reducible refine balloc ?_ _))))).mono ?_); rintro e v2 ⟨rfl, rfl⟩))) | fail
              all_goals
                go_wp2_with fail
                go_meet
                clear HV1 HV2 HPV HWV PH
                refine ⟨by first | rfl | simp, ?_⟩
                repeat (first | (with_reducible exact Below.refl _ _) | (with_reducible apply Below.drew) | (with_reducible refine balloc ?_ _))
            case rest =>
              obtain ⟨rfl, hB⟩ := hcut
              have hPw := HPV.out.below hB
              have hww := bstep HWV.out hB
              have HPw := hide hPw
              have HWw := hide hww
              clear hB hPw hww a0 a1 a2 b0 b1 b2 em ed ey eX eY HV1 HV2
              go_wp2_with fail
              go_roundw
              case rel => exact ⟨k + 1, by omega, by go_num, HPw.out, HWw.out⟩
              case measure => simp [intOf]; omega
          · have HW := hide hw
            clear hP hw
            go_wp2_with (go_at_call 34; (with_reducible refine (awake35 _).mono ?_); rintro e v3 ⟨rfl, hv3⟩)
            go_ret
            exact ⟨rfl, bstep HW.out hv3⟩

theorem cmpBoxes_law (w : World) (x y : Int) (A : Option Addr) (l : List Int) (cap : Nat) (_ : I64 x) (_ : I64 y) (hr : RowAt w w.heap.size .u8 A l) (hu : U8s l) (hm : l.length ≤ maxLen) (hcap : l.length ≤ cap) (c : Col) (hc : c.ok) :
    Calls Try.prog 20 #[imgV x y A l.length cap, colV c] w fun e w' => e = .returned (.bool true) ∧ Below w.heap.size w w' := by
  by_cases h : 600 < l.length
  · exact boxes_big x y A _ cap c w h
  by_cases hR : rightI x y l.length
  · have hx := hR.1.1
    have hy := hR.2.1.1
    obtain ⟨W, rfl⟩ := Int.eq_ofNat_of_zero_le (show 0 ≤ x by omega)
    obtain ⟨H, rfl⟩ := Int.eq_ofNat_of_zero_le (show 0 ≤ y by omega)
    exact boxes_yes W H A l cap c w hu hr hcap h hR
  · exact boxes_no x y A _ cap c w h hR
end Go.Proofs.Ytkjnheikimpliaa
