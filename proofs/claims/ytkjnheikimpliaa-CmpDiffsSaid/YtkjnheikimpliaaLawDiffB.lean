/- The law CmpDiffs, at images that are alike. -/
import Derived.Test.YtkjnheikimpliaaLawDiff
namespace Go.Proofs.Ytkjnheikimpliaa
set_option linter.unusedVariables false
set_option linter.unusedSimpArgs false
open Go.RowKit
attribute [local go_sem ↓] Go.wp_at_zero Go.wp_at_succ

structure DfK (v : World) (p gd gm : Nat) (W H : Nat) (A1 A2 A3 : Option Addr) (l1 l2 l3 : List Int) (c1 c2 c3 : Nat) (z : Array Value) : Prop where
  a : Pic v p W H A1 l1 c1
  b : Pic v (p + 1) W H A2 l2 c2
  d : Blk v gd 82 z
  m : Pic v gm W H A3 l3 c3
theorem DfK.below {v v' : World} {p gd gm W H : Nat} {A1 A2 A3 : Option Addr} {l1 l2 l3 : List Int} {c1 c2 c3 : Nat} {z : Array Value} (h : DfK v p gd gm W H A1 A2 A3 l1 l2 l3 c1 c2 c3 z) (hb : Below v.heap.size v v') : DfK v' p gd gm W H A1 A2 A3 l1 l2 l3 c1 c2 c3 z :=
  ⟨h.a.below hb, h.b.below hb, h.d.below hb h.d.lt, h.m.below hb⟩
theorem owns_same' {w w' : World} {base n sz : Nat} {e : TypeId} {v : Value} {xs : List Value} (h : w.ownsRow base e sz v n xs) (hk : ∀ k, base ≤ k → k < w.heap.size → w'.heap[k]? = w.heap[k]?) : w'.ownsRow base e sz v n xs := by
  refine ⟨h.1, ?_⟩
  rcases h.2 with h2 | ⟨g, cap, cur, hv, hb1, hh, h3⟩
  · exact .inl h2
  · exact .inr ⟨g, cap, cur, hv, hb1, (hk g hb1 (Blk.lt (t := e) (cs := cur) hh)).trans hh, h3⟩
theorem far_take (L : List Int) (i : Nat) (h : i < L.length) : farL (L.take (i + 1)) = (farL (L.take i) || decide (0 < L.getD i 0)) := by
  unfold farL
  rw [List.take_succ_eq_append_getElem h, List.any_append]
  simp [List.getD, h]
abbrev want7 (p m s : Int) : Array Value := #[.int .i64 p, .int .i64 m, .int .i64 s, .int .i64 0, .int .i64 0, .int .i64 0, .int .i64 0]
theorem stN_next (W : Nat) (l1 l2 : List Int) (u1 : U8s l1) (u2 : U8s l2) (k : Nat) (c o : Col) (p m s : Int) (hc : c = imgPx l1 W (k % W) (k / W)) (ho : o = imgPx l2 W (k % W) (k / W)) (hp : p = (stN W l1 l2 k).p) (hm : m = (stN W l1 l2 k).m) (hs : s = (stN W l1 l2 k).s) :
    (stN W l1 l2 (k + 1)).p = (if farL (apartV c o) then wrap64 (p + 1) else p) ∧ (stN W l1 l2 (k + 1)).m = mostL (apartV c o) m ∧ (stN W l1 l2 (k + 1)).s = sumL (apartV c o) s ∧ unlikeMk l1 l2 W k = farL (apartV c o) := by
  have h1 : c.ok := by rw [hc]; exact imgPx_ok u1 _ _ _
  have h2 : o.ok := by rw [ho]; exact imgPx_ok u2 _ _ _
  obtain ⟨-, g1, g2, g3, -⟩ := step_good (stN W l1 l2 k) ((k % W : Nat) : Int) ((k / W : Nat) : Int) h1 h2 (stN_good W l1 l2 u1 u2 k).1
  rw [← hp] at g1
  rw [← hm] at g2
  rw [← hs] at g3
  have e : stN W l1 l2 (k + 1) = (stN W l1 l2 k).step ((k % W : Nat) : Int) ((k / W : Nat) : Int) c o := by rw [hc, ho]; rfl
  rw [e]
  refine ⟨g1, g2, g3, ?_⟩
  rw [far_iff h1 h2, hc, ho]
  rfl

set_option maxRecDepth 100000 in
set_option maxHeartbeats 16000000 in
theorem diffs_yes (W H : Nat) (A1 A2 : Option Addr) (l1 l2 : List Int) (c1 c2 : Nat) (w : World) (u1 : U8s l1) (u2 : U8s l2) (r1 : RowAt w w.heap.size .u8 A1 l1) (r2 : RowAt w w.heap.size .u8 A2 l2) (hc1 : l1.length ≤ c1) (hc2 : l2.length ≤ c2) (h1 : ¬ 600 < l1.length) (h2 : ¬ 600 < l2.length) (hR1 : rightI W H l1.length) (hR2 : rightI W H l2.length) :
    Calls Try.prog 18 #[imgV W H A1 l1.length c1, imgV W H A2 l2.length c2] w fun e w' => e = .returned (.bool true) ∧ Below w.heap.size w w' := by
  obtain ⟨i0, hi, gz0, gz1, gz2⟩ := info_parts bool_info
  have hX : 1 ≤ W ∧ W ≤ 16384 := by have := hR1.1; omega
  have hY : 1 ≤ H ∧ H ≤ 16384 := by have := hR1.2.1; omega
  have hWH : W * H ≤ 268435456 := Nat.le_trans (Nat.mul_le_mul hX.2 hY.2) (by decide)
  have hN1 : 1 ≤ W * H := Nat.mul_le_mul hX.1 hY.1
  have d1 : decide ((600 : Int) < l1.length) = false := by simp; omega
  have d2 : decide ((600 : Int) < l2.length) = false := by simp; omega
  obtain ⟨mk, hmk⟩ : ∃ mk, mk = unlikeMk l1 l2 W := ⟨_, rfl⟩
  obtain ⟨⟨p0, m0, s0, b0⟩, hst⟩ : ∃ s : DSt, s = stN W l1 l2 (W * H) := ⟨_, rfl⟩
  have hb0 : b0 = markN W mk (W * H) := by
    have := (stN_good W l1 l2 u1 u2 (W * H)).2
    rw [← hst, ← hmk] at this
    exact this
  obtain ⟨⟨s1, s2, s3, s4⟩, hsd⟩ : ∃ s, s = b0.sd := ⟨_, rfl⟩
  have K1 := hide fun (w' : World) (hw : Below w.heap.size w w') => (of_yes W H A1 A2 l1 l2 c1 c2 w' hR1 hR2 ((r1.below hw (Nat.le_refl _)).more hw.size) ((r2.below hw (Nat.le_refl _)).more hw.size) hc1 hc2 u1 u2).mono (R' := fun e w'' => e = .returned (.tuple #[.agg #[.int .i64 p0, .int .i64 m0, .int .i64 s0, .int .i64 s1, .int .i64 s2, .int .i64 s3, .int .i64 s4], .int .i64 0]) ∧ Below w'.heap.size w' w'') (by
    rintro e w'' ⟨rfl, hb⟩
    refine ⟨?_, hb⟩
    rw [← hst]
    simp only [DSt.val, ← hsd])
  have K7 := hide fun (w' : World) (hw : Below w.heap.size w w') => (of_yes W H A1 A1 l1 l1 c1 c1 w' hR1 hR1 ((r1.below hw (Nat.le_refl _)).more hw.size) ((r1.below hw (Nat.le_refl _)).more hw.size) hc1 hc1 u1 u1).mono (R' := fun e w'' => e = .returned (.tuple #[.agg zero82, .int .i64 0]) ∧ Below w'.heap.size w' w'') (by
    rintro e w'' ⟨rfl, hb⟩
    refine ⟨?_, hb⟩
    rw [stN_self]
    rfl)
  have K2 := hide fun (w' : World) (hw : Below w.heap.size w w') => (show_yes W H A1 A2 l1 l2 c1 c2 w' hR1 hR2 ((r1.below hw (Nat.le_refl _)).more hw.size) ((r2.below hw (Nat.le_refl _)).more hw.size) hc1 hc2 u1 u2).mono fun _ _ h => Made.toL h
  obtain ⟨l3, hl3⟩ : ∃ l3, l3 = bytesL (pxs (showPx l1 l2 W) W (W * H)) := ⟨_, rfl⟩
  rw [← hl3] at K2
  unfold MadeL at K2
  have el3 : l3 = bytesL (grid (showPx l1 l2 W) W H).flatten := by rw [hl3, ← pxs_grid]
  have hR3 : rightI W H l3.length := by rw [el3]; exact right_grid _ hX hY
  have hpx : ∀ x y, x < W → y < H → imgPx l3 W x y = showC (imgPx l1 W x y) (imgPx l2 W x y) := fun x y hx hy => by rw [el3, img_grid _ hx hy]; rfl
  have K3 := hide (refRight_yes hR1 A1 c1)
  have K4 := hide (refRight_yes hR2 A2 c2)
  have K5 := hide fun (A3 : Option Addr) (c3 : Nat) => refRight_yes hR3 A3 c3
  have KP1 := hide fun (x y : Nat) (w' : World) (hr' : RowAt w' w'.heap.size .u8 A1 l1) (hx : x < W) (hy : y < H) (c : Col) (hc : c = imgPx l1 W x y) => pix_is W H A1 l1 c1 x y w' hR1 hr' hx hy c hc
  have KP2 := hide fun (x y : Nat) (w' : World) (hr' : RowAt w' w'.heap.size .u8 A2 l2) (hx : x < W) (hy : y < H) (c : Col) (hc : c = imgPx l2 W x y) => pix_is W H A2 l2 c2 x y w' hR2 hr' hx hy c hc
  have KP3 := hide fun (A3 : Option Addr) (c3 : Nat) (x y : Nat) (w' : World) (hr' : RowAt w' w'.heap.size .u8 A3 l3) (hx : x < W) (hy : y < H) (c o d : Col) (hc : c = imgPx l1 W x y) (ho : o = imgPx l2 W x y) (hd : d = showC c o) => (refPixel_any W H A3 l3 c3 x y w' hR3 hr' ⟨by omega, by omega⟩ ⟨by omega, by omega⟩).mono (R' := fun e w'' => e = .returned (colV d) ∧ Below w'.heap.size w' w'') (by
    rintro e w'' ⟨rfl, hb⟩
    refine ⟨?_, hb⟩
    have := hpx x y hx hy
    unfold imgPx at this hc ho
    rw [nat_idx, this, hd, hc, ho])
  have KB := hide fun (g cap : Nat) (w' : World) (hg : g < w'.heap.size) (hc : ∀ k, k < W * H → w'.cell? ⟨g, k, none⟩ = some (.bool (mk k))) => refBox_any W (W * H) mk g cap w' hX (by omega) hg hc
  rw [← hb0, ← hsd] at KB
  have HNX := hide fun (k : Nat) (c o : Col) (p m s : Int) (hc : c = imgPx l1 W (k % W) (k / W)) (ho : o = imgPx l2 W (k % W) (k / W)) (hp : p = (stN W l1 l2 k).p) (hm : m = (stN W l1 l2 k).m) (hs : s = (stN W l1 l2 k).s) => stN_next W l1 l2 u1 u2 k c o p m s hc ho hp hm hs
  have HR1 := hide r1
  have HR2 := hide r2
  have HU1 := hide u1
  have HU2 := hide u2
  have mW : IntKind.i64.wrap ((W : Int) * (H : Int)) = ((W * H : Nat) : Int) := by
    have e : (W : Int) * (H : Int) = ((W * H : Nat) : Int) := by simp
    rw [e]; exact IntWalk.i64_in _ (by omega)
  have HMK := hide hmk
  obtain ⟨N, hN⟩ : ∃ N, N = W * H := ⟨_, rfl⟩
  rw [← hN] at mW hWH KB hN1 hst
  have HST := hide hst
  have HN := hide hN
  clear h1 h2 hR1 hR2 hR3 r1 r2 hc1 hc2 u1 u2 hmk hst hb0 hsd hl3 el3 hpx hN
  go_enter Try.func18, Try.ntmps18
  go_wp2_with (first | (go_at_call 77; (with_reducible refine (K1.out _ (balloc (below_alloc w _) _)).mono ?_); rintro e v1 ⟨rfl, hb1⟩; obtain ⟨B1, B2, hz, HW⟩ := own2 hb1; obtain ⟨a0, a1, a2, -⟩ := blk3x B1; obtain ⟨b0', b1, b2, -⟩ := blk3x B2; clear hb1) | (go_at_call 78; (with_reducible refine (K2.out _ (balloc HW _)).mono ?_); rintro e v2 ⟨A3, c3, rfl, him, hb2⟩; obtain ⟨D1, hz2, HW2'⟩ := own1 hb2; have C1 := B1.below HW2' B1.lt; have C2 := B2.below HW2' B2.lt; obtain ⟨a0, a1, a2, -⟩ := blk3x C1; obtain ⟨b0', b1, b2, -⟩ := blk3x C2; have HW2 := bstep HW HW2'; have HIM := hide him; clear hb2 him) | (go_at_call 36; (with_reducible refine (K3.out _).mono ?_); rintro e v3 ⟨rfl, hb3⟩; have P : DfK v3 w.heap.size v1.heap.size v2.heap.size W H A1 A2 A3 l1 l2 l3 c1 c2 c3 #[.int .i64 p0, .int .i64 m0, .int .i64 s0, .int .i64 s1, .int .i64 s2, .int .i64 s3, .int .i64 s4] := DfK.below ⟨⟨C1.alloc _, (HR1.out.below (balloc HW2 _) (Nat.le_refl _)).more (balloc HW2 _).size⟩, ⟨C2.alloc _, (HR2.out.below (balloc HW2 _) (Nat.le_refl _)).more (balloc HW2 _).size⟩, D1.alloc _, Pic.new HIM.out.row⟩ hb3; have HW3 := bstep (balloc HW2 _) hb3; obtain ⟨a0, a1, a2⟩ := P.a.cells; obtain ⟨b0', b1, b2⟩ := P.b.cells; obtain ⟨e0, e1, e2⟩ := P.m.cells; clear C1 C2 D1 hb3 HW2) | (go_at_call 36; (with_reducible refine (K4.out _).mono ?_); rintro e v4 ⟨rfl, hb4⟩; have P := P.below hb4; have HW4 := bstep HW3 hb4; obtain ⟨a0, a1, a2⟩ := P.a.cells; obtain ⟨b0', b1, b2⟩ := P.b.cells; obtain ⟨e0, e1, e2⟩ := P.m.cells; clear hb4) | (go_at_call 36; (with_reducible refine (K5.out _ _ _).mono ?_); rintro e v5 ⟨rfl, hb5⟩; have P := P.below hb5; have HW5 := bstep HW4 hb5; obtain ⟨a0, a1, a2⟩ := P.a.cells; obtain ⟨b0', b1, b2⟩ := P.b.cells; obtain ⟨e0, e1, e2⟩ := P.m.cells; obtain ⟨j0, j1, j2⟩ := P.a.cellsA; clear hb5))
  obtain ⟨gd, hgd⟩ : ∃ g, g = v1.heap.size := ⟨_, rfl⟩
  rw [← hgd] at P ⊢
  obtain ⟨gm, hgm⟩ : ∃ g, g = v2.heap.size := ⟨_, rfl⟩
  rw [← hgm] at P ⊢
  have z1 := P.b.blk.lt
  have z2 := P.d.lt
  have z3 := P.m.blk.lt
  have PH := hide P
  have HH := hide HW5
  clear P HW5 HW4 HW3 hgd hgm a0 a1 a2 b0' b1 b2 e0 e1 e2 K1 K2 K3 K4 K5 HIM
  obtain ⟨gw, hgw⟩ : ∃ g, g = v5.heap.size := ⟨_, rfl⟩
  go_loopw [114, 10] (fun i v wr => ∃ (k : Nat) (v' : Value), k ≤ N ∧ i = .int .i64 k ∧ v' = v ∧ Blk wr v5.heap.size 82 (want7 (stN W l1 l2 k).p (stN W l1 l2 k).m (stN W l1 l2 k).s) ∧ wr.ownsRow (v5.heap.size + 1) 4 1 v' k (marksL mk k) ∧ Below v5.heap.size v5 wr) (fun i _ _ => N - (intOf i).toNat)
  case atStart => exact ⟨0, _, Nat.zero_le _, rfl, rfl, Blk.new _ _ _, World.ownsRow_nil _ _ _ _, below_alloc v5 _⟩
  case round =>
    obtain ⟨k, v, hk, rfl, rfl, hG, ho, hb⟩ := hrel
    clear j0 j1 j2
    by_cases hlt : k < N
    · have hx : k % W < W := Nat.mod_lt _ (by omega)
      have hy : k / W < H := Nat.div_lt_of_lt_mul (by rw [← HN.out]; exact hlt)
      have em : (k : Int).tmod (W : Int) = ((k % W : Nat) : Int) := tmod_nat k W
      have ed : (k : Int).tdiv (W : Int) = ((k / W : Nat) : Int) := tdiv_nat k W
      obtain ⟨p, hp⟩ : ∃ p, p = (stN W l1 l2 k).p := ⟨_, rfl⟩
      obtain ⟨m, hm⟩ : ∃ m, m = (stN W l1 l2 k).m := ⟨_, rfl⟩
      obtain ⟨sm, hs⟩ : ∃ s, s = (stN W l1 l2 k).s := ⟨_, rfl⟩
      rw [← hp, ← hm, ← hs] at hG
      obtain ⟨c, hc⟩ : ∃ c, c = imgPx l1 W (k % W) (k / W) := ⟨_, rfl⟩
      obtain ⟨o, hoo⟩ : ∃ c, c = imgPx l2 W (k % W) (k / W) := ⟨_, rfl⟩
      have hnx := HNX.out k c o p m sm hc hoo hp hm hs
      have hcok : c.ok := by rw [hc]; exact imgPx_ok HU1.out _ _ _
      have hook : o.ok := by rw [hoo]; exact imgPx_ok HU2.out _ _ _
      rw [← HMK.out] at hnx
      generalize k % W = x at hx em hc hoo
      generalize k / W = y at hy ed hc hoo
      obtain ⟨L, hL⟩ : ∃ L, L = apartV c o := ⟨_, rfl⟩
      rw [← hL] at hnx
      have HNXT := hide hnx
      have hW0 : ¬ ((W : Int) = 0) := by omega
      have hW1 : ¬ (W = 0) := by omega
      have P := PH.out.below hb
      obtain ⟨a0, a1, a2⟩ := P.a.cells
      obtain ⟨b0', b1, b2⟩ := P.b.cells
      obtain ⟨e0, e1, e2⟩ := P.m.cells
      have HG := hide hG
      have HO := hide ho
      have HB := hide hb
      clear hG ho hb hp hm hs hnx P
      go_wp2_with fail
      go_quiet (fail)
      have hd : Below wr.heap.size wr (wr.drewN nq) := below_drewN _ _
      have hbV := bstep HB.out hd
      have hGV := HG.out.below hd HG.out.lt
      have hoV := owns_below HO.out hd
      generalize wr.drewN nq = V at hbV hGV hoV ⊢
      clear a0 a1 a2 b0' b1 b2 e0 e1 e2 hd HG HO HB em ed
      have P := PH.out.below hbV
      obtain ⟨a0, a1, a2⟩ := P.a.cells
      obtain ⟨b0', b1, b2⟩ := P.b.cells
      obtain ⟨e0, e1, e2⟩ := P.m.cells
      have hsz := hbV.size
      have HV1 := hide fun (w' : World) (hb : Below V.heap.size V w') => KP1.out x y w' ((P.a.row.below hb (Nat.le_refl _)).more hb.size) hx hy c hc
      have HV2 := hide fun (w' : World) (hb : Below V.heap.size V w') => KP2.out x y w' ((P.b.row.below hb (Nat.le_refl _)).more hb.size) hx hy o hoo
      have HV3 := hide fun (w' : World) (hb : Below V.heap.size V w') => (gaps_any c o hcok hook w').mono (R' := fun e w'' => ∃ g, e = .returned (.slice (some ⟨g, 0, none⟩) 4 4) ∧ V.heap.size ≤ g ∧ Blk w'' g 3 #[.int .i64 (gapN c.r o.r), .int .i64 (gapN c.g o.g), .int .i64 (gapN c.b o.b), .int .i64 (gapN c.a o.a)] ∧ Below V.heap.size V w'') (fun e w'' ⟨g, h1, h2, h3, h4⟩ => ⟨g, h1, Nat.le_trans hb.size h2, h3, bstep' hb h4 hb.size⟩)
      have n1 : ¬ w.heap.size = V.heap.size := by omega
      have n2 : ¬ w.heap.size + 1 = V.heap.size := by omega
      have HPV := hide P
      have HGV := hide hGV
      have HOV := hide hoV
      have HBV := hide hbV
      have HC := hide hc
      have HOO := hide hoo
      clear P hGV hoV hbV hc hoo
      go_upto_region 15 with fail
      go_cut [14] (fun s wx => ∃ P, s = .slice (some ⟨P, 0, none⟩) 4 4 ∧ V.heap.size ≤ P ∧ Blk wx P 3 #[.int .i64 (gapN c.r o.r), .int .i64 (gapN c.g o.g), .int .i64 (gapN c.b o.b), .int .i64 (gapN c.a o.a)] ∧ Below V.heap.size V wx)
      case first =>
        clear HNXT HGV HOV HBV HNX HST KP3 KB K7 HC HOO
        first | (go_region_held3 (fun w' => w'.cell? ⟨w.heap.size, 0, none⟩ = some (.int .i64 (W : Int)) ∧ w'.cell? ⟨w.heap.size, 1, none⟩ = some (.int .i64 (H : Int)) ∧ w'.cell? ⟨w.heap.size, 2, none⟩ = some (.slice A1 l1.length c1) ∧ w'.cell? ⟨w.heap.size + 1, 0, none⟩ = some (.int .i64 (W : Int)) ∧ w'.cell? ⟨w.heap.size + 1, 1, none⟩ = some (.int .i64 (H : Int)) ∧ w'.cell? ⟨w.heap.size + 1, 2, none⟩ = some (.slice A2 l2.length c2)) (simp (maxDischargeDepth := 20) [*, World.cell?_alloc_some, World.cell?_setCell_far]) (first | (go_at_call 39; (with_reducible refine (HV1.out _ (by (repeat (first | (with_reducible exact Below.refl _ _) | (with_reducible apply Below.drew) | (with_reducible refine balloc ?_ _))))).mono ?_); rintro e x1 ⟨rfl, rfl⟩) | (go_at_call 39; (with_reducible refine (HV2.out _ (by (repeat (first | (with_reducible exact Below.refl _ _) | (with_reducible apply Below.drew) | (with_reducible refine balloc ?_ _))))).mono ?_); rintro e x2 ⟨rfl, rfl⟩) | (go_at_call 79; (with_reducible refine (HV3.out _ (by (repeat (first | (with_reducible exact Below.refl _ _) | (with_reducible apply Below.drew) | (with_reducible refine balloc ?_ _))))).mono ?_); rintro e x3 ⟨Pg, rfl, hPg, hBP, hx3⟩; obtain ⟨a0, a1, a2⟩ := (HPV.out.below hx3).a.cells; obtain ⟨b0', b1, b2⟩ := (HPV.out.below hx3).b.cells))) | fail
        all_goals
          go_wp2_with fail
          go_meet
          exact ⟨Pg, rfl, hPg, by first | exact hBP | exact Blk.same hBP rfl, by first | exact hx3 | exact hx3.drew⟩
      case rest =>
        obtain ⟨Pg, rfl, hPg, hBP, hxc⟩ := hcut
        obtain ⟨wk, rfl⟩ : ∃ wk : World, wk = wc := ⟨_, rfl⟩
        have hGc := HGV.out.below hxc HGV.out.lt
        have hoc := owns_below HOV.out hxc
        have hbc := bstep HBV.out hxc
        have hL4 : L.length = 4 := by rw [hL]; rfl
        have hcl : ∀ i, i < 4 → wk.cell? ⟨Pg, i, none⟩ = some (.int .i64 (L.getD i 0)) := fun i hi => by
          rw [hBP.cell i, hL]
          match i, hi with
          | 0, _ => rfl
          | 1, _ => rfl
          | 2, _ => rfl
          | 3, _ => rfl
        have HCL := hide hcl
        have HGc := hide hGc
        have HOc := hide hoc
        have HBc := hide hbc
        have HBP := hide hBP
        have HL := hide hL
        have nPw : Pg ≠ v5.heap.size := by have := HGV.out.lt; omega
        have hgwk := hGc.lt
        clear hGc hoc hbc hcl hBP hxc a0 a1 a2 b0' b1 b2 e0 e1 e2 HV1 HV2 HV3 HGV HPV HBV hL
        go_wp2_with fail
        go_loopw [136, 15] (fun s f wr => ∃ i : Nat, i ≤ 4 ∧ s = .int .i64 i ∧ f = .bool (farL (L.take i)) ∧ Blk wr v5.heap.size 82 (want7 p (mostL (L.take i) m) (sumL (L.take i) sm)) ∧ (∀ k, k ≠ v5.heap.size → wr.heap[k]? = wk.heap[k]?) ∧ wk.heap.size = wr.heap.size ∧ ∀ B, B ≤ v5.heap.size → Below B wk wr) (fun s _ _ => 4 - (intOf s).toNat)
        case atStart => exact ⟨0, by omega, rfl, rfl, HGc.out, fun _ _ => rfl, rfl, fun B _ => Below.refl B _⟩
        case round =>
          obtain ⟨i, hi4, rfl, rfl, hd, hkk, hs, hw⟩ := hrel
          by_cases hlt4 : i < 4
          · obtain ⟨n, hn⟩ : ∃ n, n = L.getD i 0 := ⟨_, rfl⟩
            have hcn : wr.cell? ⟨Pg, i, none⟩ = some (.int .i64 n) := by rw [hn]; exact (World.cell?_of_block (a := ⟨Pg, i, none⟩) (hkk Pg nPw)).trans (HCL.out i hlt4)
            have hfar := far_take L i (by omega)
            rw [← hn] at hfar
            obtain ⟨M, hM⟩ : ∃ M, M = mostL (L.take i) m := ⟨_, rfl⟩
            obtain ⟨S, hS⟩ : ∃ S, S = sumL (L.take i) sm := ⟨_, rfl⟩
            rw [← hM, ← hS] at hd
            have hM' : max M n = mostL (L.take (i + 1)) m := by
              rw [hM, hn, List.take_succ_eq_append_getElem (by omega)]
              unfold mostL
              rw [List.foldl_append]
              simp [List.getD, show i < L.length from by omega]
            have hS' : wrap64 (S + wrap64 (n * n)) = sumL (L.take (i + 1)) sm := by
              rw [hS, hn, List.take_succ_eq_append_getElem (by omega)]
              unfold sumL
              rw [List.foldl_append]
              simp [List.getD, show i < L.length from by omega]
            obtain ⟨⟨q0, q1, q2, -, -, -, -⟩, f0, f1, f2, -⟩ := blk7b hd
            have HHM := hide hM'
            have HHS := hide hS'
            have HD := hide hd
            have HKK := hide hkk
            have HS := hide hs
            have HW := hide hw
            have lz := hd.lt
            obtain ⟨F, hF⟩ : ∃ F, F = farL (L.take i) := ⟨_, rfl⟩
            rw [← hF] at hfar ⊢
            have HFAR := hide hfar
            clear hd hkk hs hw hM hS hn hM' hS' hfar hF
            obtain ⟨wo, rfl⟩ : ∃ wo : World, wo = wr := ⟨_, rfl⟩
            have h3 : F = true ∨ (F = false ∧ decide ((0 : Int) < n) = true) ∨ (F = false ∧ decide ((0 : Int) < n) = false) := by
              cases F
              · cases h : decide ((0 : Int) < n)
                · exact .inr (.inr ⟨rfl, rfl⟩)
                · exact .inr (.inl ⟨rfl, rfl⟩)
              · exact .inl rfl
            rcases h3 with rfl | ⟨rfl, q⟩ | ⟨rfl, q⟩
            all_goals
              go_wp2_with fail
              go_roundw
              case rel =>
                refine ⟨i + 1, by omega, by go_num, by rw [HFAR.out]; simp [*], ?_, fun k hk => ?_, ?_, fun B hB => ?_⟩
                · rw [← HHM.out, ← HHS.out]
                  have := (HD.out.set_ 1 (.int .i64 (max M n))).set_ 2 (.int .i64 (wrap64 (S + wrap64 (n * n))))
                  simpa using this
                · rw [Below.heap_setCell _ _ _ _ hk, Below.heap_setCell _ _ _ _ hk]; exact HKK.out k hk
                · simp only [World.setCell]; simpa using HS.out
                · exact ((HW.out B hB).setCell (p := ⟨v5.heap.size, 1, none⟩) hB _).setCell (p := ⟨v5.heap.size, 2, none⟩) hB _
              case measure => simp [intOf]; omega
          · have hi4' : i = 4 := by omega
            rw [hi4', List.take_of_length_le (by omega)] at hd
            rw [hi4', List.take_of_length_le (by omega)]
            have HD := hide hd
            have HKK := hide hkk
            have HS := hide hs
            have HW := hide hw
            clear hd hkk hs hw
            have hnx := HNXT.out
            obtain ⟨F, hF⟩ : ∃ F, F = farL L := ⟨_, rfl⟩
            rw [← hF] at hnx ⊢
            obtain ⟨M, hM⟩ : ∃ M, M = mostL L m := ⟨_, rfl⟩
            obtain ⟨S, hS⟩ : ∃ S, S = sumL L sm := ⟨_, rfl⟩
            have hd := HD.out
            rw [← hM, ← hS] at hnx hd
            obtain ⟨⟨q0, -, -, -, -, -, -⟩, f0, -⟩ := blk7b hd
            have HNX2 := hide hnx
            have HD2 := hide hd
            clear hnx hd hM hS hF HD HNXT HNX
            obtain ⟨wo, rfl⟩ : ∃ wo : World, wo = wr := ⟨_, rfl⟩
            go_upto_if 158 with fail
            go_cut [] (fun wx => Blk wx v5.heap.size 82 (want7 (if F then wrap64 (p + 1) else p) M S) ∧ (∀ k, k ≠ v5.heap.size → wx.heap[k]? = wo.heap[k]?) ∧ wx.heap.size = wo.heap.size ∧ ∀ B, B ≤ v5.heap.size → Below B wo wx)
            case first =>
              cases F
              · go_wp2_with fail
                go_meet
                exact ⟨HD2.out, fun _ _ => rfl, rfl, fun B _ => Below.refl B _⟩
              · go_wp2_with fail
                go_meet
                refine ⟨?_, fun k hk => Below.heap_setCell _ _ _ _ hk, by simp [World.setCell], fun B hB => (Below.refl B _).setCell (p := ⟨v5.heap.size, 0, none⟩) hB _⟩
                simpa using HD2.out.set_ 0 (.int .i64 (wrap64 (p + 1)))
            case rest =>
              obtain ⟨hGc, hkc, hsc, hBc⟩ := hcut
              obtain ⟨wj, rfl⟩ : ∃ wj : World, wj = wc := ⟨_, rfl⟩
              have ho2 : wj.ownsRow (v5.heap.size + 1) 4 1 v k (marksL mk k) := owns_same' HOc.out (fun j hj1 hj2 => (hkc j (by omega)).trans (HKK.out j (by omega)))
              have hP2 : Blk wj Pg 3 #[.int .i64 (gapN c.r o.r), .int .i64 (gapN c.g o.g), .int .i64 (gapN c.b o.b), .int .i64 (gapN c.a o.a)] := HBP.out.same ((hkc Pg nPw).trans (HKK.out Pg nPw))
              have hB2 : Below v5.heap.size v5 wj := (HBc.out.trans (HW.out _ (Nat.le_refl _))).trans (hBc _ (Nat.le_refl _))
              have qb0 := gapN_bd hcok.1 hook.1
              have qb1 := gapN_bd hcok.2.1 hook.2.1
              have qb2 := gapN_bd hcok.2.2.1 hook.2.2.1
              have hsc' : showC c o = ⟨gapN c.r o.r, gapN c.g o.g, gapN c.b o.b, 255⟩ := rfl
              obtain ⟨n0, hn0⟩ : ∃ n, n = gapN c.r o.r := ⟨_, rfl⟩
              obtain ⟨n1', hn1⟩ : ∃ n, n = gapN c.g o.g := ⟨_, rfl⟩
              obtain ⟨n2', hn2⟩ : ∃ n, n = gapN c.b o.b := ⟨_, rfl⟩
              obtain ⟨n3', hn3⟩ : ∃ n, n = gapN c.a o.a := ⟨_, rfl⟩
              rw [← hn0, ← hn1, ← hn2] at hsc'
              rw [← hn0, ← hn1, ← hn2, ← hn3] at hP2
              rw [← hn0] at qb0
              rw [← hn1] at qb1
              rw [← hn2] at qb2
              have y0 : IntKind.u8.wrap n0 = n0 := by simp [IntKind.wrap, IntKind.bits, IntKind.signed]; omega
              have y1 : IntKind.u8.wrap n1' = n1' := by simp [IntKind.wrap, IntKind.bits, IntKind.signed]; omega
              have y2 : IntKind.u8.wrap n2' = n2' := by simp [IntKind.wrap, IntKind.bits, IntKind.signed]; omega
              have HGC := hide hGc
              have HO2 := hide ho2
              have HP2 := hide hP2
              have HB2 := hide hB2
              have HSC := hide hsc'
              have lgc := hGc.lt
              have HKC := hide hkc
              clear hGc ho2 hP2 hB2 hsc' hkc hsc hBc q0 f0 hn0 hn1 hn2 hn3 HKK HS HW HBP HOc HBc HGc HD2 HCL
              go_wp2_with (at_builtin; refine wpList_append_lies _ rfl _ _ _ rfl (v5.heap.size + 1) 4 i0 _ 1 1 Try.underlying86 hi gz0 gz1 gz2 rfl (by omega) v k _ rfl (HO2.out.alloc _) ⟨wj.heap.size, 0, none⟩ 1 1 [.bool F] rfl rfl (World.news_of_block (heap_alloc_new wj _)) (by intro u hu; simp at hu; subst hu; rfl) (by omega) (by unfold maxLen; omega) (by omega) (by simp; omega) (wj.heap.size + 1) (by simp) ?_; intro g' c' w7 hown2 hg2 hat2 hlt2)
              have G7 := (HGC.out.alloc (.cells #[.bool F] 4)).grown hg2 (fun e => by have := (HO2.out.lt _ e.symm).1; omega)
              have P7 := (HP2.out.alloc (.cells #[.bool F] 4)).grown hg2 (fun e => by have := (HOV.out.lt _ e.symm).2; omega)
              have B7 := (HB2.out.alloc HB2.out.size (.cells #[.bool F] 4)).grown hg2 (by simp; have := HB2.out.size; omega) (fun q hq => by have := (HO2.out.lt q hq).1; omega)
              have PP := PH.out.below B7
              obtain ⟨e0, e1, e2⟩ := PP.m.cells
              obtain ⟨q0, q1, q2, -⟩ := blk4 P7
              have HX := hide (KP3.out A3 c3 x y w7.drew ((PP.below (Below.refl w7.heap.size w7).drew).m.row) hx hy c o ⟨n0, n1', n2', 255⟩ HC.out HOO.out HSC.out.symm)
              have HG7 := hide G7
              have HP7 := hide P7
              have HB7 := hide B7
              have HPP := hide PP
              have HO7 := hide hown2
              clear G7 P7 B7 PP hown2 hg2 hat2 hlt2
              first | (go_region_held3 (fun w' => w'.cell? ⟨gm, 0, none⟩ = some (.int .i64 (W : Int)) ∧ w'.cell? ⟨gm, 1, none⟩ = some (.int .i64 (H : Int)) ∧ w'.cell? ⟨gm, 2, none⟩ = some (.slice A3 l3.length c3) ∧ w'.cell? ⟨Pg, 0, none⟩ = some (.int .i64 n0) ∧ w'.cell? ⟨Pg, 1, none⟩ = some (.int .i64 n1') ∧ w'.cell? ⟨Pg, 2, none⟩ = some (.int .i64 n2')) (go_keep) ((go_at_call 39; (with_reducible refine HX.out.mono ?_); rintro e w8 ⟨rfl, hb8⟩; have hd8 : Below w7.heap.size w7 w8 := (Below.refl w7.heap.size w7).drew.trans hb8; obtain ⟨e0, e1, e2⟩ := (HPP.out.below hd8).m.cells; obtain ⟨q0, q1, q2, -⟩ := blk4 (HP7.out.below hd8 HP7.out.lt)))) | fail
              go_wp2_with fail
              go_roundw
              case rel =>
                obtain ⟨g1, g2, g3, g4⟩ := HNX2.out
                exact ⟨k + 1, _, by omega, by go_num, rfl, by rw [g1, g2, g3]; exact HG7.out.below hd8 HG7.out.lt, by rw [marksL_succ, g4]; exact owns_below HO7.out hd8, bstep HB7.out hd8⟩
              case measure => simp [intOf]; omega
    · have hkN : k = N := by omega
      subst hkN
      rcases ho.2 with ⟨-, h0⟩ | ⟨g5, cap5, cur, rfl, hb5, hh, -⟩
      · omega
      have hcl := marks_cell ho
      have hg5 := own_lt ho
      have HWW := bstep HH.out hb
      rw [← HST.out] at hG
      have P := PH.out.below hb
      obtain ⟨a0, a1, a2⟩ := P.a.cells
      have lgw := hG.lt
      have PV := hide P
      have HGV := hide hG
      have HBV := hide hb
      clear P hG ho hb hh KP1 KP2 KP3 HNX
      go_upto_region 31 with (go_at_call 80; (with_reducible refine (KB.out _ _ _ hg5 hcl).mono ?_); rintro e x1 ⟨rfl, hx1⟩; have G1 := HGV.out.below hx1 lgw; have HB1 := hide (bstep HBV.out hx1); obtain ⟨⟨q0, q1, q2, q3, q4, q5, q6⟩, f0, f1, f2, f3, f4, f5, f6⟩ := blk7b G1; have lg1 := G1.lt)
      have G5 : Blk ((((x1.setCell ⟨v5.heap.size, 3, none⟩ (.int .i64 s1)).setCell ⟨v5.heap.size, 4, none⟩ (.int .i64 s2)).setCell ⟨v5.heap.size, 5, none⟩ (.int .i64 s3)).setCell ⟨v5.heap.size, 6, none⟩ (.int .i64 s4)) v5.heap.size 82 #[.int .i64 p0, .int .i64 m0, .int .i64 s0, .int .i64 s1, .int .i64 s2, .int .i64 s3, .int .i64 s4] := by
        have := (((G1.set_ 3 (.int .i64 s1)).set_ 4 (.int .i64 s2)).set_ 5 (.int .i64 s3)).set_ 6 (.int .i64 s4)
        simpa using this
      have B5 : Below v5.heap.size v5 ((((x1.setCell ⟨v5.heap.size, 3, none⟩ (.int .i64 s1)).setCell ⟨v5.heap.size, 4, none⟩ (.int .i64 s2)).setCell ⟨v5.heap.size, 5, none⟩ (.int .i64 s3)).setCell ⟨v5.heap.size, 6, none⟩ (.int .i64 s4)) := (((HB1.out.setCell (p := ⟨v5.heap.size, 3, none⟩) (Nat.le_refl _) _).setCell (p := ⟨v5.heap.size, 4, none⟩) (Nat.le_refl _) _).setCell (p := ⟨v5.heap.size, 5, none⟩) (Nat.le_refl _) _).setCell (p := ⟨v5.heap.size, 6, none⟩) (Nat.le_refl _) _
      generalize (((x1.setCell ⟨v5.heap.size, 3, none⟩ (.int .i64 s1)).setCell ⟨v5.heap.size, 4, none⟩ (.int .i64 s2)).setCell ⟨v5.heap.size, 5, none⟩ (.int .i64 s3)).setCell ⟨v5.heap.size, 6, none⟩ (.int .i64 s4) = W5 at G5 B5 ⊢
      have P5 := PH.out.below B5
      obtain ⟨a0, a1, a2⟩ := P5.a.cells
      have HW5 := bstep HH.out B5
      clear q0 q1 q2 q3 q4 q5 q6 f0 f1 f2 f3 f4 f5 f6 G1
      go_wp2_with (first | (go_at_call 77; (with_reducible refine (K7.out _ HW5).mono ?_); rintro e x2 ⟨rfl, hx2⟩; have GA := (G5.below hx2 G5.lt).alloc (.cells zero82 82); have DA := (P5.below hx2).d.alloc (.cells zero82 82); have ZA := Blk.new x2 82 zero82; obtain ⟨⟨q0, q1, q2, q3, q4, q5, q6⟩, -⟩ := blk7b GA; obtain ⟨⟨t0, t1, t2, t3, t4, t5, t6⟩, -⟩ := blk7b DA; obtain ⟨⟨r0, r1, r2, r3, r4, r5, r6⟩, -⟩ := blk7b ZA; have HW6 := bstep HW5 hx2) | (go_at_call 34; (with_reducible refine (awake35 _).mono ?_); rintro e x3 ⟨rfl, hx3⟩))
      go_ret
      exact ⟨rfl, bstep (balloc HW6 _) hx3⟩

theorem cmpDiffs_law (w : World) (x1 y1 : Int) (A1 : Option Addr) (l1 : List Int) (c1 : Nat) (_ : I64 x1) (_ : I64 y1) (r1 : RowAt w w.heap.size .u8 A1 l1) (u1 : U8s l1) (hm1 : l1.length ≤ maxLen) (hc1 : l1.length ≤ c1)
    (x2 y2 : Int) (A2 : Option Addr) (l2 : List Int) (c2 : Nat) (_ : I64 x2) (_ : I64 y2) (r2 : RowAt w w.heap.size .u8 A2 l2) (u2 : U8s l2) (hm2 : l2.length ≤ maxLen) (hc2 : l2.length ≤ c2) :
    Calls Try.prog 18 #[imgV x1 y1 A1 l1.length c1, imgV x2 y2 A2 l2.length c2] w fun e w' => e = .returned (.bool true) ∧ Below w.heap.size w w' := by
  by_cases h1 : 600 < l1.length
  · exact diffs_big x1 y1 x2 y2 A1 A2 _ _ c1 c2 w (.inl h1)
  by_cases h2 : 600 < l2.length
  · exact diffs_big x1 y1 x2 y2 A1 A2 _ _ c1 c2 w (.inr ⟨h1, h2⟩)
  by_cases h : rightI x1 y1 l1.length ∧ rightI x2 y2 l2.length ∧ x1 = x2 ∧ y1 = y2
  · obtain ⟨hR1, hR2, rfl, rfl⟩ := h
    have hx := hR1.1.1
    have hy := hR1.2.1.1
    obtain ⟨W, rfl⟩ := Int.eq_ofNat_of_zero_le (show 0 ≤ x1 by omega)
    obtain ⟨H, rfl⟩ := Int.eq_ofNat_of_zero_le (show 0 ≤ y1 by omega)
    exact diffs_yes W H A1 A2 l1 l2 c1 c2 w u1 u2 r1 r2 hc1 hc2 h1 h2 hR1 hR2
  · exact diffs_no x1 y1 x2 y2 A1 A2 _ _ c1 c2 w h1 h2 h
end Go.Proofs.Ytkjnheikimpliaa
