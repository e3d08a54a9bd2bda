/- cmp: alike, and a round of Of. -/
import Derived.Test.YtkjnheikimpliaaCmpB
namespace Go.Proofs.Ytkjnheikimpliaa
set_option linter.unusedVariables false
set_option linter.unusedSimpArgs false
open Go.RowKit
attribute [local go_sem ↓] Go.wp_at_zero Go.wp_at_succ

set_option maxHeartbeats 1000000 in
theorem alike_yes {x y : Int} {n1 n2 : Nat} (h1 : rightI x y n1) (h2 : rightI x y n2) (A1 A2 : Option Addr) (c1 c2 : Nat) (w : World) :
    Calls Try.prog 123 #[imgV x y A1 n1 c1, imgV x y A2 n2 c2] w fun e w' => e = .returned (.bool true) ∧ Below w.heap.size w w' := by
  have K1 := hide (right_yes h1 A1 c1)
  have K2 := hide (right_yes h2 A2 c2)
  clear h1 h2
  go_enter Try.func123, Try.ntmps123
  go_wp2_with (first | (go_at_call 94; (with_reducible refine (K1.out _).mono ?_); rintro e w1 ⟨rfl, hb1⟩; obtain ⟨B1, B2, hz, HW⟩ := own2 hb1; obtain ⟨m0, m1, m2, -⟩ := blk3 B1; obtain ⟨n0, n1, n2, -⟩ := blk3 B2; clear hb1) | (go_at_call 94; (with_reducible refine (K2.out _).mono ?_); rintro e w2 ⟨rfl, hb2⟩; have B3 := B1.below hb2 B1.lt; have B4 := B2.below hb2 B2.lt; obtain ⟨m0, m1, m2, -⟩ := blk3 B3; obtain ⟨n0, n1, n2, -⟩ := blk3 B4; have HW2 := bstep HW hb2; clear HW))
  go_ret
  exact ⟨rfl, HW2⟩

set_option maxHeartbeats 2000000 in
theorem alike_no {x1 y1 x2 y2 : Int} {n1 n2 : Nat} (h : ¬ (rightI x1 y1 n1 ∧ rightI x2 y2 n2 ∧ x1 = x2 ∧ y1 = y2)) (A1 A2 : Option Addr) (c1 c2 : Nat) (w : World) :
    Calls Try.prog 123 #[imgV x1 y1 A1 n1 c1, imgV x2 y2 A2 n2 c2] w fun e w' => e = .returned (.bool false) ∧ Below w.heap.size w w' := by
  by_cases h1 : rightI x1 y1 n1
  · have K1 := hide (right_yes h1 A1 c1)
    by_cases h2 : rightI x2 y2 n2
    · have K2 := hide (right_yes h2 A2 c2)
      by_cases hx : x1 = x2
      · have hy : ¬ y1 = y2 := fun hy => h ⟨h1, h2, hx, hy⟩
        have e1 : (x1 == x2) = true := by simpa using hx
        have e2 : (y1 == y2) = false := by simpa using hy
        clear h h1 h2 hx hy
        go_enter Try.func123, Try.ntmps123
        go_wp2_with (first | (go_at_call 94; (with_reducible refine (K1.out _).mono ?_); rintro e w1 ⟨rfl, hb1⟩; obtain ⟨B1, B2, hz, HW⟩ := own2 hb1; obtain ⟨m0, m1, m2, -⟩ := blk3 B1; obtain ⟨n0, n1, n2, -⟩ := blk3 B2; clear hb1) | (go_at_call 94; (with_reducible refine (K2.out _).mono ?_); rintro e w2 ⟨rfl, hb2⟩; have B3 := B1.below hb2 B1.lt; have B4 := B2.below hb2 B2.lt; obtain ⟨m0, m1, m2, -⟩ := blk3 B3; obtain ⟨n0, n1, n2, -⟩ := blk3 B4; have HW2 := bstep HW hb2; clear HW))
        go_ret
        exact ⟨rfl, HW2⟩
      · have e1 : (x1 == x2) = false := by simpa using hx
        clear h h1 h2 hx
        go_enter Try.func123, Try.ntmps123
        go_wp2_with (first | (go_at_call 94; (with_reducible refine (K1.out _).mono ?_); rintro e w1 ⟨rfl, hb1⟩; obtain ⟨B1, B2, hz, HW⟩ := own2 hb1; obtain ⟨m0, m1, m2, -⟩ := blk3 B1; obtain ⟨n0, n1, n2, -⟩ := blk3 B2; clear hb1) | (go_at_call 94; (with_reducible refine (K2.out _).mono ?_); rintro e w2 ⟨rfl, hb2⟩; have B3 := B1.below hb2 B1.lt; have B4 := B2.below hb2 B2.lt; obtain ⟨m0, m1, m2, -⟩ := blk3 B3; obtain ⟨n0, n1, n2, -⟩ := blk3 B4; have HW2 := bstep HW hb2; clear HW))
        go_ret
        exact ⟨rfl, HW2⟩
    · have K2 := hide (right_no h2 A2 c2)
      clear h h1 h2
      go_enter Try.func123, Try.ntmps123
      go_wp2_with (first | (go_at_call 94; (with_reducible refine (K1.out _).mono ?_); rintro e w1 ⟨rfl, hb1⟩; obtain ⟨B1, B2, hz, HW⟩ := own2 hb1; obtain ⟨m0, m1, m2, -⟩ := blk3 B1; obtain ⟨n0, n1, n2, -⟩ := blk3 B2; clear hb1) | (go_at_call 94; (with_reducible refine (K2.out _).mono ?_); rintro e w2 ⟨rfl, hb2⟩; have HW2 := bstep HW hb2; clear HW))
      go_ret
      exact ⟨rfl, HW2⟩
  · have K1 := hide (right_no h1 A1 c1)
    clear h h1
    go_enter Try.func123, Try.ntmps123
    go_wp2_with (go_at_call 94; (with_reducible refine (K1.out _).mono ?_); rintro e w1 ⟨rfl, hb1⟩; obtain ⟨B1, B2, hz, HW⟩ := own2 hb1; clear hb1)
    go_ret
    exact ⟨rfl, HW⟩

instance : DecidableEq Col := fun a b => decidable_of_iff (a.r = b.r ∧ a.g = b.g ∧ a.b = b.b ∧ a.a = b.a) ⟨fun h => by cases a; cases b; simp_all, fun h => by rw [h]; exact ⟨rfl, rfl, rfl, rfl⟩⟩
/-- What a difference has been reckoned to: pixels, the most, the sum, the box. -/
structure DSt where
  p : Int
  m : Int
  s : Int
  b : Bx
abbrev DSt.cells (d : DSt) : Array Value := #[.int .i64 d.p, .int .i64 d.m, .int .i64 d.s, .int .i64 0, .int .i64 0, .int .i64 0, .int .i64 0]
def mostL (l : List Int) (m : Int) : Int := l.foldl max m
def sumL (l : List Int) (s : Int) : Int := l.foldl (fun s n => wrap64 (s + wrap64 (n * n))) s
/-- A pixel more. -/
def DSt.step (d : DSt) (x y : Int) (c o : Col) : DSt :=
  if o = c then d else ⟨wrap64 (d.p + 1), mostL (apartV c o) d.m, sumL (apartV c o) d.s, d.b.add x y⟩
theorem blk7 {w : World} {g : Nat} {t : TypeId} {a b c d e f h : Value} (k : Blk w g t #[a, b, c, d, e, f, h]) : w.cell? ⟨g, 0, none⟩ = some a ∧ w.cell? ⟨g, 1, none⟩ = some b ∧ w.cell? ⟨g, 2, none⟩ = some c ∧ w.frozen? ⟨g, 0, none⟩ = false ∧ w.frozen? ⟨g, 1, none⟩ = false ∧ w.frozen? ⟨g, 2, none⟩ = false :=
  ⟨k.cell 0, k.cell 1, k.cell 2, k.frozen 0, k.frozen 1, k.frozen 2⟩

set_option maxRecDepth 100000 in
set_option maxHeartbeats 4000000 in
theorem of1_any (W H : Nat) (A : Option Addr) (l : List Int) (cap : Nat) (gb gd ga : Nat) (st : DSt) (x y : Nat) (c : Col) (w : World) (hR : rightI W H l.length) (hr : RowAt w w.heap.size .u8 A l) (hcap : l.length ≤ cap) (hx : x < W) (hy : y < H) (hc : c.ok) (hu : U8s l)
    (hB : Blk w gb 34 #[.int .i64 W, .int .i64 H, .slice A l.length cap]) (hD : Blk w gd 82 st.cells) (hA : Blk w ga 124 st.b.cells) (h1 : gb ≠ gd) (h2 : gb ≠ ga) (h3 : gd ≠ ga) :
    Calls Try.prog 124 #[.int .i64 (x : Int), .int .i64 (y : Int), colV c, .pointer (some ⟨gb, 0, none⟩), .pointer (some ⟨gd, 0, none⟩), .pointer (some ⟨ga, 0, none⟩)] w fun e w' =>
      e = .returned (.tuple #[]) ∧ Blk w' gd 82 (st.step x y c (imgPx l W x y)).cells ∧ Blk w' ga 124 (st.step x y c (imgPx l W x y)).b.cells ∧ w.heap.size ≤ w'.heap.size ∧ (∀ k, k < w.heap.size → k ≠ gd → k ≠ ga → w'.heap[k]? = w.heap[k]?) ∧ ∀ B, B ≤ gd → B ≤ ga → Below B w w' := by
  have KP := hide fun (w' : World) (hr : RowAt w' w'.heap.size .u8 A l) => (pixel_yes W H A l cap x y w' hR hr hcap (by omega) (by omega)).mono (R' := fun e w'' => e = .returned (.tuple #[colV (imgPx l W x y), .bool true]) ∧ Below w'.heap.size w' w'') (by
    rintro e w'' ⟨rfl, hb⟩
    refine ⟨?_, hb⟩
    unfold imgPx
    rw [nat_idx])
  have ho : (imgPx l W x y).ok := imgPx_ok hu _ _ _
  obtain ⟨o, heo⟩ : ∃ o, o = imgPx l W x y := ⟨_, rfl⟩
  rw [← heo] at KP ho ⊢
  have hr1 := hide (hr.below (below_alloc w (.cells (col4 c) 36)) (Nat.le_refl _) |>.more (by simp : w.heap.size ≤ (w.alloc (.cells (col4 c) 36)).heap.size))
  clear hr hR hcap heo hu
  obtain ⟨b0, b1, b2, -⟩ := blk3 hB
  have lb := hB.lt
  have ld := hD.lt
  have la := hA.lt
  by_cases he : o = c
  · have e4 : o.r = c.r ∧ o.g = c.g ∧ o.b = c.b ∧ o.a = c.a := by rw [he]; exact ⟨rfl, rfl, rfl, rfl⟩
    have q1 : (o.r == c.r) = true := by simpa using e4.1
    have q2 : (o.g == c.g) = true := by simpa using e4.2.1
    have q3 : (o.b == c.b) = true := by simpa using e4.2.2.1
    have q4 : (o.a == c.a) = true := by simpa using e4.2.2.2
    have HE := hide he
    have HD := hide hD
    have HA := hide hA
    clear e4 he hD hA
    go_enter Try.func124, Try.ntmps124
    go_wp2_with (go_at_call 120; (with_reducible refine (KP.out _ hr1.out).mono ?_); rintro e w1 ⟨rfl, hb1⟩; have B0 := (Blk.new w 36 _).below hb1 (Blk.new w 36 _).lt; obtain ⟨m0, m1, m2, m3, -⟩ := blk4 B0; have lz := B0.lt)
    refine bodyPost_ret (v := .tuple #[]) (by simp [results, Try.results124, go_sem]) rfl ⟨rfl, ?_⟩
    have hw := bstep (below_alloc w (.cells (col4 c) 36)) hb1
    have hw2 := balloc hw (.cells (col4 o) 36)
    unfold DSt.step
    rw [if_pos HE.out]
    exact ⟨HD.out.below hw2 ld, HA.out.below hw2 la, hw2.size, fun k hk _ _ => hw2.block k hk, fun B hB _ => hw2.mono (by omega)⟩
  · have hq : ¬ (o.r = c.r ∧ o.g = c.g ∧ o.b = c.b ∧ o.a = c.a) := fun h => he (by cases o; cases c; simp_all)
    have KA := hide fun w' => apart_any c o w' hc ho
    have HE := hide he
    have HQ := hide hq
    have HD := hide hD
    have HA := hide hA
    have HB := hide hB
    clear he hD hA hB hq
    go_enter Try.func124, Try.ntmps124
    go_upto_region 2 with (go_at_call 120; (with_reducible refine (KP.out _ hr1.out).mono ?_); rintro e w1 ⟨rfl, hb1⟩; have B0 := (Blk.new w 36 _).below hb1 (Blk.new w 36 _).lt; obtain ⟨m0, m1, m2, m3, -⟩ := blk4 B0; have lz := B0.lt)
    go_cut [22] (fun s wx => s = .bool false ∧ wx = w1.alloc (.cells (col4 o) 36))
    case first =>
      have hq := HQ.out
      go_wp2_with fail
      all_goals
        go_meet
        exact ⟨rfl, by simp [col4, *]⟩
    case rest =>
      obtain ⟨rfl, rfl⟩ := hcut
      have hwb := bstep (below_alloc w (.cells (col4 c) 36)) hb1
      have hwV := balloc hwb (.cells (col4 o) 36)
      have hC : Blk (w1.alloc (.cells (col4 o) 36)) w.heap.size 36 (col4 c) := B0.alloc _
      have hO : Blk (w1.alloc (.cells (col4 o) 36)) w1.heap.size 36 (col4 o) := Blk.new _ _ _
      have hD : Blk (w1.alloc (.cells (col4 o) 36)) gd 82 st.cells := HD.out.below hwV ld
      have hA : Blk (w1.alloc (.cells (col4 o) 36)) ga 124 st.b.cells := HA.out.below hwV la
      obtain ⟨bo, hboe⟩ : ∃ bo, bo = w1.heap.size := ⟨_, rfl⟩
      rw [← hboe] at hO ⊢
      have hbw : w.heap.size < bo := by omega
      generalize w1.alloc (.cells (col4 o) 36) = V at hwV hC hO hD hA ⊢
      clear hboe m0 m1 m2 m3 b0 b1 b2 lz B0 hwb hb1
      have c1 := hC.far (p := ⟨gd, 0, none⟩) (show w.heap.size ≠ gd by omega) (.int .i64 (wrap64 (st.p + 1)))
      have o1 := hO.far (p := ⟨gd, 0, none⟩) (show bo ≠ gd by omega) (.int .i64 (wrap64 (st.p + 1)))
      have d1 : Blk (V.setCell ⟨gd, 0, none⟩ (.int .i64 (wrap64 (st.p + 1)))) gd 82 #[.int .i64 (wrap64 (st.p + 1)), .int .i64 st.m, .int .i64 st.s, .int .i64 0, .int .i64 0, .int .i64 0, .int .i64 0] := by simpa using hD.set_ 0 (.int .i64 (wrap64 (st.p + 1)))
      have a1 := hA.far (p := ⟨gd, 0, none⟩) (show ga ≠ gd from fun e => h3 e.symm) (.int .i64 (wrap64 (st.p + 1)))
      have k1 : ∀ k, k ≠ gd → (V.setCell ⟨gd, 0, none⟩ (.int .i64 (wrap64 (st.p + 1)))).heap[k]? = V.heap[k]? := fun k hk => Below.heap_setCell _ _ _ _ hk
      have s1 : (V.setCell ⟨gd, 0, none⟩ (.int .i64 (wrap64 (st.p + 1)))).heap.size = V.heap.size := by simp [World.setCell]
      have w1 : ∀ B, B ≤ gd → Below B V (V.setCell ⟨gd, 0, none⟩ (.int .i64 (wrap64 (st.p + 1)))) := fun B hB => (Below.refl B V).setCell (p := ⟨gd, 0, none⟩) hB _
      obtain ⟨e0, e1, e2, f0, f1, f2⟩ := blk7 hD
      go_wp2_with fail
      generalize V.setCell ⟨gd, 0, none⟩ (.int .i64 (wrap64 (st.p + 1))) = V1 at c1 o1 d1 a1 k1 s1 w1 ⊢
      refine (bxadd_any ga st.b x y V1 a1).mono ?_
      rintro e V2 ⟨rfl, a2, s2, k2, w2⟩
      have c2 := c1.same (k2 _ (by omega))
      have o2 := o1.same (k2 _ (by omega))
      have d2 := d1.same (k2 _ h3)
      clear e0 e1 e2 f0 f1 f2 c1 o1 d1 a1 hC hO hD hA
      obtain ⟨m0, m1, m2, m3, -⟩ := blk4 c2
      obtain ⟨n0, n1, n2, n3, -⟩ := blk4 o2
      have HD2 := hide d2
      have HA2 := hide a2
      have z1 := d2.lt
      have z2 := a2.lt
      clear d2 a2
      go_wp2_with (go_at_call 126; (with_reducible refine (KA.out _).mono ?_); rintro e V3 ⟨rfl, hV3⟩)
      have HD3 := hide (HD2.out.below hV3 z1)
      have HA3 := hide (HA2.out.below hV3 z2)
      obtain ⟨L, hL⟩ : ∃ L, L = apartV c o := ⟨_, rfl⟩
      have hL4 : L.length = 4 := by rw [hL]; rfl
      have hix : ∀ i : Nat, i < 4 → ∀ W, (Instr.index 119 (.agg ((L.map (Value.int .i64)).toArray)) (.int .i64 (i : Int))).run Try.prog W = .ok (.int .i64 (L.getD i 0)) W := fun i hi => by
        rw [hL]
        match i, hi with
        | 0, _ => exact fun _ => by kernel_rfl
        | 1, _ => exact fun _ => by kernel_rfl
        | 2, _ => exact fun _ => by kernel_rfl
        | 3, _ => exact fun _ => by kernel_rfl
      have HIX := hide hix
      rw [← hL]
      have HL := hide hL
      have HV3 := hide hV3
      clear hix hL hV3 m0 m1 m2 m3 n0 n1 n2 n3
      go_loopw [33] (fun s wr => ∃ i : Nat, i ≤ 4 ∧ s = .int .i64 i ∧ Blk wr gd 82 #[.int .i64 (wrap64 (st.p + 1)), .int .i64 (mostL (L.take i) st.m), .int .i64 (sumL (L.take i) st.s), .int .i64 0, .int .i64 0, .int .i64 0, .int .i64 0] ∧ (∀ k, k ≠ gd → wr.heap[k]? = V3.heap[k]?) ∧ V3.heap.size = wr.heap.size ∧ ∀ B, B ≤ gd → Below B V3 wr) (fun s _ => 4 - (intOf s).toNat)
      case atStart => exact ⟨0, by omega, rfl, HD3.out, fun _ _ => rfl, rfl, fun B _ => Below.refl B _⟩
      case round =>
        obtain ⟨i, hi, rfl, hd, hk, hs, hw⟩ := hrel
        by_cases hlt : i < 4
        · have hix := HIX.out i hlt
          obtain ⟨n, hn⟩ : ∃ n, n = L.getD i 0 := ⟨_, rfl⟩
          rw [← hn] at hix
          obtain ⟨e0, e1, e2, f0, f1, f2⟩ := blk7 hd
          obtain ⟨M, hM⟩ : ∃ M, M = mostL (L.take i) st.m := ⟨_, rfl⟩
          obtain ⟨S, hS⟩ : ∃ S, S = sumL (L.take i) st.s := ⟨_, rfl⟩
          rw [← hM] at e1 hd
          rw [← hS] at e2 hd
          have hM' : max M n = mostL (L.take (i + 1)) st.m := by
            rw [hM, hn, List.take_succ_eq_append_getElem (by omega)]
            unfold mostL
            rw [List.foldl_append]
            simp [List.getD, show i < L.length from by omega]
          have hS' : wrap64 (S + wrap64 (n * n)) = sumL (L.take (i + 1)) st.s := by
            rw [hS, hn, List.take_succ_eq_append_getElem (by omega)]
            unfold sumL
            rw [List.foldl_append]
            simp [List.getD, show i < L.length from by omega]
          have HHM := hide hM'
          have HHS := hide hS'
          have HD := hide hd
          have HK := hide hk
          have HS := hide hs
          have HW := hide hw
          have lz := hd.lt
          clear hd hk hs hw hM hS hn hM' hS'
          obtain ⟨wo, rfl⟩ : ∃ wo : World, wo = wr := ⟨_, rfl⟩
          go_wp2_with fail
          go_roundw
          case rel =>
            refine ⟨i + 1, by omega, by go_num, ?_, fun k hk => ?_, ?_, fun B hB => ?_⟩
            · rw [← HHM.out, ← HHS.out]
              have := (HD.out.set_ 1 (.int .i64 (max M n))).set_ 2 (.int .i64 (wrap64 (S + wrap64 (n * n))))
              simpa using this
            · rw [Below.heap_setCell _ _ _ _ hk, Below.heap_setCell _ _ _ _ hk]; exact HK.out k hk
            · simp only [World.setCell]; simpa using HS.out
            · exact ((HW.out B hB).setCell (p := ⟨gd, 1, none⟩) hB _).setCell (p := ⟨gd, 2, none⟩) hB _
          case measure => simp [intOf]; omega
        · have hi4 : i = 4 := by omega
          rw [hi4, List.take_of_length_le (by omega)] at hd
          have HD := hide hd
          have HK := hide hk
          have HS := hide hs
          have HW := hide hw
          clear hd hk hs hw
          go_wp2_with fail
          go_end0
          unfold DSt.step
          rw [if_neg HE.out, ← HL.out]
          refine ⟨rfl, HD.out, HA3.out.same (HK.out _ (fun e => h3 e.symm)), ?_, fun k h1' h2' h3' => ?_, fun B hB1 hB2 => ?_⟩
          · have := hwV.size
            have := HV3.out.size
            have := HS.out
            omega
          · rw [HK.out k h2', HV3.out.block k (by have := hwV.size; omega), k2 k h3', k1 k h2', hwV.block k h1']
          · exact ((((hwV.mono (by omega)).trans (w1 B hB1)).trans (w2 B hB2)).trans (HV3.out.mono (by omega))).trans (HW.out B hB1)
end Go.Proofs.Ytkjnheikimpliaa
