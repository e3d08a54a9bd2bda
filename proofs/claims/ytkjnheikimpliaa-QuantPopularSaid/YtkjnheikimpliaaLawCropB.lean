/- The law OpsCrops, where a part is told. -/
import Derived.Test.YtkjnheikimpliaaLawCrop
import Derived.Test.YtkjnheikimpliaaPlain
namespace Go.Proofs.Ytkjnheikimpliaa
set_option linter.unusedVariables false
set_option linter.unusedSimpArgs false
open Go.RowKit
attribute [local go_sem ↓] Go.wp_at_zero Go.wp_at_succ

theorem OutR.cap {w : World} {B0 B g c : Nat} {rows : List (List Col)} (h : OutR w B0 B g c rows) : rows.length ≤ c := by
  obtain ⟨_, vs, ho, _⟩ := h
  rcases ho.2 with ⟨h2, _⟩ | ⟨g', cap, cur, hv, _, hh, hc, _⟩
  · cases h2
  · injection hv with hv _ h3; omega
theorem own_ge' {w : World} {B0 B g c : Nat} {rows : List (List Col)} (h : OutR w B0 B g c rows) : B0 ≤ g := by
  obtain ⟨_, vs, ho, _⟩ := h
  exact own_ge ho
/-- Rows stay while a slice of rows elsewhere is appended to. -/
theorem OutR.keep {w w1 : World} {B0 B1 g c g' c' n m : Nat} {rows : List (List Col)} {vs : List Value} (h : OutR w B0 w.heap.size g c rows) (ho : w.ownsRow B1 58 1 (.slice (some ⟨g', 0, none⟩) n c') m vs) (o : Obj) (hg : (w.alloc o).grownBy w1 (some g')) (hne : g' ≠ g) : OutR w1 B0 w1.heap.size g c rows := by
  have hs : w.heap.size ≤ w1.heap.size := Nat.le_trans (below_alloc w o).size hg.size
  obtain ⟨hlt, us, hu, hv⟩ := h
  refine ⟨by omega, us, owns_same hu ((hg.block g (Nat.lt_of_lt_of_le hlt (below_alloc w o).size) (by simp; omega)).trans (Below.heap_alloc w o g hlt)), fun i hi => ?_⟩
  obtain ⟨A', c', e1, e2, e3⟩ := hv i hi
  refine ⟨A', c', e1, (e2.blocks fun b cur fr hb hh => ?_).more hs, e3⟩
  refine (hg.block b (Nat.lt_of_lt_of_le hb (below_alloc w o).size) ?_).trans (Below.heap_alloc w o b hb)
  intro e; injection e with e; subst e
  rcases ho.2 with ⟨h2, _⟩ | ⟨g'', cap, cur', hv', _, hh', _⟩
  · cases h2
  · injection hv' with hv'; injection hv' with hv'; injection hv' with hv'
    subst hv'
    rw [hh'] at hh; injection hh with hh; injection hh with _ ht; simp at ht
theorem grid_at (px : Nat → Nat → Col) (W H k : Nat) (h : k < H) : (grid px W H).getD k [] = (List.range W).map fun a => px a k := by
  simp [grid, List.getD, h]
/-- The pixels of the part that begins at I, J. -/
def partPx (l : List Int) (W I J : Nat) (a b : Nat) : Col := imgPx l W (I + a) (J + b)

set_option maxRecDepth 100000 in
set_option maxHeartbeats 8000000 in
theorem crops_yes (W H : Nat) (A : Option Addr) (l : List Int) (cap : Nat) (I J a b : Nat) (w : World) (hu : U8s l) (hr : RowAt w w.heap.size .u8 A l) (hcap : l.length ≤ cap) (h : ¬ 600 < l.length) (hR : rightI W H l.length) (hi : I + a ≤ W) (hj : J + b ≤ H) (ha : 1 ≤ a) (hb : 1 ≤ b) :
    Calls Try.prog 12 #[imgV W H A l.length cap, .int .i64 (I : Int), .int .i64 (J : Int), .int .i64 (a : Int), .int .i64 (b : Int)] w fun e w' => e = .returned (.bool true) ∧ Below w.heap.size w w' := by
  obtain ⟨i1, ji, jz0, jz1, jz2⟩ := info_parts cols_info
  have K1 := hide (big_no h W H A cap)
  have K2 := hide fun (w' : World) (hw : Below w.heap.size w w') => (crop_yes W H A l cap I J a b w' hR ((hr.below hw (Nat.le_refl _)).more hw.size) hcap (by omega) (by omega) ha hb)
  have K3 := hide (refRight_yes hR A cap)
  have K4 := hide fun (w' : World) (hw : Below w.heap.size w w') => refRows_any W H A l cap w' hR ((hr.below hw (Nat.le_refl _)).more hw.size)
  have hpx : pxs (cropPx l W I J) a (a * b) = (grid (partPx l W I J) a b).flatten := by
    rw [← pxs_grid]
    exact pxs_congr _ _ a b (by omega) fun p q _ _ => cropPx_nat l W I J p q
  have hus : U8s (bytesL (grid (partPx l W I J) a b).flatten) := by
    rw [← pxs_grid]; exact u8s_pxs (fun p q => imgPx_ok hu _ _ _) _ _
  have hlen : (bytesL (grid (partPx l W I J) a b).flatten).length ≤ 1073741824 := by
    rw [← pxs_grid, bytesL_len, pxs_len]
    have h1 := hR.1.2
    have h2 := hR.2.1.2
    have : a * b ≤ 16384 * 16384 := Nat.mul_le_mul (by omega) (by omega)
    omega
  rw [hpx] at K2
  obtain ⟨bs, hbs⟩ : ∃ bs, bs = bytesL (grid (partPx l W I J) a b).flatten := ⟨_, rfl⟩
  have K5 := hide fun (w' : World) (g c : Nat) (hro : RowsAt w' w'.heap.size (some ⟨g, 0, none⟩) (grid (partPx l W I J) a b)) => refImage_any (some ⟨g, 0, none⟩) (grid (partPx l W I J) a b) c w' hro (by rw [grid_len]; omega) hlen (by rw [grid_len]; have := hR.2.1.2; omega) hus
  have hg0 : ((grid (partPx l W I J) a b).getD 0 []).length = a := by
    unfold grid
    simp [List.getD, show 0 < b from by omega]
  rw [← hbs] at K2 K5 hus
  rw [hg0, grid_len] at K5
  have hx1 := hR.1.2
  have hy1 := hR.2.1.2
  have HUS := hide hus
  have d1 : decide ((I : Int) < 0) = false := by simp
  have d2 : decide ((J : Int) < 0) = false := by simp
  have d3 : decide ((a : Int) < 0) = false := by simp
  have d4 : decide ((b : Int) < 0) = false := by simp
  have d5 : decide ((W : Int) - I < a) = false := by simp; omega
  have d6 : decide ((H : Int) - J < b) = false := by simp; omega
  have t1 : ((a : Int) == 0) = false := by simp; omega
  have t2 : ((b : Int) == 0) = false := by simp; omega
  clear h hR hr hcap hpx hlen hbs hg0 hus
  go_enter Try.func12, Try.ntmps12
  go_wp2_with (first | (go_at_call 50; (with_reducible refine (K1.out _).mono ?_); rintro e w1 ⟨rfl, hb1⟩; obtain ⟨B1, hz, HW⟩ := own1 hb1; obtain ⟨m0, m1, m2, -⟩ := blk3 B1; clear hb1) | (go_at_call 59; (with_reducible refine (K2.out _ HW).mono ?_); rintro e w2 ⟨A', cap', rfl, him, hb2⟩; have B2 := B1.below hb2 hz; obtain ⟨n0, n1, n2, -⟩ := blk3 B2; have hz2 := B2.lt; have HW2 := bstep HW hb2; have HIM := hide him; clear hb2 him) | (go_at_call 36; (with_reducible refine (K3.out _).mono ?_); rintro e w3 ⟨rfl, hb3⟩; obtain ⟨B5, hz5, HW5⟩ := own1 hb3; obtain ⟨p0, p1, p2, -⟩ := blk3 B5; have HW3 := bstep HW2 HW5; have B3 := B2.below HW5 hz2; have hz3 := B3.lt; obtain ⟨q0, q1, q2, -⟩ := blk3 B3; clear hb3))
  have HW4 := balloc HW3 (.cells #[] 58)
  refine (K4.out _ HW4).mono ?_
  rintro e w4 ⟨g, c, rfl, hO, hb4⟩
  have hc := hO.cap
  rw [grid_len] at hc
  have hJc : ¬ c = J := by omega
  have hJc2 : J < c := by omega
  have hJb : J + b ≤ c := by omega
  have HO := hide hO
  obtain ⟨E0, z40, HW5'⟩ := own1 hb4
  have B4 := B3.below HW5' hz3
  have P4 := B5.below HW5' hz5
  have HW6 := bstep HW3 HW5'
  have hJb2 : J + b - J = b := by omega
  have hgl := hO.lt
  clear hO hb4 hc
  go_wp2_with fail
  have HE := hide (show OutR w4 w3.heap.size w4.heap.size w3.heap.size 0 [] from ⟨E0.lt, [], ⟨rfl, .inr ⟨w3.heap.size, 0, #[], rfl, Nat.le_refl _, E0, Nat.le_refl _, by simp, rfl, rfl⟩⟩, fun i hi => by simp at hi⟩)
  have hne0 : w3.heap.size ≠ g := by have := own_ge' HO.out; simp at this; omega
  clear E0 K1 K2 K3 K4 n0 n1 n2 m0 m1 m2 q0 q1 q2 p0 p1 p2
  go_loopw [106, 13] (fun i v wr => ∃ k g' c' : Nat, k ≤ b ∧ i = .int .i64 k ∧ v = .slice (some ⟨g', 0, none⟩) k c' ∧ OutR wr w3.heap.size wr.heap.size g' c' ((grid (partPx l W I J) a b).take k) ∧ OutR wr (w3.heap.size + 1) wr.heap.size g c (grid (imgPx l W) W H) ∧ g' ≠ g ∧ Below w3.heap.size w3 wr) (fun i _ _ => b - (intOf i).toNat)
  case atStart => exact ⟨0, _, 0, Nat.zero_le _, rfl, rfl, HE.out, by simpa using HO.out, hne0, HW5'⟩
  case round =>
    obtain ⟨k, g', c', hk, rfl, rfl, hE, hS, hne, hw⟩ := hrel
    by_cases hlt : k < b
    · obtain ⟨b', off', e1, hbl, Ak, ck, hck, htk, hlk⟩ := hS.rows (J + k) (by rw [grid_len]; omega)
      injection e1 with e1; injection e1 with e1 e2; subst e1 e2
      rw [Nat.zero_add, grid_at _ _ _ _ (by omega)] at hck
      rw [grid_at _ _ _ _ (by omega)] at htk hlk
      rw [List.length_map, List.length_range] at hck hlk
      obtain ⟨bk, ok, cur, fr, rfl, hbk, -, -⟩ := htk 0 (by rw [bytesL_len, List.length_map, List.length_range]; omega)
      have ht2 := htk.sub I a
      rw [range_sub _ _ _ _ hi] at ht2
      have HT := hide ht2
      have hIc : ¬ ck = I := by omega
      have hIc2 : I < ck := by omega
      have hIa : I + a ≤ ck := by omega
      have hIa2 : I + a - I = a := by omega
      have HE := hide hE
      have HS := hide hS
      have HWr := hide hw
      have hlkk : ((grid (partPx l W I J) a b).take k).length = k := by rw [List.length_take, grid_len]; omega
      obtain ⟨_, vs, ho, hv⟩ := hE
      rw [hlkk] at ho hv
      have HOO := hide ho
      have HV := hide hv
      have HLK := hide hlkk
      have hzz := hw.size
      clear htk ht2 hS hw ho hv hlkk
      go_wp2_with (at_builtin; refine wpList_append_lies _ rfl _ _ _ rfl w3.heap.size 58 i1 _ 1 24 Try.underlying57 ji jz0 jz1 jz2 rfl (by omega) (.slice (some ⟨g', 0, none⟩) k c') k vs rfl (HOO.out.alloc _) ⟨wr.heap.size, 0, none⟩ 1 1 [.slice (some ⟨bk, ok + I * 4, none⟩) a (ck - I)] rfl rfl (World.news_of_block (heap_alloc_new wr _)) (by intro u hu; simp at hu; subst hu; rfl) (by omega) (by unfold maxLen; omega) (by omega) (by simp; omega) (wr.heap.size + 1) (by simp) ?_; intro g2 c2 w5 hown2 hg2 hat2 hlt2)
      have hrow : ((List.range a).map fun p => partPx l W I J p k).length = a := by simp
      have hout : OutR w5 w3.heap.size w5.heap.size g2 c2 ((grid (partPx l W I J) a b).take (k + 1)) := by
        rw [grid_take _ _ _ _ hlt]
        exact OutR.push (w := wr) (vs := vs) (Ai := some ⟨bk, ok + I * 4, none⟩) (ci := ck - I) _ (by rw [HLK.out]; exact HV.out) (by rw [HLK.out]; exact HOO.out) HT.out (by rw [hrow]; omega) (by rw [HLK.out, hrow]; exact hown2) hg2 hlt2
      have hsrc := HS.out.keep HOO.out _ hg2 hne
      have hne2 : g2 ≠ g := by
        rcases hat2 with h | h
        · simp [Value.ownBlock] at h; omega
        · have := HS.out.lt; omega
      have hw5 : Below w3.heap.size w3 w5 := (HWr.out.alloc hzz _).grown hg2 (by simp; omega) (fun q hq => by have := own_ge HOO.out; simp [Value.ownBlock] at hq; omega)
      go_roundw
      case rel => exact ⟨.slice (some ⟨g2, 0, none⟩) (k + 1) c2, _, .int .i64 ((k : Int) + 1), ⟨k + 1, by omega, by go_num, g2, c2, rfl, hout, hsrc, hne2, hw5⟩, rfl, rfl, rfl⟩
      case measure => simp [intOf]; omega
    · have hkb : k = b := by omega
      subst hkb
      rw [List.take_of_length_le (by rw [grid_len]; omega)] at hE
      have HR := hide (show RowsAt wr.drew wr.drew.heap.size (some ⟨g', 0, none⟩) (grid (partPx l W I J) a k) from hE.rows)
      have hww : Below w2.heap.size w2 wr := HW5.trans (hw.mono HW5.size)
      have HI2 := hide ((HIM.out.row.below hww (Nat.le_refl _)).more hww.size)
      have C1 := B5.below hw hz5
      obtain ⟨p0, p1, p2, -⟩ := blk3 C1
      have HWW := hide (HW3.trans (hw.mono HW3.size))
      clear hE hS hw hww
      go_wp2_with fail
      go_region_held3 (fun w' => w'.cell? ⟨w2.heap.size, 0, none⟩ = some (.int .i64 a) ∧ w'.cell? ⟨w2.heap.size, 1, none⟩ = some (.int .i64 k) ∧ w'.cell? ⟨w2.heap.size, 2, none⟩ = some (.slice A' bs.length cap')) (go_keep) (first | (go_at_call 55; (with_reducible refine (K5.out _ _ _ HR.out).mono ?_); rintro e w6 ⟨A2, c2, rfl, him2, hb6⟩; have hb6d : Below wr.heap.size wr w6 := (Below.refl wr.heap.size wr).drew.trans hb6; obtain ⟨s0, s1, s2, -⟩ := blk3 (C1.below hb6d C1.lt)) | (go_at_call 54; (with_reducible refine (is_true _ _ A' bs cap' A2 c2 _ ((HI2.out.below hb6d (Nat.le_refl _)).more hb6d.size) him2.row HUS.out).mono ?_); rintro e w7 ⟨rfl, hb7⟩; obtain ⟨v0, v1, v2, -⟩ := blk3 ((C1.below hb6d C1.lt).below hb7 (C1.below hb6d C1.lt).lt)) | (go_at_call 51; (with_reducible refine (awake34 _).mono ?_); rintro e w8 ⟨rfl, hb8⟩; obtain ⟨x0, x1, x2, -⟩ := blk3 (((C1.below hb6d C1.lt).below hb7 (C1.below hb6d C1.lt).lt).below hb8 ((C1.below hb6d C1.lt).below hb7 (C1.below hb6d C1.lt).lt).lt)))
      go_wp2
      go_ret
      exact ⟨rfl, bstep (bstep (bstep HWW.out hb6d) hb7) hb8⟩

theorem opsCrops_law (w : World) (x y : Int) (A : Option Addr) (l : List Int) (cap : Nat) (_ : I64 x) (_ : I64 y) (hr : RowAt w w.heap.size .u8 A l) (hu : U8s l) (hm : l.length ≤ maxLen) (hcap : l.length ≤ cap) (i : Int) (_ : I64 i) (j : Int) (_ : I64 j) (a : Int) (_ : I64 a) (b : Int) (_ : I64 b) :
    Calls Try.prog 12 #[imgV x y A l.length cap, .int .i64 i, .int .i64 j, .int .i64 a, .int .i64 b] w fun e w' => e = .returned (.bool true) ∧ Below w.heap.size w w' := by
  by_cases h : 600 < l.length
  · exact crops_big x y A _ cap i j a b w h
  by_cases hR : rightI x y l.length
  · by_cases ho : (0 ≤ i ∧ 0 ≤ a ∧ i ≤ x ∧ a ≤ x - i) ∧ (0 ≤ j ∧ 0 ≤ b ∧ j ≤ y ∧ b ≤ y - j)
    · by_cases h0 : a = 0 ∨ b = 0
      · exact crops_zero x y A _ cap i j a b w h hR ho h0
      · have hx := hR.1.1
        have hy := hR.2.1.1
        obtain ⟨W, rfl⟩ := Int.eq_ofNat_of_zero_le (show 0 ≤ x by omega)
        obtain ⟨H, rfl⟩ := Int.eq_ofNat_of_zero_le (show 0 ≤ y by omega)
        obtain ⟨I, rfl⟩ := Int.eq_ofNat_of_zero_le ho.1.1
        obtain ⟨J, rfl⟩ := Int.eq_ofNat_of_zero_le ho.2.1
        obtain ⟨P, rfl⟩ := Int.eq_ofNat_of_zero_le ho.1.2.1
        obtain ⟨Q, rfl⟩ := Int.eq_ofNat_of_zero_le ho.2.2.1
        exact crops_yes W H A l cap I J P Q w hu hr hcap h hR (by omega) (by omega) (by omega) (by omega)
    · exact crops_range x y A _ cap i j a b w h hR (by omega)
  · exact crops_no x y A _ cap i j a b w h hR
end Go.Proofs.Ytkjnheikimpliaa
