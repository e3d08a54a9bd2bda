/- quant.Image: walked. -/
import Derived.Test.YtkjnheikimpliaaFarB
import Derived.Test.YtkjnheikimpliaaLayD
namespace Go.Proofs.Ytkjnheikimpliaa
set_option linter.unusedVariables false
set_option linter.unusedSimpArgs false
open Go.RowKit
attribute [local go_sem ↓] Go.wp_at_zero Go.wp_at_succ

set_option maxHeartbeats 2000000 in
theorem qimage_size (x : Int) (A Ac : Option Addr) (n m cap capc : Nat) (w : World) (hn : n ≤ 1073741824) (h : x < 1 ∨ 16384 < x ∨ n = 0 ∨ (1 ≤ x ∧ x ≤ 16384 ∧ n % x.toNat ≠ 0)) :
    Calls Try.prog 83 #[.slice A n cap, .slice Ac m capc, .int .i64 x] w (Refused w 11) := by
  unfold Refused
  have h' : x < 1 ∨ (1 ≤ x ∧ 16384 < x) ∨ (1 ≤ x ∧ x ≤ 16384 ∧ n = 0) ∨ (∃ X : Nat, x = X ∧ 1 ≤ X ∧ X ≤ 16384 ∧ n ≠ 0 ∧ n % X ≠ 0) := by
    by_cases h1 : 1 ≤ x ∧ x ≤ 16384
    · by_cases h2 : n = 0
      · exact .inr (.inr (.inl ⟨h1.1, h1.2, h2⟩))
      · refine .inr (.inr (.inr ⟨x.toNat, by omega, by omega, by omega, h2, ?_⟩))
        omega
    · omega
  clear h
  rcases h' with h1 | ⟨h1, h2⟩ | ⟨h1, h2, rfl⟩ | ⟨X, rfl, h1, h2, h3, h4⟩
  · go_enter Try.func83, Try.ntmps83
    go_wp2
    exact bodyPost_ret (v := .tuple #[imgV 0 0 none 0 0, .int .i64 11]) (by simp [results, Try.results83, go_sem]) rfl ⟨rfl, by repeat (first | (with_reducible exact Below.refl _ _) | (with_reducible refine bset ?_ _ _ (by omega) _) | (with_reducible refine balloc ?_ _))⟩
  · go_enter Try.func83, Try.ntmps83
    go_wp2
    exact bodyPost_ret (v := .tuple #[imgV 0 0 none 0 0, .int .i64 11]) (by simp [results, Try.results83, go_sem]) rfl ⟨rfl, by repeat (first | (with_reducible exact Below.refl _ _) | (with_reducible refine bset ?_ _ _ (by omega) _) | (with_reducible refine balloc ?_ _))⟩
  · go_enter Try.func83, Try.ntmps83
    go_wp2
    exact bodyPost_ret (v := .tuple #[imgV 0 0 none 0 0, .int .i64 11]) (by simp [results, Try.results83, go_sem]) rfl ⟨rfl, by repeat (first | (with_reducible exact Below.refl _ _) | (with_reducible refine bset ?_ _ _ (by omega) _) | (with_reducible refine balloc ?_ _))⟩
  · have em : (n : Int).tmod (X : Int) = ((n % X : Nat) : Int) := tmod_nat n X
    have hx0 : ¬ ((X : Int) = 0) := by omega
    have hx1 : ¬ (X = 0) := by omega
    have t1 : ((n : Int) == 0) = false := by simp; omega
    have t2 : (((n % X : Nat) : Int) == 0) = false := by simp; omega
    generalize n % X = q at em t2 h4
    go_enter Try.func83, Try.ntmps83
    go_wp2
    exact bodyPost_ret (v := .tuple #[imgV 0 0 none 0 0, .int .i64 11]) (by simp [results, Try.results83, go_sem]) rfl ⟨rfl, by repeat (first | (with_reducible exact Below.refl _ _) | (with_reducible refine bset ?_ _ _ (by omega) _) | (with_reducible refine balloc ?_ _))⟩

/-- A number's colour. -/
def pickC (cs : List Col) (z : Int) : Col := cs.getD z.toNat ⟨0, 0, 0, 0⟩
/-- Are all numbers those of colours? -/
def allIn (l : List Int) (m : Nat) : Prop := ∀ i, i < l.length → 0 ≤ l.getD i 0 ∧ l.getD i 0 < m

set_option maxRecDepth 100000 in
set_option maxHeartbeats 8000000 in
theorem qimage_any (X : Nat) (An Ac : Option Addr) (l : List Int) (cs : List Col) (cap capc : Nat) (w : World) (hX : 1 ≤ X ∧ X ≤ 16384) (hn : 1 ≤ l.length) (hn2 : l.length ≤ 16384) (hmod : l.length % X = 0) (hrn : RowAt w w.heap.size .i64 An l) (hrc : RowAt w w.heap.size .u8 Ac (bytesL cs)) (hm : cs.length ≤ 1073741824) (hl : ∀ z ∈ l, I64 z) :
    Calls Try.prog 83 #[.slice An l.length cap, .slice Ac cs.length capc, .int .i64 (X : Int)] w fun e w' => (allIn l cs.length ∧ MadeL w X (l.length / X : Nat) (bytesL (l.map (pickC cs))) e w') ∨ (¬ allIn l cs.length ∧ Refused w 2 e w') := by
  obtain ⟨i0, hi, gz0, gz1, gz2⟩ := info_parts u8_info
  have em : (l.length : Int).tmod (X : Int) = ((l.length % X : Nat) : Int) := tmod_nat _ X
  have ed : (l.length : Int).tdiv (X : Int) = ((l.length / X : Nat) : Int) := tdiv_nat _ X
  rw [hmod] at em
  have hq : l.length / X ≤ l.length := Nat.div_le_self _ _
  obtain ⟨Y, hY⟩ : ∃ Y, Y = l.length / X := ⟨_, rfl⟩
  rw [← hY] at ed hq ⊢
  have ey : IntKind.i64.wrap (Y : Int) = (Y : Int) := IntWalk.i64_in _ (by omega)
  have hx0 : ¬ ((X : Int) = 0) := by omega
  have hx1 : ¬ (X = 0) := by omega
  obtain ⟨n, hnn⟩ : ∃ n, n = l.length := ⟨_, rfl⟩
  have hrn0 : ∃ ba oa, An = some ⟨ba, oa, none⟩ ∧ ba < w.heap.size ∧ ∀ i, i < n → w.cell? ⟨ba, oa + i, none⟩ = some (.int .i64 (l.getD i 0)) := by
    obtain ⟨ba, oa, rfl, hb, -⟩ := hrn 0 (by omega)
    refine ⟨ba, oa, rfl, hb, fun i hi => ?_⟩
    obtain ⟨b', o', e, -, h⟩ := hrn i (by omega)
    injection e with e; injection e with e1 e2
    subst e1 e2
    exact h
  obtain ⟨ba, oa, rfl, hba, hcn⟩ := hrn0
  have HRC := hide hrc
  have HCN := hide hcn
  have HNN := hide hnn
  have t1 : ((n : Int) == 0) = false := by simp; omega
  have a1 : decide ((X : Int) < 1) = false := by simp; omega
  have a2 : decide ((16384 : Int) < (X : Int)) = false := by simp; omega
  have a3 : decide ((16384 : Int) < (Y : Int)) = false := by simp; omega
  rw [← hnn] at em ed hn hn2 hq ⊢
  have HI := hide (fun i (hi : i < n) => hl (l.getD i 0) (by rw [hnn] at hi; simp [List.getD, hi]))
  clear hrn hrc hmod hY hcn hnn hl
  have hb0 := balloc (below_alloc w (.cells #[.int .i64 0, .int .i64 0, .slice none 0 0] 34)) (.cells #[.int .i64 X, .int .i64 Y, .slice none 0 0] 34)
  have hR0 : Blk ((w.alloc (.cells #[.int .i64 0, .int .i64 0, .slice none 0 0] 34)).alloc (.cells #[.int .i64 X, .int .i64 Y, .slice none 0 0] 34)) w.heap.size 34 #[.int .i64 0, .int .i64 0, .slice none 0 0] := (Blk.new _ _ _).alloc _
  have hM0 : Blk ((w.alloc (.cells #[.int .i64 0, .int .i64 0, .slice none 0 0] 34)).alloc (.cells #[.int .i64 X, .int .i64 Y, .slice none 0 0] 34)) (w.heap.size + 1) 34 #[.int .i64 X, .int .i64 Y, .slice none 0 0] := Blk.new' _ _ _ _ (by simp)
  have HB0 := hide hb0
  have HR0 := hide hR0
  have HM0 := hide hM0
  clear hb0 hR0 hM0
  go_enter Try.func83, Try.ntmps83
  go_wp2_with fail
  go_loopw [45] (fun s wr => ∃ (k : Nat) (v : Value), k ≤ n ∧ s = .int .i64 k ∧ (∀ i, i < k → 0 ≤ l.getD i 0 ∧ l.getD i 0 < cs.length) ∧ Blk wr w.heap.size 34 #[.int .i64 0, .int .i64 0, .slice none 0 0] ∧ Blk wr (w.heap.size + 1) 34 #[.int .i64 X, .int .i64 Y, v] ∧ wr.ownsRow (w.heap.size + 1 + 1) 5 1 v (4 * k) (u8L (bytesL ((l.take k).map (pickC cs)))) ∧ Below w.heap.size w wr) (fun s _ => n - (intOf s).toNat)
  case atStart => exact ⟨0, _, Nat.zero_le _, rfl, fun i hi => absurd hi (Nat.not_lt_zero _), HR0.out, HM0.out, World.ownsRow_nil _ _ _ _, HB0.out⟩
  case round =>
    obtain ⟨k, v, hk, rfl, hin, hR, hM, ho, hb⟩ := hrel
    by_cases hlt : k < n
    · have hck : wr.cell? ⟨ba, oa + k, none⟩ = some (.int .i64 (l.getD k 0)) := (hb.cell (p := ⟨ba, _, none⟩) hba).trans (HCN.out k hlt)
      obtain ⟨z, hz⟩ : ∃ z, z = l.getD k 0 := ⟨_, rfl⟩
      rw [← hz] at hck
      have HZ := hide hz
      have HINK := hide hin
      have HR := hide hR
      have HM := hide hM
      have HO := hide ho
      have HB := hide hb
      by_cases hzr : 0 ≤ z ∧ z < cs.length
      · obtain ⟨j, rfl⟩ := Int.eq_ofNat_of_zero_le hzr.1
        have hj : j < cs.length := by omega
        obtain ⟨bc, oc, rfl, hat⟩ := cols_at HRC.out (by omega)
        obtain ⟨c, hc⟩ : ∃ c, c = cs.getD j ⟨0, 0, 0, 0⟩ := ⟨_, rfl⟩
        have hlook := hide (fun (w' : World) (hw : Below w.heap.size w w') => (by have h := (hat.below hw).at_ j hj; rw [← hc] at h; exact h : CAt w' bc (oc + j * 4) c))
        have lbc := hat.lt
        have d1 : decide ((cs.length : Int) ≤ (j : Int)) = false := by simp; omega
        have HC := hide hc
        clear hz hin hR hM ho hb hat hc
        go_wp2_with fail
        have hdV : Below wr.heap.size wr wr.drew := (Below.refl _ _).drew
        have RV := HR.out.below hdV HR.out.lt
        have MV := HM.out.below hdV HM.out.lt
        have OV := owns_belowB HO.out hdV
        have BV := bstep HB.out hdV
        obtain ⟨x0, x1, x2, x3⟩ := hlook.out _ BV
        refine wp_region_noPanic ?_
        refine wp_region_held_drew (S := (fun w' => w'.cell? ⟨bc, oc + j * 4, none⟩ = some (.int .u8 c.r) ∧ w'.cell? ⟨bc, oc + j * 4 + 1, none⟩ = some (.int .u8 c.g) ∧ w'.cell? ⟨bc, oc + j * 4 + 2, none⟩ = some (.int .u8 c.b) ∧ w'.cell? ⟨bc, oc + j * 4 + 3, none⟩ = some (.int .u8 c.a))) (by kernel_rfl) ?_ (fun hHeld => ?_)
        · ((try dsimp only); exact ⟨x0, x1, x2, x3⟩)
        generalize wr.drew = V at hHeld RV MV OV BV x0 x1 x2 x3 ⊢
        clear hdV HR HM HO HB
        have m2 := MV.cell 2
        have f2 := MV.frozen 2
        obtain ⟨-, -, m2x, -⟩ := blk3x MV
        simp only [List.getElem?_toArray, List.getElem?_cons_succ, List.getElem?_cons_zero] at m2
        have HRV := hide RV
        have HMV := hide MV
        have HOV := hide OV
        have HBV := hide BV
        have lmV := MV.lt
        have nb1 : ¬ w.heap.size + 1 = bc := by omega
        have nb2 : ¬ bc = w.heap.size + 1 := by omega
        clear RV MV OV BV
        refine wpAnyH_take (i := 0) (v := ?vx0) rfl (by kernel_rfl) (by kernel_rfl) (by kernel_rfl) (fun _ _ _ h => h) (Or.inl ⟨by rfl, ?hyx0⟩) (by assumption) ?restx0
        case hyx0 => (intro w hSw; (try dsimp only at hSw); go_simp; try with_reducible rfl)
        try simp only [Act.put, List.setIfInBounds_toArray, List.set_cons_zero, List.set_cons_succ, List.getElem_toArray, List.getElem_cons_succ, List.getElem_cons_zero]
        refine wpAnyH_take (i := 2) (v := ?vx2) rfl (by kernel_rfl) (by kernel_rfl) (by kernel_rfl) (fun _ _ _ h => h) (Or.inl ⟨by rfl, ?hyx2⟩) (by assumption) ?restx2
        case hyx2 => (intro w hSw; (try dsimp only at hSw); go_simp; try with_reducible rfl)
        try simp only [Act.put, List.setIfInBounds_toArray, List.set_cons_zero, List.set_cons_succ, List.getElem_toArray, List.getElem_cons_succ, List.getElem_cons_zero]
        refine wpAnyH_take (i := 3) (v := ?vx3) rfl (by kernel_rfl) (by kernel_rfl) (by kernel_rfl) (fun _ _ _ h => h) (Or.inl ⟨by rfl, ?hyx3⟩) (by assumption) ?restx3
        case hyx3 => (intro w hSw; (try dsimp only at hSw); go_simp; try with_reducible rfl)
        try simp only [Act.put, List.setIfInBounds_toArray, List.set_cons_zero, List.set_cons_succ, List.getElem_toArray, List.getElem_cons_succ, List.getElem_cons_zero]
        refine wpAnyH_take (i := 4) (v := ?vx4) rfl (by kernel_rfl) (by kernel_rfl) (by kernel_rfl) (fun _ _ _ h => h) (Or.inl ⟨by rfl, ?hyx4⟩) (by assumption) ?restx4
        case hyx4 => (intro w hSw; (try dsimp only at hSw); go_simp; try with_reducible rfl)
        try simp only [Act.put, List.setIfInBounds_toArray, List.set_cons_zero, List.set_cons_succ, List.getElem_toArray, List.getElem_cons_succ, List.getElem_cons_zero]
        refine wpAnyH_take (i := 5) (v := ?vx5) rfl (by kernel_rfl) (by kernel_rfl) (by kernel_rfl) (fun _ _ _ h => h) (Or.inl ⟨by rfl, ?hyx5⟩) (by assumption) ?restx5
        case hyx5 => (intro w hSw; (try dsimp only at hSw); go_simp; try with_reducible rfl)
        try simp only [Act.put, List.setIfInBounds_toArray, List.set_cons_zero, List.set_cons_succ, List.getElem_toArray, List.getElem_cons_succ, List.getElem_cons_zero]
        refine wpAnyH_take (i := 6) (v := ?vx6) rfl (by kernel_rfl) (by kernel_rfl) (by kernel_rfl) (fun _ _ _ h => h) (Or.inl ⟨by rfl, ?hyx6⟩) (by assumption) ?restx6
        case hyx6 => (intro w hSw; (try dsimp only at hSw); go_simp; try with_reducible rfl)
        try simp only [Act.put, List.setIfInBounds_toArray, List.set_cons_zero, List.set_cons_succ, List.getElem_toArray, List.getElem_cons_succ, List.getElem_cons_zero]
        refine wpAnyH_take (i := 7) (v := ?vx7) rfl (by kernel_rfl) (by kernel_rfl) (by kernel_rfl) (fun _ _ _ h => h) (Or.inl ⟨by rfl, ?hyx7⟩) (by assumption) ?restx7
        case hyx7 => (intro w hSw; (try dsimp only at hSw); go_simp; try with_reducible rfl)
        try simp only [Act.put, List.setIfInBounds_toArray, List.set_cons_zero, List.set_cons_succ, List.getElem_toArray, List.getElem_cons_succ, List.getElem_cons_zero]
        refine wpAnyH_take (i := 8) (v := ?vx8) rfl (by kernel_rfl) (by kernel_rfl) (by kernel_rfl) (fun _ _ _ h => h) (Or.inl ⟨by rfl, ?hyx8⟩) (by assumption) ?restx8
        case hyx8 => (intro w hSw; (try dsimp only at hSw); go_simp; try with_reducible rfl)
        try simp only [Act.put, List.setIfInBounds_toArray, List.set_cons_zero, List.set_cons_succ, List.getElem_toArray, List.getElem_cons_succ, List.getElem_cons_zero]
        refine wpAnyH_take (i := 9) (v := ?vx9) rfl (by kernel_rfl) (by kernel_rfl) (by kernel_rfl) (fun _ _ _ h => h) (Or.inl ⟨by rfl, ?hyx9⟩) (by assumption) ?restx9
        case hyx9 => (intro w hSw; (try dsimp only at hSw); go_simp; try with_reducible rfl)
        try simp only [Act.put, List.setIfInBounds_toArray, List.set_cons_zero, List.set_cons_succ, List.getElem_toArray, List.getElem_cons_succ, List.getElem_cons_zero]
        refine wpAnyH_take (i := 10) (v := ?vx10) rfl (by kernel_rfl) (by kernel_rfl) (by kernel_rfl) (fun _ _ _ h => h) (Or.inl ⟨by rfl, ?hyx10⟩) (by assumption) ?restx10
        case hyx10 => (intro w hSw; (try dsimp only at hSw); go_simp; try with_reducible rfl)
        try simp only [Act.put, List.setIfInBounds_toArray, List.set_cons_zero, List.set_cons_succ, List.getElem_toArray, List.getElem_cons_succ, List.getElem_cons_zero]
        refine wpAnyH_take (i := 11) (v := ?vx11) rfl (by kernel_rfl) (by kernel_rfl) (by kernel_rfl) (fun _ _ _ h => h) (Or.inl ⟨by rfl, ?hyx11⟩) (by assumption) ?restx11
        case hyx11 => (intro w hSw; (try dsimp only at hSw); go_simp; try with_reducible rfl)
        try simp only [Act.put, List.setIfInBounds_toArray, List.set_cons_zero, List.set_cons_succ, List.getElem_toArray, List.getElem_cons_succ, List.getElem_cons_zero]
        refine wpAnyH_take (i := 12) (v := ?vx12) rfl (by kernel_rfl) (by kernel_rfl) (by kernel_rfl) (fun _ _ _ h => h) (Or.inl ⟨by rfl, ?hyx12⟩) (by assumption) ?restx12
        case hyx12 => (intro w hSw; (try dsimp only at hSw); go_simp; try with_reducible rfl)
        try simp only [Act.put, List.setIfInBounds_toArray, List.set_cons_zero, List.set_cons_succ, List.getElem_toArray, List.getElem_cons_succ, List.getElem_cons_zero]
        refine wpAnyH_take (i := 13) (v := ?vx13) rfl (by kernel_rfl) (by kernel_rfl) (by kernel_rfl) (fun _ _ _ h => h) (Or.inl ⟨by rfl, ?hyx13⟩) (by assumption) ?restx13
        case hyx13 => (intro w hSw; (try dsimp only at hSw); go_simp; try with_reducible rfl)
        try simp only [Act.put, List.setIfInBounds_toArray, List.set_cons_zero, List.set_cons_succ, List.getElem_toArray, List.getElem_cons_succ, List.getElem_cons_zero]
        refine wpAnyH_take (i := 14) (v := ?vx14) rfl (by kernel_rfl) (by kernel_rfl) (by kernel_rfl) (fun _ _ _ h => h) (Or.inl ⟨by rfl, ?hyx14⟩) (by assumption) ?restx14
        case hyx14 => (intro w hSw; (try dsimp only at hSw); go_simp; try with_reducible rfl)
        try simp only [Act.put, List.setIfInBounds_toArray, List.set_cons_zero, List.set_cons_succ, List.getElem_toArray, List.getElem_cons_succ, List.getElem_cons_zero]
        refine wpAnyH_take (i := 15) (v := ?vx15) rfl (by kernel_rfl) (by kernel_rfl) (by kernel_rfl) (fun _ _ _ h => h) (Or.inl ⟨by rfl, ?hyx15⟩) (by assumption) ?restx15
        case hyx15 => (intro w hSw; (try dsimp only at hSw); go_simp; try with_reducible rfl)
        try simp only [Act.put, List.setIfInBounds_toArray, List.set_cons_zero, List.set_cons_succ, List.getElem_toArray, List.getElem_cons_succ, List.getElem_cons_zero]
        refine wpAnyH_take (i := 16) (v := ?vx16) rfl (by kernel_rfl) (by kernel_rfl) (by kernel_rfl) (fun _ _ _ h => h) (Or.inl ⟨by rfl, ?hyx16⟩) (by assumption) ?restx16
        case hyx16 => (intro w hSw; (try dsimp only at hSw); go_simp; try with_reducible rfl)
        try simp only [Act.put, List.setIfInBounds_toArray, List.set_cons_zero, List.set_cons_succ, List.getElem_toArray, List.getElem_cons_succ, List.getElem_cons_zero]
        refine wpAnyH_take (i := 17) (v := ?vx17) rfl (by kernel_rfl) (by kernel_rfl) (by kernel_rfl) (fun _ _ _ h => h) (Or.inl ⟨by rfl, ?hyx17⟩) (by assumption) ?restx17
        case hyx17 => (intro w hSw; (try dsimp only at hSw); go_simp; try with_reducible rfl)
        try simp only [Act.put, List.setIfInBounds_toArray, List.set_cons_zero, List.set_cons_succ, List.getElem_toArray, List.getElem_cons_succ, List.getElem_cons_zero]
        refine wpAnyH_take (i := 18) (v := ?vx18) rfl (by kernel_rfl) (by kernel_rfl) (by kernel_rfl) (fun _ _ _ h => h) (Or.inl ⟨by rfl, ?hyx18⟩) (by assumption) ?restx18
        case hyx18 => (intro w hSw; (try dsimp only at hSw); go_simp; try with_reducible rfl)
        try simp only [Act.put, List.setIfInBounds_toArray, List.set_cons_zero, List.set_cons_succ, List.getElem_toArray, List.getElem_cons_succ, List.getElem_cons_zero]
        refine wpAnyH_take (i := 19) (v := ?vx19) rfl (by kernel_rfl) (by kernel_rfl) (by kernel_rfl) (fun _ _ _ h => h) (Or.inl ⟨by rfl, ?hyx19⟩) (by assumption) ?restx19
        case hyx19 => (intro w hSw; (try dsimp only at hSw); go_simp; try with_reducible rfl)
        try simp only [Act.put, List.setIfInBounds_toArray, List.set_cons_zero, List.set_cons_succ, List.getElem_toArray, List.getElem_cons_succ, List.getElem_cons_zero]
        refine wpAnyH_take (i := 20) (v := ?vx20) rfl (by kernel_rfl) (by kernel_rfl) (by kernel_rfl) (fun _ _ _ h => h) (Or.inl ⟨by rfl, ?hyx20⟩) (by assumption) ?restx20
        case hyx20 => (intro w hSw; (try dsimp only at hSw); go_simp; try with_reducible rfl)
        try simp only [Act.put, List.setIfInBounds_toArray, List.set_cons_zero, List.set_cons_succ, List.getElem_toArray, List.getElem_cons_succ, List.getElem_cons_zero]
        refine wpAnyH_take (i := 21) (v := ?vx21) rfl (by kernel_rfl) (by kernel_rfl) (by kernel_rfl) (fun _ _ _ h => h) (Or.inl ⟨by rfl, ?hyx21⟩) (by assumption) ?restx21
        case hyx21 => (intro w hSw; (try dsimp only at hSw); go_simp; try with_reducible rfl)
        try simp only [Act.put, List.setIfInBounds_toArray, List.set_cons_zero, List.set_cons_succ, List.getElem_toArray, List.getElem_cons_succ, List.getElem_cons_zero]
        refine wpAnyH_ready (rs := [1, 22]) (by kernel_rfl) (by simp) ?_
        refine AllReadyH.cons rfl (fun K hK => ?_) (AllReadyH.cons rfl (fun K hK => ?_) AllReadyH.nil)
        · go_simp
          refine hK.out _ _ ?_ (fun hHeld => ?_)
          · ((try dsimp only); simp (maxDischargeDepth := 20) [*, World.cell?_alloc_some, World.cell?_setCell_far])
          clear hK K
          try simp only [Act.put, List.setIfInBounds_toArray, List.set_cons_zero, List.set_cons_succ, List.getElem_toArray, List.getElem_cons_succ, List.getElem_cons_zero]
          refine wpAnyH_ready (rs := [22]) (by kernel_rfl) (by simp) ?_
          refine AllReadyH.cons rfl (fun K hK => ?_) AllReadyH.nil
          go_simp
          refine hK.out _ _ ?_ (fun hHeld => ?_)
          · ((try dsimp only); simp (maxDischargeDepth := 20) [*, World.cell?_alloc_some, World.cell?_setCell_far])
          clear hK K
          try simp only [Act.put, List.setIfInBounds_toArray, List.set_cons_zero, List.set_cons_succ, List.getElem_toArray, List.getElem_cons_succ, List.getElem_cons_zero]
          refine wpAnyH_ready (rs := [23]) (by kernel_rfl) (by simp) ?_
          refine AllReadyH.cons rfl (fun K hK => ?_) AllReadyH.nil
          refine step_append_lies _ (by rfl) _ _ _ (by rfl) (w.heap.size + 1 + 1) 5 i0 _ 1 1 Try.underlying32 hi gz0 gz1 gz2 rfl (by omega) v (4 * k) _ (by rfl) (HOV.out.alloc _) ⟨V.heap.size, 0, none⟩ 4 4 [.int .u8 c.r, .int .u8 c.g, .int .u8 c.b, .int .u8 c.a] (by rfl) (by rfl) (World.news_of_block (heap_alloc_new V _)) (u8L_one [c.r, c.g, c.b, c.a]) (by omega) (by unfold maxLen; omega) (by omega) (by simp; omega) (V.heap.size + 1) (by simp) ?_
          intro g' c' w6 hown2 hg2 hat2 hlt2
          have B6 := (HBV.out.alloc HBV.out.size (.cells #[.int .u8 c.r, .int .u8 c.g, .int .u8 c.b, .int .u8 c.a] 5)).grown hg2 (by simp; have := HBV.out.size; omega) (fun q hq => by have := (HOV.out.lt q hq).1; omega)
          have M6 := (HMV.out.alloc (.cells #[.int .u8 c.r, .int .u8 c.g, .int .u8 c.b, .int .u8 c.a] 5)).grown hg2 (fun e => by have := (HOV.out.lt _ e.symm).1; omega)
          have R6 := (HRV.out.alloc (.cells #[.int .u8 c.r, .int .u8 c.g, .int .u8 c.b, .int .u8 c.a] 5)).grown hg2 (fun e => by have := (HOV.out.lt _ e.symm).1; omega)
          have m2 := M6.cell 2
          have f2 := M6.frozen 2
          simp only [List.getElem?_toArray, List.getElem?_cons_succ, List.getElem?_cons_zero] at m2
          obtain ⟨x0, x1, x2, x3⟩ := hlook.out _ B6
          have H6 := hide hown2
          have HB6 := hide B6
          have HM6 := hide M6
          have HR6 := hide R6
          clear hown2 B6 M6 R6 hg2 hat2
          refine hK.out _ _ ?_ (fun hHeld => ?_)
          · ((try dsimp only); simp (maxDischargeDepth := 20) [*, World.cell?_alloc_some, World.cell?_setCell_far])
          clear hK K
          try simp only [Act.put, List.setIfInBounds_toArray, List.set_cons_zero, List.set_cons_succ, List.getElem_toArray, List.getElem_cons_succ, List.getElem_cons_zero]
          refine wpAnyH_take (i := 24) (v := ?va24) rfl (by kernel_rfl) (by kernel_rfl) (by kernel_rfl) (fun _ _ _ h => h) (Or.inl ⟨by rfl, ?hya24⟩) (by assumption) ?resta24
          case hya24 => (intro w hSw; (try dsimp only at hSw); go_simp; try with_reducible rfl)
          try simp only [Act.put, List.setIfInBounds_toArray, List.set_cons_zero, List.set_cons_succ, List.getElem_toArray, List.getElem_cons_succ, List.getElem_cons_zero]
          refine wpAnyH_ready (rs := [25]) (by kernel_rfl) (by simp) ?_
          refine AllReadyH.cons rfl (fun K hK => ?_) AllReadyH.nil
          go_simp
          refine hK.out _ _ ?_ (fun hHeld => ?_)
          · ((try dsimp only); simp (maxDischargeDepth := 20) [*, World.cell?_alloc_some, World.cell?_setCell_far])
          clear hK K
          try simp only [Act.put, List.setIfInBounds_toArray, List.set_cons_zero, List.set_cons_succ, List.getElem_toArray, List.getElem_cons_succ, List.getElem_cons_zero]
          refine wpAnyH_done (by kernel_rfl) ?_ _
          refine NoPanic.normal ?_
          go_wp2_with fail
          go_roundw
          case rel =>
            refine ⟨k + 1, _, by omega, by go_num, fun i hi => ?_, HR6.out.far (p := ⟨w.heap.size + 1, 2, none⟩) (by show w.heap.size ≠ w.heap.size + 1; omega) _, by simpa using HM6.out.set_ 2 (.slice (some ⟨g', 0, none⟩) (4 * k + 4) c'), ?_, bset HB6.out _ _ (by omega) _⟩
            · by_cases hik : i = k
              · subst hik; rw [← HZ.out]; exact hzr
              · exact HINK.out i (by omega)
            · have e : bytesL ((l.take (k + 1)).map (pickC cs)) = bytesL ((l.take k).map (pickC cs)) ++ [c.r, c.g, c.b, c.a] := by
                rw [List.take_succ_eq_append_getElem (by rw [← HNN.out]; exact hlt), List.map_append, List.map_cons, List.map_nil, bytesL_snoc]
                have h1 : pickC cs (l[k]'(by rw [← HNN.out]; exact hlt)) = c := by
                  have h2 : l[k]'(by rw [← HNN.out]; exact hlt) = (j : Int) := by rw [HZ.out]; simp [List.getD, show k < l.length by rw [← HNN.out]; exact hlt]
                  rw [h2, HC.out]
                  unfold pickC
                  simp
                rw [h1]
              rw [e, u8L_append]
              exact owns_keepB H6.out (fun b hb1 hb2 => Below.heap_setCell _ _ _ _ (by show b ≠ w.heap.size + 1; omega))
          case measure => simp [intOf]; omega
        · go_simp
          refine hK.out _ _ ?_ (fun hHeld => ?_)
          · ((try dsimp only); simp (maxDischargeDepth := 20) [*, World.cell?_alloc_some, World.cell?_setCell_far])
          clear hK K
          try simp only [Act.put, List.setIfInBounds_toArray, List.set_cons_zero, List.set_cons_succ, List.getElem_toArray, List.getElem_cons_succ, List.getElem_cons_zero]
          refine wpAnyH_ready (rs := [1]) (by kernel_rfl) (by simp) ?_
          refine AllReadyH.cons rfl (fun K hK => ?_) AllReadyH.nil
          go_simp
          refine hK.out _ _ ?_ (fun hHeld => ?_)
          · ((try dsimp only); simp (maxDischargeDepth := 20) [*, World.cell?_alloc_some, World.cell?_setCell_far])
          clear hK K
          try simp only [Act.put, List.setIfInBounds_toArray, List.set_cons_zero, List.set_cons_succ, List.getElem_toArray, List.getElem_cons_succ, List.getElem_cons_zero]
          refine wpAnyH_ready (rs := [23]) (by kernel_rfl) (by simp) ?_
          refine AllReadyH.cons rfl (fun K hK => ?_) AllReadyH.nil
          refine step_append_lies _ (by rfl) _ _ _ (by rfl) (w.heap.size + 1 + 1) 5 i0 _ 1 1 Try.underlying32 hi gz0 gz1 gz2 rfl (by omega) v (4 * k) _ (by rfl) (HOV.out.alloc _) ⟨V.heap.size, 0, none⟩ 4 4 [.int .u8 c.r, .int .u8 c.g, .int .u8 c.b, .int .u8 c.a] (by rfl) (by rfl) (World.news_of_block (heap_alloc_new V _)) (u8L_one [c.r, c.g, c.b, c.a]) (by omega) (by unfold maxLen; omega) (by omega) (by simp; omega) (V.heap.size + 1) (by simp) ?_
          intro g' c' w6 hown2 hg2 hat2 hlt2
          have B6 := (HBV.out.alloc HBV.out.size (.cells #[.int .u8 c.r, .int .u8 c.g, .int .u8 c.b, .int .u8 c.a] 5)).grown hg2 (by simp; have := HBV.out.size; omega) (fun q hq => by have := (HOV.out.lt q hq).1; omega)
          have M6 := (HMV.out.alloc (.cells #[.int .u8 c.r, .int .u8 c.g, .int .u8 c.b, .int .u8 c.a] 5)).grown hg2 (fun e => by have := (HOV.out.lt _ e.symm).1; omega)
          have R6 := (HRV.out.alloc (.cells #[.int .u8 c.r, .int .u8 c.g, .int .u8 c.b, .int .u8 c.a] 5)).grown hg2 (fun e => by have := (HOV.out.lt _ e.symm).1; omega)
          have m2 := M6.cell 2
          have f2 := M6.frozen 2
          simp only [List.getElem?_toArray, List.getElem?_cons_succ, List.getElem?_cons_zero] at m2
          obtain ⟨x0, x1, x2, x3⟩ := hlook.out _ B6
          have H6 := hide hown2
          have HB6 := hide B6
          have HM6 := hide M6
          have HR6 := hide R6
          clear hown2 B6 M6 R6 hg2 hat2
          refine hK.out _ _ ?_ (fun hHeld => ?_)
          · ((try dsimp only); simp (maxDischargeDepth := 20) [*, World.cell?_alloc_some, World.cell?_setCell_far])
          clear hK K
          try simp only [Act.put, List.setIfInBounds_toArray, List.set_cons_zero, List.set_cons_succ, List.getElem_toArray, List.getElem_cons_succ, List.getElem_cons_zero]
          refine wpAnyH_take (i := 24) (v := ?vb24) rfl (by kernel_rfl) (by kernel_rfl) (by kernel_rfl) (fun _ _ _ h => h) (Or.inl ⟨by rfl, ?hyb24⟩) (by assumption) ?restb24
          case hyb24 => (intro w hSw; (try dsimp only at hSw); go_simp; try with_reducible rfl)
          try simp only [Act.put, List.setIfInBounds_toArray, List.set_cons_zero, List.set_cons_succ, List.getElem_toArray, List.getElem_cons_succ, List.getElem_cons_zero]
          refine wpAnyH_ready (rs := [25]) (by kernel_rfl) (by simp) ?_
          refine AllReadyH.cons rfl (fun K hK => ?_) AllReadyH.nil
          go_simp
          refine hK.out _ _ ?_ (fun hHeld => ?_)
          · ((try dsimp only); simp (maxDischargeDepth := 20) [*, World.cell?_alloc_some, World.cell?_setCell_far])
          clear hK K
          try simp only [Act.put, List.setIfInBounds_toArray, List.set_cons_zero, List.set_cons_succ, List.getElem_toArray, List.getElem_cons_succ, List.getElem_cons_zero]
          refine wpAnyH_done (by kernel_rfl) ?_ _
          refine NoPanic.normal ?_
          go_wp2_with fail
          go_roundw
          case rel =>
            refine ⟨k + 1, _, by omega, by go_num, fun i hi => ?_, HR6.out.far (p := ⟨w.heap.size + 1, 2, none⟩) (by show w.heap.size ≠ w.heap.size + 1; omega) _, by simpa using HM6.out.set_ 2 (.slice (some ⟨g', 0, none⟩) (4 * k + 4) c'), ?_, bset HB6.out _ _ (by omega) _⟩
            · by_cases hik : i = k
              · subst hik; rw [← HZ.out]; exact hzr
              · exact HINK.out i (by omega)
            · have e : bytesL ((l.take (k + 1)).map (pickC cs)) = bytesL ((l.take k).map (pickC cs)) ++ [c.r, c.g, c.b, c.a] := by
                rw [List.take_succ_eq_append_getElem (by rw [← HNN.out]; exact hlt), List.map_append, List.map_cons, List.map_nil, bytesL_snoc]
                have h1 : pickC cs (l[k]'(by rw [← HNN.out]; exact hlt)) = c := by
                  have h2 : l[k]'(by rw [← HNN.out]; exact hlt) = (j : Int) := by rw [HZ.out]; simp [List.getD, show k < l.length by rw [← HNN.out]; exact hlt]
                  rw [h2, HC.out]
                  unfold pickC
                  simp
                rw [h1]
              rw [e, u8L_append]
              exact owns_keepB H6.out (fun b hb1 hb2 => Below.heap_setCell _ _ _ _ (by show b ≠ w.heap.size + 1; omega))
          case measure => simp [intOf]; omega
      · have hbad : ¬ allIn l cs.length := fun h => by have := h k (by rw [← HNN.out]; exact hlt); rw [← HZ.out] at this; exact hzr this
        have d1 : z < 0 ∨ (0 ≤ z ∧ (cs.length : Int) ≤ z ∧ decide ((cs.length : Int) ≤ z) = true) := by
          by_cases h4 : (cs.length : Int) ≤ z
          · simp only [h4, decide_true, and_true]; omega
          · omega
        have HBAD := hide hbad
        obtain ⟨r0, r1, r2, f0, f1, f2⟩ := blk3 hR
        have lr := hR.lt
        clear hz hin hM ho hbad hR
        rcases d1 with d1 | ⟨d1, d2, d3⟩
        all_goals
          go_wp2_with fail
          refine bodyPost_ret (v := .tuple #[imgV 0 0 none 0 0, .int .i64 2]) (by simp [results, Try.results83, go_sem, lr, r0, r1, r2]) rfl (.inr ⟨HBAD.out, rfl, ?_⟩)
          exact bset (bset (bset HB.out _ _ (Nat.le_refl _) _) _ _ (Nat.le_refl _) _) _ _ (Nat.le_refl _) _
    · have hkn : k = n := by omega
      subst hkn
      have hall : allIn l cs.length := fun i hi => hin i (by rw [HNN.out]; exact hi)
      rw [List.take_of_length_le (by rw [← HNN.out]; exact Nat.le_refl _)] at ho
      have hlen : (bytesL (l.map (pickC cs))).length = 4 * k := by rw [bytesL_len, List.length_map, ← HNN.out]
      rcases ho.2 with ⟨-, h0⟩ | ⟨g5, cap5, cur, rfl, hb5, hh, -⟩
      · omega
      obtain ⟨-, hnew⟩ := row_of_own ho
      obtain ⟨m0, m1, m2, -⟩ := blk3 hM
      obtain ⟨r0, r1, r2, f0, f1, f2⟩ := blk3 hR
      have lr := hR.lt
      have lm := hM.lt
      have HA := hide hall
      have HNEW := hide hnew
      have HLEN := hide hlen
      have HB := hide hb
      clear hin hM ho hR hb hh hall hnew hlen
      go_wp2_with fail
      refine bodyPost_ret (v := .tuple #[imgV X Y (some ⟨g5, 0, none⟩) (4 * k) cap5, .int .i64 0]) (by simp [results, Try.results83, go_sem, lr, r0, r1, r2]) rfl (.inl ⟨HA.out, some ⟨g5, 0, none⟩, cap5, by rw [HLEN.out], ?_, ?_⟩)
      · exact (((HNEW.out.set _ _ (by omega) _).set _ _ (by omega) _).set _ _ (by omega) _).less (by omega)
      · exact bset (bset (bset HB.out _ _ (Nat.le_refl _) _) _ _ (Nat.le_refl _) _) _ _ (Nat.le_refl _) _
end Go.Proofs.Ytkjnheikimpliaa
