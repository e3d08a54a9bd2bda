/- cmp: apart, alike. -/
import Derived.Test.YtkjnheikimpliaaCmpA
import Derived.Deep.RegionWith
import Derived.Deep.DeepCutAuto
namespace Go.Proofs.Ytkjnheikimpliaa
set_option linter.unusedVariables false
set_option linter.unusedSimpArgs false
open Go.RowKit
attribute [local go_sem ↓] Go.wp_at_zero Go.wp_at_succ

/-- How far two numbers are apart. -/
def gapN (a b : Int) : Int := max a b - min a b
def apartV (c d : Col) : List Int := [gapN c.r d.r, gapN c.g d.g, gapN c.b d.b, gapN c.a d.a]
abbrev col4 (c : Col) : Array Value := #[.int .u8 c.r, .int .u8 c.g, .int .u8 c.b, .int .u8 c.a]

theorem blk4f {w : World} {g : Nat} {t : TypeId} {a b c d : Value} (h : Blk w g t #[a, b, c, d]) :
    (∀ o, (w.alloc o).cell? ⟨g, 0, none⟩ = some a) ∧ (∀ o, (w.alloc o).cell? ⟨g, 1, none⟩ = some b) ∧ (∀ o, (w.alloc o).cell? ⟨g, 2, none⟩ = some c) ∧ (∀ o, (w.alloc o).cell? ⟨g, 3, none⟩ = some d) ∧
    (∀ o, (w.alloc o).frozen? ⟨g, 0, none⟩ = false) ∧ (∀ o, (w.alloc o).frozen? ⟨g, 1, none⟩ = false) ∧ (∀ o, (w.alloc o).frozen? ⟨g, 2, none⟩ = false) ∧ (∀ o, (w.alloc o).frozen? ⟨g, 3, none⟩ = false) :=
  ⟨fun o => (h.alloc o).cell 0, fun o => (h.alloc o).cell 1, fun o => (h.alloc o).cell 2, fun o => (h.alloc o).cell 3, fun o => (h.alloc o).frozen 0, fun o => (h.alloc o).frozen 1, fun o => (h.alloc o).frozen 2, fun o => (h.alloc o).frozen 3⟩
theorem channels_is (c : Col) (w : World) : Calls Try.prog 97 #[colV c] w fun e w' => e = .returned (.agg (col4 c)) ∧ w' = (w.alloc (.cells (col4 c) 36)).alloc (.cells (col4 c) 107) := by
  go_enter Try.func97, Try.ntmps97
  go_wp2
  refine bodyPost_ret (v := .agg (col4 c)) (by simp [results, Try.results97, go_sem]) rfl ⟨rfl, rfl⟩

/-- Channel i of a colour. -/
def Col.chan (c : Col) : Nat → Int
  | 0 => c.r
  | 1 => c.g
  | 2 => c.b
  | _ => c.a
theorem Col.chan_ok {c : Col} (h : c.ok) (i : Nat) : 0 ≤ c.chan i ∧ c.chan i ≤ 255 := by
  obtain ⟨h1, h2, h3, h4⟩ := h
  match i with
  | 0 => exact h1
  | 1 => exact h2
  | 2 => exact h3
  | _ + 3 => exact h4
theorem chan_cells {w : World} {P : Nat} {c : Col} (p0 : w.cell? ⟨P, 0, none⟩ = some (.int .u8 c.r)) (p1 : w.cell? ⟨P, 1, none⟩ = some (.int .u8 c.g)) (p2 : w.cell? ⟨P, 2, none⟩ = some (.int .u8 c.b)) (p3 : w.cell? ⟨P, 3, none⟩ = some (.int .u8 c.a)) : ∀ i, i < 4 → w.cell? ⟨P, i, none⟩ = some (.int .u8 (c.chan i)) := by
  intro i hi
  match i, hi with
  | 0, _ => exact p0
  | 1, _ => exact p1
  | 2, _ => exact p2
  | 3, _ => exact p3
/-- So many differences, as cells. -/
def gapsV (c d : Col) (i : Nat) : Array Value := #[.int .i64 (if 0 < i then gapN c.r d.r else 0), .int .i64 (if 1 < i then gapN c.g d.g else 0), .int .i64 (if 2 < i then gapN c.b d.b else 0), .int .i64 (if 3 < i then gapN c.a d.a else 0)]
theorem gapsV_set (c d : Col) (i : Nat) (hi : i < 4) : (gapsV c d i).setIfInBounds i (.int .i64 (gapN (c.chan i) (d.chan i))) = gapsV c d (i + 1) := by
  match i, hi with
  | 0, _ => rfl
  | 1, _ => rfl
  | 2, _ => rfl
  | 3, _ => rfl
theorem gapsV_cell {w : World} {g : Nat} {c d : Col} {i : Nat} (h : Blk w g 119 (gapsV c d i)) (hi : i < 4) : ∃ x, w.cell? ⟨g, i, none⟩ = some (.int .i64 x) := by
  rw [h.cell i]
  match i, hi with
  | 0, _ => exact ⟨_, rfl⟩
  | 1, _ => exact ⟨_, rfl⟩
  | 2, _ => exact ⟨_, rfl⟩
  | 3, _ => exact ⟨_, rfl⟩
/-- The world behind apart's four boxes. -/
def V0 (w : World) (c d : Col) : World := (((w.alloc (.cells (col4 c) 36)).alloc (.cells (col4 d) 36)).alloc (.cells #[.int .i64 0, .int .i64 0, .int .i64 0, .int .i64 0] 119)).alloc (.cells #[.int .i64 0, .int .i64 0, .int .i64 0, .int .i64 0] 119)
set_option maxHeartbeats 2000000 in
theorem apart_any (c d : Col) (w : World) (hc : c.ok) (hd : d.ok) : Calls Try.prog 126 #[colV c, colV d] w fun e w' => e = .returned (.agg ((apartV c d).map (Value.int .i64)).toArray) ∧ Below w.heap.size w w' := by
  have KC := hide channels_is
  go_enter Try.func126, Try.ntmps126
  go_upto_region 2 with fail
  go_cut [6, 7] (fun s6 s7 wx => ∃ P Q : Nat, s6 = .pointer (some ⟨P, 0, none⟩) ∧ s7 = .pointer (some ⟨Q, 0, none⟩) ∧ w.heap.size + 3 < P ∧ w.heap.size + 3 < Q ∧ Below (w.heap.size + 4) (V0 w c d) wx ∧
    (wx.cell? ⟨P, 0, none⟩ = some (.int .u8 c.r) ∧ wx.cell? ⟨P, 1, none⟩ = some (.int .u8 c.g) ∧ wx.cell? ⟨P, 2, none⟩ = some (.int .u8 c.b) ∧ wx.cell? ⟨P, 3, none⟩ = some (.int .u8 c.a)) ∧ (wx.cell? ⟨Q, 0, none⟩ = some (.int .u8 d.r) ∧ wx.cell? ⟨Q, 1, none⟩ = some (.int .u8 d.g) ∧ wx.cell? ⟨Q, 2, none⟩ = some (.int .u8 d.b) ∧ wx.cell? ⟨Q, 3, none⟩ = some (.int .u8 d.a)))
  case first =>
    have hb0 : Blk (V0 w c d) w.heap.size 36 (col4 c) := (((Blk.new w 36 _).alloc _).alloc _).alloc _
    have hb1 : Blk (V0 w c d) (w.heap.size + 1) 36 (col4 d) := ((Blk.new' _ 36 _ _ (by simp)).alloc _).alloc _
    have hzV : w.heap.size + 4 = (V0 w c d).heap.size := by simp [V0]
    change Code.wp _ _ _ _ (V0 w c d)
    obtain ⟨V, hV⟩ : ∃ V, V = V0 w c d := ⟨_, rfl⟩
    rw [← hV] at hb0 hb1 hzV ⊢
    have HV := hide hV
    obtain ⟨a0, a1, a2, a3, -⟩ := blk4 hb0
    obtain ⟨e0, e1, e2, e3, -⟩ := blk4 hb1
    have n1 : ¬ w.heap.size = V.heap.size := by omega
    have n2 : ¬ w.heap.size + 1 = V.heap.size := by omega
    clear hb0 hb1 hV
    go_region_held3 (fun w' => w'.cell? ⟨w.heap.size, 0, none⟩ = some (.int .u8 c.r) ∧ w'.cell? ⟨w.heap.size, 1, none⟩ = some (.int .u8 c.g) ∧ w'.cell? ⟨w.heap.size, 2, none⟩ = some (.int .u8 c.b) ∧ w'.cell? ⟨w.heap.size, 3, none⟩ = some (.int .u8 c.a) ∧ w'.cell? ⟨w.heap.size + 1, 0, none⟩ = some (.int .u8 d.r) ∧ w'.cell? ⟨w.heap.size + 1, 1, none⟩ = some (.int .u8 d.g) ∧ w'.cell? ⟨w.heap.size + 1, 2, none⟩ = some (.int .u8 d.b) ∧ w'.cell? ⟨w.heap.size + 1, 3, none⟩ = some (.int .u8 d.a)) (simp (maxDischargeDepth := 20) [*, World.cell?_alloc_some, World.cell?_setCell_far]) ((go_at_call 97; (with_reducible refine (KC.out _ _).mono ?_); rintro e w1 ⟨rfl, rfl⟩))
    all_goals
      go_wp2_with fail
      go_meet
      refine ⟨_, _, rfl, rfl, by omega, by omega, ?_, ?_⟩
      · rw [← HV.out, hzV]
        repeat (first | (with_reducible exact Below.refl _ _) | (with_reducible apply Below.drew) | (with_reducible refine balloc ?_ _))
      · clear KC HV
        refine ⟨⟨?_, ?_, ?_, ?_⟩, ⟨?_, ?_, ?_, ?_⟩⟩ <;> simp (maxDischargeDepth := 20) [World.cell?_alloc_some, World.cell?_alloc_at]
  case rest =>
    obtain ⟨P, Q, rfl, rfl, hP, hQ, hB, ⟨p0, p1, p2, p3⟩, ⟨q0, q1, q2, q3⟩⟩ := hcut
    have hb2 : Blk wc (w.heap.size + 2) 119 #[.int .i64 0, .int .i64 0, .int .i64 0, .int .i64 0] := ((Blk.new' _ 119 _ _ (by simp)).alloc _ : Blk (V0 w c d) (w.heap.size + 2) 119 _).below hB (by omega)
    have hb3 : Blk wc (w.heap.size + 3) 119 (gapsV c d 0) := (Blk.new' _ 119 _ _ (by simp) : Blk (V0 w c d) (w.heap.size + 3) 119 _).below hB (by omega)
    have hbw : Below w.heap.size w wc := bstep' (balloc (balloc (balloc (below_alloc w _) _) _) _ : Below w.heap.size w (V0 w c d)) hB (by omega)
    have HB2 := hide hb2
    have HB3 := hide hb3
    have HBW := hide hbw
    have HP := hide (chan_cells p0 p1 p2 p3)
    have HQ := hide (chan_cells q0 q1 q2 q3)
    clear hb2 hb3 hbw hB p0 p1 p2 p3 q0 q1 q2 q3
    go_wp2_with fail
    go_loopw [13] (fun s wr => ∃ i : Nat, i ≤ 4 ∧ s = .int .i64 i ∧ Blk wr (w.heap.size + 3) 119 (gapsV c d i) ∧ (∀ k, k ≠ w.heap.size + 3 → wr.heap[k]? = wc.heap[k]?) ∧ Below w.heap.size w wr) (fun s _ => 4 - (intOf s).toNat)
    case atStart => exact ⟨0, by omega, rfl, HB3.out, fun _ _ => rfl, HBW.out⟩
    case round =>
      obtain ⟨i, hi, rfl, hG, hk, hw⟩ := hrel
      by_cases hlt : i < 4
      · have pi : wr.cell? ⟨P, i, none⟩ = some (.int .u8 (c.chan i)) := (World.cell?_of_block (a := ⟨P, i, none⟩) (hk P (by omega))).trans (HP.out i hlt)
        have qi : wr.cell? ⟨Q, i, none⟩ = some (.int .u8 (d.chan i)) := (World.cell?_of_block (a := ⟨Q, i, none⟩) (hk Q (by omega))).trans (HQ.out i hlt)
        obtain ⟨oi, hoi⟩ := gapsV_cell hG hlt
        have fi := hG.frozen i
        obtain ⟨h1, h2⟩ := Col.chan_ok hc i
        obtain ⟨h3, h4⟩ := Col.chan_ok hd i
        obtain ⟨u, hu⟩ : ∃ u, u = c.chan i := ⟨_, rfl⟩
        obtain ⟨v, hv⟩ : ∃ v, v = d.chan i := ⟨_, rfl⟩
        rw [← hu] at pi h1 h2
        rw [← hv] at qi h3 h4
        have HU := hide hu
        have HV := hide hv
        have HG := hide hG
        have HK := hide hk
        have HW := hide hw
        have hwr : IntKind.i64.wrap (max u v - min u v) = max u v - min u v := IntWalk.i64_in (max u v - min u v) (by omega)
        have hi4 : (i : Int) < 4 := by omega
        clear hG hk hw hu hv
        obtain ⟨wo, rfl⟩ : ∃ wo : World, wo = wr := ⟨_, rfl⟩
        go_wp2_with fail
        go_region
        go_wp2_with fail
        go_roundw
        case rel =>
          refine ⟨i + 1, by omega, by go_num, ?_, fun k hk => ?_, ?_⟩
          · have := HG.out.set_ i (.int .i64 (gapN (c.chan i) (d.chan i)))
            rw [gapsV_set _ _ _ hlt, ← HU.out, ← HV.out] at this
            exact this
          · show (wo.setCell ⟨w.heap.size + 3, i, none⟩ (.int .i64 (max u v - min u v))).heap[k]? = _
            rw [Below.heap_setCell _ _ _ _ hk]
            exact HK.out k hk
          · exact (bset HW.out _ _ (by omega) _).drew
        case measure => simp [intOf]; omega
      · have hi4 : i = 4 := by omega
        rw [hi4] at hG
        have r2 : Blk wr (w.heap.size + 1 + 1) 119 #[.int .i64 0, .int .i64 0, .int .i64 0, .int .i64 0] := HB2.out.same (hk (w.heap.size + 2) (by omega))
        have HW := hide hw
        obtain ⟨g0, g1, g2, g3, -⟩ := blk4 hG
        obtain ⟨r0, r1, r2', r3, f0, f1, f2, f3⟩ := blk4 r2
        have HR := hide r2
        have lt2 := r2.lt
        have l0 : w.heap.size + 1 + 1 < wr.heap.size := lt2
        obtain ⟨wo, rfl⟩ : ∃ wo : World, wo = wr := ⟨_, rfl⟩
        clear hG hk hw r2
        go_wp2_with fail
        refine bodyPost_ret (v := .agg ((apartV c d).map (Value.int .i64)).toArray) (by simp [results, Try.results126, go_sem, l0, r0, r1, r2', r3, apartV]) rfl ⟨rfl, ?_⟩
        exact bset (bset (bset (bset HW.out _ _ (by omega) _) _ _ (by omega) _) _ _ (by omega) _) _ _ (by omega) _
end Go.Proofs.Ytkjnheikimpliaa
