/- ops.Turn by no quarter, of what is no image; the example of the laws on ops. -/
import Derived.Test.YtkjnheikimpliaaOpsC
namespace Go.Proofs.Ytkjnheikimpliaa
set_option linter.unusedVariables false
set_option linter.unusedSimpArgs false
open Go.RowKit
attribute [local go_sem ↓] Go.wp_at_zero Go.wp_at_succ

/-- What a call hands back: an image in new memory, told by its bytes, and no error. -/
def MadeL (w : World) (x y : Int) (l : List Int) (e : Ending) (w' : World) : Prop :=
  ∃ A' cap', e = .returned (.tuple #[imgV x y A' l.length cap', .int .i64 0]) ∧ ImgNew w' w.heap.size A' cap' l ∧ Below w.heap.size w w'
theorem Made.toL {w : World} {W H : Nat} {px : Nat → Nat → Col} {e : Ending} {w' : World} (h : Made w W H px e w') : MadeL w W H (bytesL (pxs px W (W * H))) e w' := h

set_option maxHeartbeats 2000000 in
theorem turn0_yes (W H : Nat) (A : Option Addr) (l : List Int) (cap : Nat) (n : Int) (w : World) (hR : rightI W H l.length) (hr : RowAt w w.heap.size .u8 A l) (hn : quart n = 0) :
    Calls Try.prog 61 #[imgV W H A l.length cap, .int .i64 n] w (MadeL w W H l) := by
  have K1 := hide (right_yes hR A cap)
  have hl := right_le hR
  have KB := hide fun (w' : World) (h : Below w.heap.size w w') => clone_any W H A l cap w' ((hr.below h (Nat.le_refl _)).more h.size) (by omega)
  have t1 : ((wrap64 (n.tmod 4 + 4)).tmod 4 == 1) = false := by
    have e : (wrap64 (n.tmod 4 + 4)).tmod 4 = 0 := hn
    rw [e]; rfl
  have t2 : ((wrap64 (n.tmod 4 + 4)).tmod 4 == 2) = false := by
    have e : (wrap64 (n.tmod 4 + 4)).tmod 4 = 0 := hn
    rw [e]; rfl
  have t3 : ((wrap64 (n.tmod 4 + 4)).tmod 4 == 3) = false := by
    have e : (wrap64 (n.tmod 4 + 4)).tmod 4 = 0 := hn
    rw [e]; rfl
  unfold MadeL
  clear hR hr hn hl
  go_enter Try.func61, Try.ntmps61
  go_wp2_with (first | (go_at_call 94; (with_reducible refine (K1.out _).mono ?_); rintro e w1 ⟨rfl, hb1⟩; obtain ⟨B1, B2, hz, HW⟩ := own2 hb1; obtain ⟨m0, m1, m2, -⟩ := blk3 B1; have z1 := B1.lt; clear hb1) | go_at_call 104; fail)
  go_region
  · obtain ⟨C1, C2, hz3, HD⟩ := two w1 #[.int .i64 (W : Int)] 3 #[.int .i64 (H : Int)] 3
    have HW2 := HW.trans (HD.mono HW.size)
    have D2 := B2.below HD hz
    go_wp2_with (go_at_call 44; (with_reducible refine (KB.out _ HW2).mono ?_); rintro e w2 ⟨A', cap', rfl, hi, hb2⟩; obtain ⟨r0, r1, r2, f0, f1, f2⟩ := blk3 (D2.below hb2 D2.lt); have hz2 : w.heap.size + 1 < w2.heap.size := Nat.lt_of_lt_of_le D2.lt hb2.size; have HI := hide hi; have HB2 := hide hb2; clear hi hb2)
    refine bodyPost_ret (v := .tuple #[imgV W H A' l.length cap', .int .i64 0]) (by simp [results, Try.results61, go_sem, r0, r1, r2, hz2]) rfl ⟨A', cap', rfl, ?_, ?_⟩
    · have hzz := HW2.size
      exact (((HI.out.set _ _ (by have := D2.lt; omega) _).set _ _ (by have := D2.lt; omega) _).set _ _ (by have := D2.lt; omega) _).less hzz
    · exact bset (bset (bset (bstep HW2 HB2.out) _ _ (by omega) _) _ _ (by omega) _) _ _ (by omega) _
  · obtain ⟨C1, C2, hz3, HD⟩ := two w1 #[.int .i64 (H : Int)] 3 #[.int .i64 (W : Int)] 3
    have HW2 := HW.trans (HD.mono HW.size)
    have D2 := B2.below HD hz
    go_wp2_with (go_at_call 44; (with_reducible refine (KB.out _ HW2).mono ?_); rintro e w2 ⟨A', cap', rfl, hi, hb2⟩; obtain ⟨r0, r1, r2, f0, f1, f2⟩ := blk3 (D2.below hb2 D2.lt); have hz2 : w.heap.size + 1 < w2.heap.size := Nat.lt_of_lt_of_le D2.lt hb2.size; have HI := hide hi; have HB2 := hide hb2; clear hi hb2)
    refine bodyPost_ret (v := .tuple #[imgV W H A' l.length cap', .int .i64 0]) (by simp [results, Try.results61, go_sem, r0, r1, r2, hz2]) rfl ⟨A', cap', rfl, ?_, ?_⟩
    · have hzz := HW2.size
      exact (((HI.out.set _ _ (by have := D2.lt; omega) _).set _ _ (by have := D2.lt; omega) _).set _ _ (by have := D2.lt; omega) _).less hzz
    · exact bset (bset (bset (bstep HW2 HB2.out) _ _ (by omega) _) _ _ (by omega) _) _ _ (by omega) _

set_option maxHeartbeats 2000000 in
theorem turn_no (x y : Int) (A : Option Addr) (n cap : Nat) (k : Int) (w : World) (hR : ¬ rightI x y n) : Calls Try.prog 61 #[imgV x y A n cap, .int .i64 k] w (Refused w 11) := by
  have K1 := hide (right_no hR A cap)
  unfold Refused
  clear hR
  go_enter Try.func61, Try.ntmps61
  go_wp2_with (first | (go_at_call 94; (with_reducible refine (K1.out _).mono ?_); rintro e w1 ⟨rfl, hb1⟩; obtain ⟨B1, B2, hz, HW⟩ := own2 hb1; obtain ⟨r0, r1, r2, f0, f1, f2⟩ := blk3 B2; clear hb1))
  refine bodyPost_ret (v := .tuple #[imgV 0 0 none 0 0, .int .i64 11]) (by simp [results, Try.results61, go_sem, r0, r1, r2, hz]) rfl ⟨rfl, bset (bset (bset HW _ _ (by omega) _) _ _ (by omega) _) _ _ (by omega) _⟩

theorem row_of_blk {w : World} {g : Nat} {t : TypeId} {l : List Int} {cs : Array Value} (h : Blk w g t cs) (hc : cs.toList = l.map (Value.int .u8)) : RowAt w w.heap.size .u8 (some ⟨g, 0, none⟩) l := fun i hi => by
  refine ⟨g, 0, rfl, h.lt, ?_⟩
  have := h.cell i
  simp only [Nat.zero_add]
  rw [this, ← Array.getElem?_toList, hc, List.getElem?_map, List.getElem?_eq_getElem hi]
  simp [List.getD, hi]

def red : List Int := [255, 0, 0, 255, 0, 0, 255, 255]
set_option maxRecDepth 100000 in
theorem conv_red {w : World} {B : Nat} {A : Option Addr} (cap : Nat) (hr : RowAt w B .u8 A red) : (convert 32 9 (.slice A 8 cap)).run Try.prog w = .ok (.string ⟨#[255, 0, 0, 255, 0, 0, 255, 255]⟩) w := by
  have h := conv_row cap hr
  rw [show red.length = 8 from rfl, show strOfNums red = ⟨#[255, 0, 0, 255, 0, 0, 255, 255]⟩ from by decide] at h
  exact h

set_option maxRecDepth 100000 in
set_option maxHeartbeats 1000000 in
theorem awake34 (w : World) : Calls Try.prog 51 #[] w fun e w' => e = .returned (.bool true) ∧ Below w.heap.size w w' := by
  have K := hide (show ∀ (w' : World) (hr : RowAt w' w'.heap.size .u8 (some ⟨w.heap.size, 0, none⟩) red), Calls Try.prog 61 #[.agg #[.int .i64 2, .int .i64 1, .slice (some ⟨w.heap.size, 0, none⟩) 8 8], .int .i64 1] w' fun e w'' => ∃ A' cap', e = .returned (.tuple #[.agg #[.int .i64 1, .int .i64 2, .slice A' 8 cap'], .int .i64 0]) ∧ ImgNew w'' w'.heap.size A' cap' red ∧ Below w'.heap.size w' w'' from fun w' hr => by
    have h := turn1_yes 2 1 (some ⟨w.heap.size, 0, none⟩) red 8 1 w' ⟨⟨by decide, by decide⟩, ⟨by decide, by decide⟩, by decide⟩ hr (by decide) (by decide +kernel)
    have e : bytesL (pxs (turn1Px red 2 1) 1 (1 * 2)) = red := by decide
    refine h.mono ?_
    rintro e1 w'' ⟨A', cap', rfl, hi, hb⟩
    rw [show (bytesL (pxs (turn1Px red ((2 : Nat) : Int) ((1 : Nat) : Int)) 1 (1 * 2))) = red from e] at hi ⊢
    exact ⟨A', cap', rfl, hi, hb⟩)
  have hrow := hide (row_of_blk (Blk.new w 5 #[.int .u8 255, .int .u8 0, .int .u8 0, .int .u8 255, .int .u8 0, .int .u8 0, .int .u8 255, .int .u8 255]) (l := red) rfl)
  go_enter Try.func51, Try.ntmps51
  go_wp2_with (first | (go_at_call 61; (with_reducible refine (K.out _ hrow.out).mono ?_); rintro e w1 ⟨A', cap', rfl, hi, hb1⟩; have kc := (fun o => conv_red cap' (hi.alloc o).row); have HI := hide hi; clear hi))
  go_ret
  exact ⟨rfl, by have h1 := bstep (below_alloc w _) hb1; exact balloc h1 _⟩
end Go.Proofs.Ytkjnheikimpliaa
