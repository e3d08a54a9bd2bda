/- ops.Crop, ops.FlipRows, ops.FlipColumns: walked. -/
import Derived.Test.YtkjnheikimpliaaOpsA
import Derived.Test.YtkjnheikimpliaaOwn
namespace Go.Proofs.Ytkjnheikimpliaa
set_option linter.unusedVariables false
set_option linter.unusedSimpArgs false
open Go.RowKit
attribute [local go_sem ↓] Go.wp_at_zero Go.wp_at_succ

def withinB (f n a : Int) : Bool := decide (0 ≤ f ∧ 0 ≤ n ∧ f ≤ a ∧ n ≤ a - f)
theorem withinB_not {f n a : Int} (h : ¬ (0 ≤ f ∧ 0 ≤ n ∧ f ≤ a ∧ n ≤ a - f)) : withinB f n a = false := decide_eq_false h
theorem withinB_mk {f n a : Int} (h : 0 ≤ f ∧ 0 ≤ n ∧ f ≤ a ∧ n ≤ a - f) : withinB f n a = true := decide_eq_true h
set_option maxHeartbeats 400000 in
theorem within_any (f n a : Int) (ha : 1 ≤ a ∧ a ≤ 16384) (w : World) : Calls Try.prog 109 #[.int .i64 f, .int .i64 n, .int .i64 a] w fun e w' => e = .returned (.bool (withinB f n a)) ∧ w = w' := by
  obtain ⟨ha1, ha2⟩ := ha
  have h' : f < 0 ∨ (0 ≤ f ∧ n < 0) ∨ (0 ≤ f ∧ 0 ≤ n ∧ a < f) ∨ (0 ≤ f ∧ 0 ≤ n ∧ f ≤ a) := by omega
  rcases h' with h | ⟨h, h6⟩ | ⟨h, h6, h7⟩ | ⟨h, h6, h7⟩
  all_goals go_enter Try.func109, Try.ntmps109
  all_goals go_wp2
  all_goals go_ret
  · exact ⟨ret_bool (withinB_not (by omega)).symm, rfl⟩
  · exact ⟨ret_bool (withinB_not (by omega)).symm, rfl⟩
  · exact ⟨ret_bool (withinB_not (by omega)).symm, rfl⟩
  · refine ⟨ret_bool ?_, rfl⟩
    by_cases h8 : n ≤ a - f
    · rw [withinB_mk (by omega)]; simp [h8]
    · rw [withinB_not (by omega)]; simp [h8]

theorem enters110 (args : Array Value) (w : World) : (callFunc 110 args).run Try.prog w = .ok (.enter 110 args) w := enters_of Try.func110 (by kernel_rfl) rfl args w
theorem enters114 (args : Array Value) (w : World) : (callFunc 114 args).run Try.prog w = .ok (.enter 114 args) w := enters_of Try.func114 (by kernel_rfl) rfl args w
theorem enters115 (args : Array Value) (w : World) : (callFunc 115 args).run Try.prog w = .ok (.enter 115 args) w := enters_of Try.func115 (by kernel_rfl) rfl args w
theorem enters111 (args : Array Value) (w : World) : (callFunc 111 args).run Try.prog w = .ok (.enter 111 args) w := enters_of Try.func111 (by kernel_rfl) rfl args w
theorem enters112 (args : Array Value) (w : World) : (callFunc 112 args).run Try.prog w = .ok (.enter 112 args) w := enters_of Try.func112 (by kernel_rfl) rfl args w
theorem enters113 (args : Array Value) (w : World) : (callFunc 113 args).run Try.prog w = .ok (.enter 113 args) w := enters_of Try.func113 (by kernel_rfl) rfl args w

/-- What raster.Right answers of a right image, and of another. -/
theorem right_yes {x y : Int} {n : Nat} (hR : rightI x y n) (A : Option Addr) (cap : Nat) (w : World) : Calls Try.prog 94 #[imgV x y A n cap] w fun e w' => e = .returned (.bool true) ∧ Below w.heap.size w w' :=
  (right_any x y A n cap w).mono (by rintro e w' ⟨rfl, hb⟩; rw [rightB_mk hR]; exact ⟨rfl, hb⟩)
theorem right_no {x y : Int} {n : Nat} (hR : ¬ rightI x y n) (A : Option Addr) (cap : Nat) (w : World) : Calls Try.prog 94 #[imgV x y A n cap] w fun e w' => e = .returned (.bool false) ∧ Below w.heap.size w w' :=
  (right_any x y A n cap w).mono (by rintro e w' ⟨rfl, hb⟩; rw [rightB_not hR]; exact ⟨rfl, hb⟩)

/-- The pixels of a part. -/
def cropPx (l : List Int) (x i j : Int) (a b : Nat) : Col := pix l ((j + b) * x + (i + a)).toNat

set_option maxHeartbeats 2000000 in
theorem crop_yes (x y : Int) (A : Option Addr) (l : List Int) (cap : Nat) (i j : Int) (W H : Nat) (w : World) (hR : rightI x y l.length) (hr : RowAt w w.heap.size .u8 A l) (hcap : l.length ≤ cap) (hi : 0 ≤ i ∧ i + W ≤ x) (hj : 0 ≤ j ∧ j + H ≤ y) (hW : 1 ≤ W) (hH : 1 ≤ H) :
    Calls Try.prog 59 #[imgV x y A l.length cap, .int .i64 i, .int .i64 j, .int .i64 (W : Int), .int .i64 (H : Int)] w fun e w' => ∃ A' cap', e = .returned (.tuple #[imgV W H A' (bytesL (pxs (cropPx l x i j) W (W * H))).length cap', .int .i64 0]) ∧
      ImgNew w' w.heap.size A' cap' (bytesL (pxs (cropPx l x i j) W (W * H))) ∧ Below w.heap.size w w' := by
  have hx := hR.1
  have hy := hR.2.1
  have K1 := hide (right_yes hR A cap)
  have K2 := hide fun w' => (within_any i W x hx w').mono (R' := fun e w'' => e = .returned (.bool true) ∧ w' = w'') (by rintro e w' ⟨rfl, hb⟩; rw [withinB_mk (by omega)]; exact ⟨rfl, hb⟩)
  have K3 := hide fun w' => (within_any j H y hy w').mono (R' := fun e w'' => e = .returned (.bool true) ∧ w' = w'') (by rintro e w' ⟨rfl, hb⟩; rw [withinB_mk (by omega)]; exact ⟨rfl, hb⟩)
  have KB := hide fun (w' : World) (h : Below w.heap.size w w') (bm bx bj : Nat) (hm : Blk w' bm 34 #[.int .i64 x, .int .i64 y, .slice A l.length cap]) (h1 : Blk w' bx 3 #[.int .i64 i]) (h2 : Blk w' bj 3 #[.int .i64 j]) =>
    build_pure 110 enters110 #[.pointer (some ⟨bm, 0, none⟩), .pointer (some ⟨bx, 0, none⟩), .pointer (some ⟨bj, 0, none⟩)] (cropPx l x i j) W H (by omega) (by omega) w' (fun a b w1 ha hb hb1 => by
      have hw1 := h.trans (hb1.mono h.size)
      exact crop1_any x y A l cap i j bm bx bj a b w1 hR ((hr.below hw1 (Nat.le_refl _)).more hw1.size) hcap (hm.below hb1 hm.lt) (h1.below hb1 h1.lt) (h2.below hb1 h2.lt) (by omega) (by omega))
  obtain ⟨px, hpx⟩ : ∃ px, px = bytesL (pxs (cropPx l x i j) W (W * H)) := ⟨_, rfl⟩
  rw [← hpx] at KB ⊢
  clear hR hr hcap hi hj hW hH hpx hx hy
  go_enter Try.func59, Try.ntmps59
  go_wp2_with (first | (go_at_call 94; (with_reducible refine (K1.out _).mono ?_); rintro e w1 ⟨rfl, hb1⟩; obtain ⟨B1, B2, B3, B4, hz, HW⟩ := own4 hb1; obtain ⟨m0, m1, m2, -⟩ := blk3 B1; obtain ⟨i0, -⟩ := blk1 B2; obtain ⟨j0, -⟩ := blk1 B3; have z1 := B1.lt; have z2 := B2.lt; have z3 := B3.lt; clear hb1) | (go_at_call 109; (with_reducible refine (K2.out _).mono ?_); rintro e w1 ⟨rfl, rfl⟩) | (go_at_call 109; (with_reducible refine (K3.out _).mono ?_); rintro e w1 ⟨rfl, rfl⟩) | (go_at_call 104; (with_reducible refine (KB.out _ HW _ _ _ B1 B2 B3).mono ?_); rintro e w2 ⟨A', cap', rfl, hi, hb2⟩; obtain ⟨r0, r1, r2, f0, f1, f2⟩ := blk3 (B4.below hb2 hz); have hz2 : w.heap.size + 1 + 1 + 1 < w2.heap.size := Nat.lt_of_lt_of_le hz hb2.size; have HI := hide hi; clear hi))
  refine bodyPost_ret (v := .tuple #[imgV W H A' px.length cap', .int .i64 0]) (by simp [results, Try.results59, go_sem, r0, r1, r2, hz2]) rfl ⟨A', cap', rfl, ?_, ?_⟩
  · exact (((HI.out.set _ _ (by omega) _).set _ _ (by omega) _).set _ _ (by omega) _).less (by omega)
  · exact bset (bset (bset (bstep HW hb2) _ _ (by omega) _) _ _ (by omega) _) _ _ (by omega) _
end Go.Proofs.Ytkjnheikimpliaa
