/- cmp.each, with a function value and an invariant. -/
import Derived.Test.YtkjnheikimpliaaPlain
import Derived.Test.YtkjnheikimpliaaOpsE
namespace Go.Proofs.Ytkjnheikimpliaa
set_option linter.unusedVariables false
set_option linter.unusedSimpArgs false
open Go.RowKit
attribute [local go_sem ↓] Go.wp_at_zero Go.wp_at_succ

set_option maxRecDepth 100000 in
set_option maxHeartbeats 1000000 in
theorem each_yes (g : FuncId) (eg : ∀ args w, (callFunc g args).run Try.prog w = .ok (.enter g args) w) (caps : Array Value) (W H : Nat) (A : Option Addr) (l : List Int) (cap : Nat) (w : World) (hR : rightI W H l.length) (hcap : l.length ≤ cap) (I : Nat → World → Prop)
    (hI0 : I 0 w) (hI : ∀ n w1 w2, I n w1 → Below w.heap.size w1 w2 → I n w2) (hrow : ∀ n w1, I n w1 → RowAt w1 w.heap.size .u8 A l)
    (hg : ∀ (x y : Nat) (w1 : World), x < W → y < H → w.heap.size ≤ w1.heap.size → I (y * W + x) w1 →
      Calls Try.prog g (#[.int .i64 (x : Int), .int .i64 (y : Int), colV (imgPx l W x y)] ++ caps) w1 fun e w2 => e = .returned (.tuple #[]) ∧ I (y * W + x + 1) w2 ∧ Keeps w.heap.size w1 w2) :
    Calls Try.prog 95 #[imgV W H A l.length cap, .func (.func g) #[] caps] w fun e w' => e = .returned (.tuple #[]) ∧ I (W * H) w' ∧ w.heap.size ≤ w'.heap.size := by
  have HG := hide hg
  have HI := hide hI
  have HRW := hide hrow
  have hI1 := hide (hI 0 w _ hI0 (below_alloc w (.cells #[.int .i64 (W : Int), .int .i64 (H : Int), .slice A l.length cap] 34)))
  have HP := hide fun (i j : Nat) (w' : World) (hi : i < W) (hj : j < H) (hr : RowAt w' w'.heap.size .u8 A l) => (pixel_yes W H A l cap i j w' hR hr hcap (by omega) (by omega)).mono (R' := fun e w'' => e = .returned (.tuple #[colV (imgPx l W i j), .bool true]) ∧ Below w'.heap.size w' w'') (by
    rintro e w'' ⟨rfl, hb⟩
    refine ⟨?_, hb⟩
    unfold imgPx
    rw [nat_idx])
  have hW := hR.1.1
  have hW2 := hR.1.2
  have hH2 := hR.2.1.2
  clear hg hI hI0 hrow hR hcap
  go_enter Try.func95, Try.ntmps95
  go_wp2_with fail
  go_loopw [10] (fun i wr => ∃ k : Nat, k ≤ H ∧ i = .int .i64 k ∧ I (k * W) wr ∧ Blk wr w.heap.size 34 #[.int .i64 W, .int .i64 H, .slice A l.length cap]) (fun i _ => H - (intOf i).toNat)
  case atStart => exact ⟨0, Nat.zero_le _, rfl, by simpa using hI1.out, Blk.new _ _ _⟩
  case round =>
    obtain ⟨k, hk, rfl, hi, hB⟩ := hrel
    by_cases hlt : k < H
    · have HII := hide hi
      have HB := hide hB
      obtain ⟨m0, m1, m2, -⟩ := blk3 hB
      clear hi hB
      go_wp2_with fail
      go_loopw [15] (fun j wr => ∃ x : Nat, x ≤ W ∧ j = .int .i64 x ∧ I (k * W + x) wr ∧ Blk wr w.heap.size 34 #[.int .i64 W, .int .i64 H, .slice A l.length cap]) (fun j _ => W - (intOf j).toNat)
      case atStart => exact ⟨0, Nat.zero_le _, rfl, by simpa using HII.out, HB.out⟩
      case round =>
        obtain ⟨x, hx, rfl, hi, hB⟩ := hrel
        by_cases hltx : x < W
        · have hz := hB.lt
          have hrw := hide ((HRW.out _ _ hi).more (Nat.le_of_lt hz))
          have HI' := hide hi
          have HB' := hide hB
          obtain ⟨m0, m1, m2, -⟩ := blk3 hB
          clear hi hB
          go_wp2_with (go_at_call 120; (with_reducible refine (HP.out x k _ hltx hlt hrw.out).mono ?_); rintro e w1 ⟨rfl, hb1⟩)
          have hbb : Below w.heap.size wr (w1.alloc (.cells #[.int .u8 (imgPx l W x k).r, .int .u8 (imgPx l W x k).g, .int .u8 (imgPx l W x k).b, .int .u8 (imgPx l W x k).a] 36)) := (hb1.mono (Nat.le_of_lt hz)).alloc (Nat.le_trans (Nat.le_of_lt hz) hb1.size) _
          have hB2 := hide ((HB'.out.below hb1 hz).alloc (.cells #[.int .u8 (imgPx l W x k).r, .int .u8 (imgPx l W x k).g, .int .u8 (imgPx l W x k).b, .int .u8 (imgPx l W x k).a] 36))
          have hI2 := hide (HI.out _ _ _ HI'.out hbb)
          have hzz := Nat.le_trans (Nat.le_of_lt hz) hbb.size
          clear hbb hb1
          refine (HG.out x k _ hltx hlt hzz hI2.out).mono ?_
          rintro e w2 ⟨rfl, hi2, hK⟩
          have HI3 := hide hi2
          have HB3 := hide (hB2.out.same (hK.block _ (Nat.le_refl _) hB2.out.lt))
          clear hi2 hK
          go_wp2_with fail
          go_roundw
          case rel => exact ⟨x + 1, by omega, by go_num, HI3.out, HB3.out⟩
          case measure => simp [intOf]; omega
        · have hxW : x = W := by omega
          rw [hxW] at hi
          have HI' := hide hi
          have HB' := hide hB
          clear hi hB
          go_wp2_with fail
          go_roundw
          case rel => exact ⟨k + 1, by omega, by go_num, by rw [Nat.add_mul, Nat.one_mul]; exact HI'.out, HB'.out⟩
          case measure => simp [intOf]; omega
    · have hkH : k = H := by omega
      rw [hkH, Nat.mul_comm] at hi
      have HI' := hide hi
      have HZ := hide hB.lt
      clear hi hB
      go_wp2_with fail
      go_end0
      exact ⟨rfl, HI'.out, Nat.le_of_lt HZ.out⟩
end Go.Proofs.Ytkjnheikimpliaa
