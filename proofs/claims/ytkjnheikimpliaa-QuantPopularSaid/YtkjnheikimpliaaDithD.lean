/- The chapter's example: a dithered image. -/
import Derived.Test.YtkjnheikimpliaaDithC
namespace Go.Proofs.Ytkjnheikimpliaa
set_option linter.unusedVariables false
set_option linter.unusedSimpArgs false
open Go.RowKit
attribute [local go_sem ↓] Go.wp_at_zero Go.wp_at_succ

def ex36 : List Int := [128, 128, 128, 255, 128, 128, 128, 255, 128, 128, 128, 255, 128, 128, 128, 255]
theorem ex36_is : bytesL (pxs (dithPx ex36 2) 2 (2 * 2)) = [255, 255, 255, 255, 0, 0, 0, 255, 0, 0, 0, 255, 255, 255, 255, 255] := by decide +kernel
theorem dither_ex (A : Option Addr) (cap : Nat) (hcap : 16 ≤ cap) (w : World) (hr : RowAt w w.heap.size .u8 A ex36) :
    Calls Try.prog 47 #[imgV 2 2 A 16 cap] w fun e w' => ∃ b off cap', e = .returned (.tuple #[imgV 2 2 (some ⟨b, off, none⟩) 16 cap', .int .i64 0]) ∧ Below w.heap.size w w' ∧ b < w'.heap.size ∧
      w'.cell? ⟨b, off, none⟩ = some (.int .u8 255) ∧ w'.cell? ⟨b, off + 4, none⟩ = some (.int .u8 0) ∧ w'.cell? ⟨b, off + 8, none⟩ = some (.int .u8 0) ∧ w'.cell? ⟨b, off + 12, none⟩ = some (.int .u8 255) := by
  refine (dither_yes 2 2 A ex36 cap w (by unfold rightI; decide) hr hcap (by unfold U8s; decide)).mono ?_
  rintro e w' ⟨A', cap', rfl, him, hb⟩
  rw [ex36_is] at him ⊢
  have hrow := him.row
  obtain ⟨b, off, rfl, hlt, c0⟩ := hrow 0 (by decide)
  have hx : ∀ k, k < 16 → w'.cell? ⟨b, off + k, none⟩ = some (.int .u8 (([255, 255, 255, 255, 0, 0, 0, 255, 0, 0, 0, 255, 255, 255, 255, 255] : List Int).getD k 0)) := fun k hk => by
    obtain ⟨b', off', e1, -, c⟩ := hrow k hk
    injection e1 with e1; injection e1 with e1 e2; subst e1 e2
    exact c
  exact ⟨b, off, cap', rfl, hb, hlt, hx 0 (by decide), hx 4 (by decide), hx 8 (by decide), hx 12 (by decide)⟩

set_option maxRecDepth 100000 in
set_option maxHeartbeats 4000000 in
theorem awake36 (w : World) : Calls Try.prog 46 #[] w fun e w' => e = .returned (.bool true) ∧ Below w.heap.size w w' := by
  obtain ⟨i0, hi, hz0, hz1, hz2⟩ := info_parts u8_info
  have KD := hide dither_ex
  have hG := Blk.new w 5 #[.int .u8 128, .int .u8 128, .int .u8 128, .int .u8 255]
  have hE := own_empty (w.alloc (.cells #[.int .u8 128, .int .u8 128, .int .u8 128, .int .u8 255] 5)) (w.heap.size + 1) 5 1 (by simp) (w.heap.size + 1) (by simp)
  have hb := balloc (below_alloc w (.cells #[.int .u8 128, .int .u8 128, .int .u8 128, .int .u8 255] 5)) (.cells #[] 5)
  have hG := hG.alloc (.cells #[] 5)
  have hz : w.heap.size + 1 < ((w.alloc (.cells #[.int .u8 128, .int .u8 128, .int .u8 128, .int .u8 255] 5)).alloc (.cells #[] 5)).heap.size := by simp
  go_enter Try.func46, Try.ntmps46
  go_wp2_with (first | (at_builtin; refine wpList_append_lies _ rfl _ _ _ rfl (w.heap.size + 1) 5 i0 _ 1 1 Try.underlying32 hi hz0 hz1 hz2 rfl (by omega) (.slice (some ⟨w.heap.size + 1, 0, none⟩) 0 0) 0 (u8L ([] : List Int)) rfl hE ⟨w.heap.size, 0, none⟩ 4 4 (u8L [128, 128, 128, 255]) rfl rfl (World.news_of_block hG) (u8L_one _) (by omega) (by unfold maxLen; omega) (by omega) (by omega) _ rfl ?_; intro g1 d1 v1 ho1 hg1 ha1 hl1; have H1 : v1.ownsRow (w.heap.size + 1) 5 1 (.slice (some ⟨g1, 0, none⟩) 4 d1) 4 (u8L [128, 128, 128, 255]) := ho1; have G1 := hG.grown hg1 (show some w.heap.size ≠ (Value.slice (some ⟨w.heap.size + 1, 0, none⟩) 0 0).ownBlock by simp [Value.ownBlock]); have b1 := hb.grown hg1 (by omega) (fun q hq => by simp [Value.ownBlock] at hq; omega); have z1 : w.heap.size + 1 < v1.heap.size := Nat.lt_of_lt_of_le hz hg1.size; clear ho1 hg1 ha1) | (at_builtin; refine wpList_append_lies _ rfl _ _ _ rfl (w.heap.size + 1) 5 i0 _ 1 1 Try.underlying32 hi hz0 hz1 hz2 rfl (by omega) (.slice (some ⟨g1, 0, none⟩) 4 d1) 4 (u8L [128, 128, 128, 255]) rfl H1 ⟨w.heap.size, 0, none⟩ 4 4 (u8L [128, 128, 128, 255]) rfl rfl (World.news_of_block G1) (u8L_one _) (by omega) (by unfold maxLen; omega) (by omega) (by omega) _ rfl ?_; intro g2 d2 v2 ho2 hg2 ha2 hl2; have H2 : v2.ownsRow (w.heap.size + 1) 5 1 (.slice (some ⟨g2, 0, none⟩) 8 d2) 8 (u8L [128, 128, 128, 255, 128, 128, 128, 255]) := ho2; have G2 := G1.grown hg2 (show some w.heap.size ≠ (Value.slice (some ⟨g1, 0, none⟩) 4 d1).ownBlock by simp [Value.ownBlock]; have := own_ge H1; omega); have b2 := b1.grown hg2 (by omega) (fun q hq => by simp [Value.ownBlock] at hq; have := own_ge H1; omega); have z2 : w.heap.size + 1 < v2.heap.size := Nat.lt_of_lt_of_le z1 hg2.size; clear ho2 hg2 ha2) | (at_builtin; refine wpList_append_lies _ rfl _ _ _ rfl (w.heap.size + 1) 5 i0 _ 1 1 Try.underlying32 hi hz0 hz1 hz2 rfl (by omega) (.slice (some ⟨g2, 0, none⟩) 8 d2) 8 (u8L [128, 128, 128, 255, 128, 128, 128, 255]) rfl H2 ⟨w.heap.size, 0, none⟩ 4 4 (u8L [128, 128, 128, 255]) rfl rfl (World.news_of_block G2) (u8L_one _) (by omega) (by unfold maxLen; omega) (by omega) (by omega) _ rfl ?_; intro g3 d3 v3 ho3 hg3 ha3 hl3; have H3 : v3.ownsRow (w.heap.size + 1) 5 1 (.slice (some ⟨g3, 0, none⟩) 12 d3) 12 (u8L [128, 128, 128, 255, 128, 128, 128, 255, 128, 128, 128, 255]) := ho3; have G3 := G2.grown hg3 (show some w.heap.size ≠ (Value.slice (some ⟨g2, 0, none⟩) 8 d2).ownBlock by simp [Value.ownBlock]; have := own_ge H2; omega); have b3 := b2.grown hg3 (by omega) (fun q hq => by simp [Value.ownBlock] at hq; have := own_ge H2; omega); have z3 : w.heap.size + 1 < v3.heap.size := Nat.lt_of_lt_of_le z2 hg3.size; clear ho3 hg3 ha3) | (at_builtin; refine wpList_append_lies _ rfl _ _ _ rfl (w.heap.size + 1) 5 i0 _ 1 1 Try.underlying32 hi hz0 hz1 hz2 rfl (by omega) (.slice (some ⟨g3, 0, none⟩) 12 d3) 12 (u8L [128, 128, 128, 255, 128, 128, 128, 255, 128, 128, 128, 255]) rfl H3 ⟨w.heap.size, 0, none⟩ 4 4 (u8L [128, 128, 128, 255]) rfl rfl (World.news_of_block G3) (u8L_one _) (by omega) (by unfold maxLen; omega) (by omega) (by omega) _ rfl ?_; intro g4 d4 v4 ho4 hg4 ha4 hl4; have H4 : v4.ownsRow (w.heap.size + 1) 5 1 (.slice (some ⟨g4, 0, none⟩) 16 d4) 16 (u8L [128, 128, 128, 255, 128, 128, 128, 255, 128, 128, 128, 255, 128, 128, 128, 255]) := ho4; have G4 := G3.grown hg4 (show some w.heap.size ≠ (Value.slice (some ⟨g3, 0, none⟩) 12 d3).ownBlock by simp [Value.ownBlock]; have := own_ge H3; omega); have b4 := b3.grown hg4 (by omega) (fun q hq => by simp [Value.ownBlock] at hq; have := own_ge H3; omega); have z4 : w.heap.size + 1 < v4.heap.size := Nat.lt_of_lt_of_le z3 hg4.size; clear ho4 hg4 ha4) | (go_at_call 47; obtain ⟨-, hrow⟩ := row_of_own (l := ex36) H4; have hcap := hrow.2; (with_reducible refine (KD.out _ _ hcap _ hrow.row).mono ?_); rintro e V ⟨b, off, cap', rfl, hV, hlt, q0, q4, q8, q12⟩))
  go_ret
  exact ⟨rfl, balloc (bstep b4 hV) _⟩
end Go.Proofs.Ytkjnheikimpliaa
