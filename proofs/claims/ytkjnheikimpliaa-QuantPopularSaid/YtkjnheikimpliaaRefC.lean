/- The reference's Rows: an image as rows of pixels. -/
import Derived.Test.YtkjnheikimpliaaRefB
namespace Go.Proofs.Ytkjnheikimpliaa
set_option linter.unusedVariables false
set_option linter.unusedSimpArgs false
open Go.RowKit
attribute [local go_sem ↓] Go.wp_at_zero Go.wp_at_succ

theorem col_info : (Try.prog.info? 36).map (fun i => (i.zero, i.size, i.bytes)) = some (some (.agg #[.int .u8 0, .int .u8 0, .int .u8 0, .int .u8 0]), 4, 4) := by kernel_rfl
theorem cols_info : (Try.prog.info? 58).map (fun i => (i.zero, i.size, i.bytes)) = some (some (.slice none 0 0), 1, 24) := by kernel_rfl

/-- Rows of W pixels each, told by their places. -/
def grid (px : Nat → Nat → Col) (W H : Nat) : List (List Col) := (List.range H).map fun b => (List.range W).map fun a => px a b
theorem grid_len (px : Nat → Nat → Col) (W H : Nat) : (grid px W H).length = H := by simp [grid]
theorem grid_take (px : Nat → Nat → Col) (W H k : Nat) (h : k < H) : (grid px W H).take (k + 1) = (grid px W H).take k ++ [(List.range W).map fun a => px a k] := by
  rw [List.take_succ_eq_append_getElem (by rw [grid_len]; exact h)]
  simp [grid]
theorem range_take (f : Nat → Col) (W x : Nat) (h : x < W) : ((List.range W).map f).take (x + 1) = ((List.range W).map f).take x ++ [f x] := by
  rw [List.take_succ_eq_append_getElem (by simpa using h)]; simp

theorem own_ne {w : World} {base n c sz m g b : Nat} {e t : TypeId} {xs : List Value} {cs : Array Value} (h : w.ownsRow base e sz (.slice (some ⟨g, 0, none⟩) n c) m xs) (hb : Blk w b t cs) (hne : e ≠ t) : g ≠ b := by
  obtain ⟨_, h2⟩ := h
  rcases h2 with ⟨h2, _⟩ | ⟨g', cap, cur, hv, _, hh, _⟩
  · cases h2
  · injection hv with hv; injection hv with hv; injection hv with hv
    subst hv
    rintro rfl
    unfold Blk at hb
    rw [hh] at hb; injection hb with hb; injection hb with _ ht
    exact hne ht

/-- The image's own pixels. -/
def imgPx (l : List Int) (W : Nat) (a b : Nat) : Col := pix l (b * W + a)

set_option maxRecDepth 100000 in
set_option maxHeartbeats 4000000 in
theorem refRows_any (W H : Nat) (A : Option Addr) (l : List Int) (cap : Nat) (w : World) (hR : rightI W H l.length) (hr : RowAt w w.heap.size .u8 A l) :
    Calls Try.prog 60 #[imgV W H A l.length cap] w fun e w' => ∃ g c, e = .returned (.slice (some ⟨g, 0, none⟩) H c) ∧ OutR w' w.heap.size w'.heap.size g c (grid (imgPx l W) W H) ∧ Below w.heap.size w w' := by
  obtain ⟨i0, hi, hz0, hz1, hz2⟩ := info_parts col_info
  obtain ⟨i1, ji, jz0, jz1, jz2⟩ := info_parts cols_info
  have hx1 := hR.1.1
  have hx2 := hR.1.2
  have hy1 := hR.2.1.1
  have hy2 := hR.2.1.2
  have K := hide fun (a b : Nat) (ha : a < W) (hb : b < H) (w' : World) (h : Below w.heap.size w w') => (refPixel_any W H A l cap a b w' hR ((hr.below h (Nat.le_refl _)).more h.size) (by omega) (by omega)).mono (R' := fun e w'' => e = .returned (colV (imgPx l W a b)) ∧ Below w'.heap.size w' w'') (by
    rintro e w' ⟨rfl, h2⟩
    refine ⟨?_, h2⟩
    unfold imgPx
    have e : ((b : Int) * (W : Int) + (a : Int)).toNat = b * W + a := by
      have : (b : Int) * (W : Int) + (a : Int) = ((b * W + a : Nat) : Int) := by simp
      rw [this, Int.toNat_natCast]
    rw [e])
  clear hR hr
  go_enter Try.func60, Try.ntmps60
  go_wp2
  go_loopw [4, 3] (fun i v wr => ∃ k g c : Nat, k ≤ H ∧ i = .int .i64 k ∧ v = .slice (some ⟨g, 0, none⟩) k c ∧ OutR wr w.heap.size wr.heap.size g c ((grid (imgPx l W) W H).take k) ∧ Below w.heap.size w wr ∧ Blk wr w.heap.size 34 #[.int .i64 W, .int .i64 H, .slice A l.length cap]) (fun i _ _ => H - (intOf i).toNat)
  case atStart =>
    refine ⟨0, _, 0, Nat.zero_le _, rfl, rfl, ⟨by simp, [], own_empty _ _ _ _ (by simp) _ (by simp), fun i hi => by simp at hi⟩, balloc (below_alloc w _) _, (Blk.new w _ _).alloc _⟩
  case round =>
    obtain ⟨k, g, c, hk, rfl, rfl, hO, hb, hB⟩ := hrel
    obtain ⟨wo, rfl⟩ : ∃ wo : World, wo = wr := ⟨_, rfl⟩
    obtain ⟨m0, m1, m2, -⟩ := blk3 hB
    have z0 := hB.lt
    by_cases hlt : k < H
    · have HO := hide hO
      have HB := hide hb
      clear hO hb
      have hsz := HB.out.size
      go_wp2_with fail
      go_loopw [6, 5] (fun j v wr => ∃ x gl cl : Nat, x ≤ W ∧ j = .int .i64 x ∧ v = .slice (some ⟨gl, 0, none⟩) x cl ∧ wr.ownsRow wo.heap.size 36 4 (.slice (some ⟨gl, 0, none⟩) x cl) x (u8L (bytesL (((List.range W).map fun a => imgPx l W a k).take x))) ∧ Below wo.heap.size wo wr) (fun j _ _ => W - (intOf j).toNat)
      case atStart => exact ⟨0, _, 0, Nat.zero_le _, rfl, rfl, own_empty wo _ _ _ (Nat.le_refl _) _ rfl, below_alloc wo _⟩
      case round =>
        obtain ⟨x, gl, cl, hx, rfl, rfl, hl, hb2⟩ := hrel
        obtain ⟨n0, n1, n2, -⟩ := blk3 (hB.below hb2 z0)
        have z1 := Nat.lt_of_lt_of_le z0 hb2.size
        by_cases hltx : x < W
        · have HL := hide hl
          have HB2 := hide hb2
          clear hl hb2
          go_wp2_with (first | (go_at_call 39; (with_reducible refine (K.out x k hltx hlt _ (HB.out.trans (HB2.out.mono hsz))).mono ?_); rintro e w1 ⟨rfl, hb1⟩; have HL1 := hide (owns_same HL.out (hb1.block gl (own_lt HL.out))); have HB3 := hide (HB2.out.trans (hb1.mono HB2.out.size)); clear hb1) | (at_builtin; refine wpList_append_lies _ rfl _ _ _ rfl wo.heap.size 36 i0 _ 4 4 Try.underlying58 hi hz0 hz1 hz2 rfl (by omega) (.slice (some ⟨gl, 0, none⟩) x cl) x _ rfl (HL1.out.alloc _) ⟨w1.heap.size, 0, none⟩ 1 1 [.int .u8 (imgPx l W x k).r, .int .u8 (imgPx l W x k).g, .int .u8 (imgPx l W x k).b, .int .u8 (imgPx l W x k).a] rfl rfl (World.news_of_block (heap_alloc_new w1 _)) (u8L_one [(imgPx l W x k).r, (imgPx l W x k).g, (imgPx l W x k).b, (imgPx l W x k).a]) (by omega) (by unfold maxLen; omega) (by omega) (by have := HB3.out.size; simp; omega) (w1.heap.size + 1) (by simp) ?_; intro g' c' w2 hown2 hg2 hat2 hlt2))
          go_roundw
          case rel => exact ⟨x + 1, g', c', by omega, by go_num, rfl, by rw [range_take _ W x hltx, bytesL_snoc, u8L_append]; exact hown2, (HB3.out.alloc HB3.out.size _).grown hg2 (by simp; have := HB3.out.size; omega) (fun q hq => by have := own_ge HL1.out; simp [Value.ownBlock] at hq; omega)⟩
          case measure => simp [intOf]; omega
        · have hxW : x = W := by omega
          subst hxW
          have hlen := hide (grid_len (imgPx l x) x H)
          have hlk : ((grid (imgPx l x) x H).take k).length = k := by rw [List.length_take, hlen.out]; omega
          obtain ⟨hlt0, vs, ho, hv⟩ := (HO.out.below hb2).more hb2.size
          rw [hlk] at ho hv
          obtain ⟨e1, e2, ht⟩ := TRow.of_own hl
          rw [List.take_of_length_le (by simp)] at ht e1 e2
          have HV := hide hv
          have HOO := hide ho
          have HT := hide ht
          have HB2 := hide hb2
          have hxc : x ≤ cl := by have := e2; simp at this; exact this
          have HLK := hide hlk
          clear ho hv ht hl e1 e2 hb2 hlk
          go_wp2_with (at_builtin; refine wpList_append_lies _ rfl _ _ _ rfl w.heap.size 58 i1 _ 1 24 Try.underlying57 ji jz0 jz1 jz2 rfl (by omega) (.slice (some ⟨g, 0, none⟩) k c) k vs rfl (HOO.out.alloc _) ⟨wr.heap.size, 0, none⟩ 1 1 [.slice (some ⟨gl, 0, none⟩) x cl] rfl rfl (World.news_of_block (heap_alloc_new wr _)) (by intro u hu; simp at hu; subst hu; rfl) (by omega) (by unfold maxLen; omega) (by omega) (by have := HB2.out.size; simp; omega) (wr.heap.size + 1) (by simp) ?_; intro g' c' w2 hown2 hg2 hat2 hlt2)
          have hrow : ((List.range x).map fun a => imgPx l x a k).length = x := by simp
          have hout : OutR w2 w.heap.size w2.heap.size g' c' ((grid (imgPx l x) x H).take (k + 1)) := by
            rw [grid_take _ _ _ _ hlt]
            exact OutR.push (w := wr) (vs := vs) (Ai := some ⟨gl, 0, none⟩) (ci := cl) _ (by rw [HLK.out]; exact HV.out) (by rw [HLK.out]; exact HOO.out) HT.out (by rw [hrow]; exact hxc) (by rw [HLK.out, hrow]; exact hown2) hg2 hlt2
          have hb3 : Below w.heap.size w w2 := ((HB.out.trans (HB2.out.mono hsz)).alloc (Nat.le_trans hsz HB2.out.size) _).grown hg2 (by have := HB2.out.size; simp; omega) (fun q hq => by have := own_ge HOO.out; simp [Value.ownBlock] at hq; omega)
          have hblk : Blk w2 w.heap.size 34 #[.int .i64 x, .int .i64 H, .slice A l.length cap] := ((hB.below HB2.out z0).alloc _).grown hg2 (fun e => by
            have h1 : Blk wr w.heap.size 34 #[.int .i64 x, .int .i64 H, .slice A l.length cap] := hB.below HB2.out z0
            simp [Value.ownBlock] at e
            exact own_ne HOO.out h1 (by decide) e.symm)
          go_roundw
          case rel => exact ⟨k + 1, g', c', by omega, by go_num, rfl, hout, hb3, hblk⟩
          case measure => simp [intOf]; omega
    · have hkH : k = H := by omega
      subst hkH
      go_wp2_with fail
      go_ret
      exact ⟨g, c, rfl, by rw [List.take_of_length_le (by rw [grid_len]; omega)] at hO; exact hO, hb⟩
end Go.Proofs.Ytkjnheikimpliaa
