/- The reference's Rows, with each row in a block of its own. -/
import Derived.Test.YtkjnheikimpliaaRefC
import Derived.Test.YtkjnheikimpliaaTurnA
namespace Go.Proofs.Ytkjnheikimpliaa
set_option linter.unusedVariables false
set_option linter.unusedSimpArgs false
open Go.RowKit
attribute [local go_sem ↓] Go.wp_at_zero Go.wp_at_succ

theorem own_blk {w : World} {base n c sz m g : Nat} {e : TypeId} {xs : List Value} (h : w.ownsRow base e sz (.slice (some ⟨g, 0, none⟩) n c) m xs) : ∃ cs, Blk w g e cs ∧ cs.size = c * sz ∧ cs.toList.take (m * sz) = xs ∧ base ≤ g := by
  rcases h.2 with ⟨h2, _⟩ | ⟨g', cap, cur, hv, hb, hh, hc, hm, h3, h4⟩
  · cases h2
  · injection hv with hv h5 h6; injection hv with hv; injection hv with hv
    subst hv h6
    exact ⟨cur, hh, h3, h4, hb⟩
theorem own_less {w : World} {base base' n sz : Nat} {e : TypeId} {v : Value} {xs : List Value} (h : w.ownsRow base e sz v n xs) (hb : base' ≤ base) : w.ownsRow base' e sz v n xs := by
  refine ⟨h.1, ?_⟩
  rcases h.2 with h2 | ⟨g, cap, cur, hv, hb1, h3⟩
  · exact .inl h2
  · exact .inr ⟨g, cap, cur, hv, by omega, h3⟩
/-- A row of pixels. -/
abbrev pxRow (px : Nat → Nat → Col) (W i : Nat) : List Value := u8L (bytesL ((List.range W).map fun a => px a i))
/-- A slice of rows, each of them in a block of its own. -/
structure SepR (w : World) (B0 W k : Nat) (px : Nat → Nat → Col) (g c : Nat) (bl ci : Nat → Nat) : Prop where
  own : w.ownsRow B0 58 1 (.slice (some ⟨g, 0, none⟩) k c) k ((List.range k).map fun i => .slice (some ⟨bl i, 0, none⟩) W (ci i))
  row : ∀ i, i < k → w.ownsRow B0 36 4 (.slice (some ⟨bl i, 0, none⟩) W (ci i)) W (pxRow px W i)
  inc : ∀ i j, i < j → j < k → bl i < bl j
theorem SepR.below {w w' : World} {B0 W k : Nat} {px : Nat → Nat → Col} {g c : Nat} {bl ci : Nat → Nat} (h : SepR w B0 W k px g c bl ci) (hb : Below w.heap.size w w') : SepR w' B0 W k px g c bl ci :=
  ⟨owns_same h.own (hb.block _ (own_lt h.own)), fun i hi => owns_same (h.row i hi) (hb.block _ (own_lt (h.row i hi))), h.inc⟩
theorem SepR.push {wr w2 : World} {B0 W k : Nat} {px : Nat → Nat → Col} {g c g' c' gl cl Bo : Nat} {bl ci : Nat → Nat} (h : SepR wr B0 W k px g c bl ci) (hl : wr.ownsRow Bo 36 4 (.slice (some ⟨gl, 0, none⟩) W cl) W (pxRow px W k)) (hB : B0 ≤ Bo) (hlo : ∀ i, i < k → bl i < Bo) (o : Obj) (hg : (wr.alloc o).grownBy w2 (some g))
    (ho : w2.ownsRow B0 58 1 (.slice (some ⟨g', 0, none⟩) (k + 1) c') (k + 1) (((List.range k).map fun i => .slice (some ⟨bl i, 0, none⟩) W (ci i)) ++ [.slice (some ⟨gl, 0, none⟩) W cl])) :
    SepR w2 B0 W (k + 1) px g' c' (fun i => if i = k then gl else bl i) (fun i => if i = k then cl else ci i) := by
  have keep : ∀ b xs n m cp base, wr.ownsRow base 36 4 (.slice (some ⟨b, 0, none⟩) n cp) m xs → w2.ownsRow base 36 4 (.slice (some ⟨b, 0, none⟩) n cp) m xs := fun b xs n m cp base hr => by
    have hlt := own_lt hr
    obtain ⟨cs, hb, -⟩ := own_blk hr
    have hne := own_ne h.own hb (by decide)
    exact owns_same hr ((hg.block b (Nat.lt_of_lt_of_le hlt (below_alloc wr o).size) (by simp; omega)).trans (Below.heap_alloc wr o b hlt))
  refine ⟨?_, fun i hi => ?_, fun i j hij hj => ?_⟩
  · have e : (List.range (k + 1)).map (fun i => Value.slice (some ⟨if i = k then gl else bl i, 0, none⟩) W (if i = k then cl else ci i)) = ((List.range k).map fun i => Value.slice (some ⟨bl i, 0, none⟩) W (ci i)) ++ [.slice (some ⟨gl, 0, none⟩) W cl] := by
      rw [List.range_succ, List.map_append]
      congr 1
      · refine List.map_congr_left fun i hi => ?_
        have : i ≠ k := by have := List.mem_range.1 hi; omega
        simp [this]
      · simp
    rw [e]; exact ho
  · by_cases hik : i = k
    · subst hik
      simp only [if_true]
      exact own_less (keep _ _ _ _ _ _ hl) hB
    · simp only [hik, if_false]
      exact keep _ _ _ _ _ _ (h.row i (by omega))
  · by_cases hjk : j = k
    · subst hjk
      have h1 := hlo i hij
      obtain ⟨_, _, _, _, h2⟩ := own_blk hl
      simp only [show i ≠ j by omega, if_false, if_true]
      omega
    · simp only [hjk, show i ≠ k by omega, if_false]
      exact h.inc i j hij (by omega)

set_option maxHeartbeats 8000000 in
theorem refRows_sep (W H : Nat) (A : Option Addr) (l : List Int) (cap : Nat) (w : World) (hR : rightI W H l.length) (hr : RowAt w w.heap.size .u8 A l) :
    Calls Try.prog 60 #[imgV W H A l.length cap] w fun e w' => ∃ g c bl ci, e = .returned (.slice (some ⟨g, 0, none⟩) H c) ∧ SepR w' w.heap.size W H (imgPx l W) g c bl ci ∧ Below w.heap.size w w' := by
  obtain ⟨i0, hi, hz0, hz1, hz2⟩ := info_parts col_info
  obtain ⟨i1, ji, jz0, jz1, jz2⟩ := info_parts cols_info
  have hx1 := hR.1.1
  have hx2 := hR.1.2
  have hy1 := hR.2.1.1
  have hy2 := hR.2.1.2
  have K := hide fun (a b : Nat) (ha : a < W) (hb : b < H) (w' : World) (h : Below w.heap.size w w') => (refPixel_any W H A l cap a b w' hR ((hr.below h (Nat.le_refl _)).more h.size) (by omega) (by omega)).mono (R' := fun e w'' => e = .returned (colV (imgPx l W a b)) ∧ Below w'.heap.size w' w'') (by
    rintro e w' ⟨rfl, h2⟩
    refine ⟨?_, h2⟩
    unfold imgPx
    have e : ((b : Int) * (W : Int) + (a : Int)).toNat = b * W + a := by
      have : (b : Int) * (W : Int) + (a : Int) = ((b * W + a : Nat) : Int) := by simp
      rw [this, Int.toNat_natCast]
    rw [e])
  clear hR hr
  go_enter Try.func60, Try.ntmps60
  go_wp2
  go_loopw [4, 3] (fun i v wr => ∃ (k g c : Nat) (bl ci : Nat → Nat), k ≤ H ∧ i = .int .i64 k ∧ v = .slice (some ⟨g, 0, none⟩) k c ∧ SepR wr w.heap.size W k (imgPx l W) g c bl ci ∧ Below w.heap.size w wr ∧ Blk wr w.heap.size 34 #[.int .i64 W, .int .i64 H, .slice A l.length cap]) (fun i _ _ => H - (intOf i).toNat)
  case atStart =>
    exact ⟨0, _, 0, fun _ => 0, fun _ => 0, Nat.zero_le _, rfl, rfl, ⟨own_empty _ _ _ _ (by simp) _ (by simp), fun i hi => absurd hi (Nat.not_lt_zero _), fun i j _ hj => absurd hj (Nat.not_lt_zero _)⟩, balloc (below_alloc w _) _, (Blk.new w _ _).alloc _⟩
  case round =>
    obtain ⟨k, g, c, bl, ci, hk, rfl, rfl, hO, hb, hB⟩ := hrel
    obtain ⟨wo, rfl⟩ : ∃ wo : World, wo = wr := ⟨_, rfl⟩
    obtain ⟨m0, m1, m2, -⟩ := blk3 hB
    have z0 := hB.lt
    by_cases hlt : k < H
    · have HO := hide hO
      have HB := hide hb
      clear hO hb
      have hsz := HB.out.size
      go_wp2_with fail
      go_loopw [6, 5] (fun j v wr => ∃ x gl cl : Nat, x ≤ W ∧ j = .int .i64 x ∧ v = .slice (some ⟨gl, 0, none⟩) x cl ∧ wr.ownsRow wo.heap.size 36 4 (.slice (some ⟨gl, 0, none⟩) x cl) x (u8L (bytesL (((List.range W).map fun a => imgPx l W a k).take x))) ∧ Below wo.heap.size wo wr) (fun j _ _ => W - (intOf j).toNat)
      case atStart => exact ⟨0, _, 0, Nat.zero_le _, rfl, rfl, own_empty wo _ _ _ (Nat.le_refl _) _ rfl, below_alloc wo _⟩
      case round =>
        obtain ⟨x, gl, cl, hx, rfl, rfl, hl, hb2⟩ := hrel
        obtain ⟨n0, n1, n2, -⟩ := blk3 (hB.below hb2 z0)
        have z1 := Nat.lt_of_lt_of_le z0 hb2.size
        by_cases hltx : x < W
        · have HL := hide hl
          have HB2 := hide hb2
          clear hl hb2
          go_wp2_with (first | (go_at_call 39; (with_reducible refine (K.out x k hltx hlt _ (HB.out.trans (HB2.out.mono hsz))).mono ?_); rintro e w1 ⟨rfl, hb1⟩; have HL1 := hide (owns_same HL.out (hb1.block gl (own_lt HL.out))); have HB3 := hide (HB2.out.trans (hb1.mono HB2.out.size)); clear hb1) | (at_builtin; refine wpList_append_lies _ rfl _ _ _ rfl wo.heap.size 36 i0 _ 4 4 Try.underlying58 hi hz0 hz1 hz2 rfl (by omega) (.slice (some ⟨gl, 0, none⟩) x cl) x _ rfl (HL1.out.alloc _) ⟨w1.heap.size, 0, none⟩ 1 1 [.int .u8 (imgPx l W x k).r, .int .u8 (imgPx l W x k).g, .int .u8 (imgPx l W x k).b, .int .u8 (imgPx l W x k).a] rfl rfl (World.news_of_block (heap_alloc_new w1 _)) (u8L_one [(imgPx l W x k).r, (imgPx l W x k).g, (imgPx l W x k).b, (imgPx l W x k).a]) (by omega) (by unfold maxLen; omega) (by omega) (by have := HB3.out.size; simp; omega) (w1.heap.size + 1) (by simp) ?_; intro g' c' w2 hown2 hg2 hat2 hlt2))
          go_roundw
          case rel => exact ⟨x + 1, g', c', by omega, by go_num, rfl, by rw [range_take _ W x hltx, bytesL_snoc, u8L_append]; exact hown2, (HB3.out.alloc HB3.out.size _).grown hg2 (by simp; have := HB3.out.size; omega) (fun q hq => by have := own_ge HL1.out; simp [Value.ownBlock] at hq; omega)⟩
          case measure => simp [intOf]; omega
        · have hxW : x = W := by omega
          subst hxW
          rw [List.take_of_length_le (by simp)] at hl
          have hO' := HO.out.below hb2
          have HL := hide hl
          have HOO := hide hO'
          have HOW := hide hO'.own
          have HB2 := hide hb2
          have hlo := hide (fun i (hi : i < k) => own_lt (HO.out.row i hi))
          clear hO' hl hb2
          go_wp2_with (at_builtin; refine wpList_append_lies _ rfl _ _ _ rfl w.heap.size 58 i1 _ 1 24 Try.underlying57 ji jz0 jz1 jz2 rfl (by omega) (.slice (some ⟨g, 0, none⟩) k c) k _ rfl (HOW.out.alloc _) ⟨wr.heap.size, 0, none⟩ 1 1 [.slice (some ⟨gl, 0, none⟩) x cl] rfl rfl (World.news_of_block (heap_alloc_new wr _)) (by intro u hu; simp at hu; subst hu; rfl) (by omega) (by unfold maxLen; omega) (by omega) (by have := HB2.out.size; simp; omega) (wr.heap.size + 1) (by simp) ?_; intro g' c' w2 hown2 hg2 hat2 hlt2)
          have hout := SepR.push HOO.out HL.out hsz hlo.out _ hg2 hown2
          have hb3 : Below w.heap.size w w2 := ((HB.out.trans (HB2.out.mono hsz)).alloc (Nat.le_trans hsz HB2.out.size) _).grown hg2 (by have := HB2.out.size; simp; omega) (fun q hq => by have := own_ge HOW.out; simp [Value.ownBlock] at hq; omega)
          have hblk : Blk w2 w.heap.size 34 #[.int .i64 x, .int .i64 H, .slice A l.length cap] := ((hB.below HB2.out z0).alloc _).grown hg2 (fun e => by
            have h1 : Blk wr w.heap.size 34 #[.int .i64 x, .int .i64 H, .slice A l.length cap] := hB.below HB2.out z0
            simp [Value.ownBlock] at e
            exact own_ne HOW.out h1 (by decide) e.symm)
          go_roundw
          case rel => exact ⟨k + 1, g', c', _, _, by omega, by go_num, rfl, hout, hb3, hblk⟩
          case measure => simp [intOf]; omega
    · have hkH : k = H := by omega
      subst hkH
      go_wp2
      go_ret
      exact ⟨g, c, bl, ci, rfl, hO, hb⟩
end Go.Proofs.Ytkjnheikimpliaa
