/- The reference's Flip. -/
import Derived.Test.YtkjnheikimpliaaRefD
namespace Go.Proofs.Ytkjnheikimpliaa
set_option linter.unusedVariables false
set_option linter.unusedSimpArgs false
open Go.RowKit
attribute [local go_sem ↓] Go.wp_at_zero Go.wp_at_succ

set_option maxRecDepth 100000 in
set_option maxHeartbeats 8000000 in
theorem flipT_any (gi ci W H : Nat) (px : Nat → Nat → Col) (w : World) (hr : RowsAt w w.heap.size (some ⟨gi, 0, none⟩) (grid px W H)) (hW : 1 ≤ W ∧ W ≤ 16384) (hH : 1 ≤ H ∧ H ≤ 16384) :
    Calls Try.prog 65 #[.slice (some ⟨gi, 0, none⟩) H ci, .bool true] w fun e w' => ∃ g c, e = .returned (.slice (some ⟨g, 0, none⟩) H c) ∧ OutR w' w.heap.size w'.heap.size g c (grid (fun a b => px a (H - 1 - b)) W H) ∧ Below w.heap.size w w' := by
  obtain ⟨i1, ji, jz0, jz1, jz2⟩ := info_parts cols_info
  have hx1 := hW.1
  have hx2 := hW.2
  have hy1 := hH.1
  have hy2 := hH.2
  obtain ⟨qx, hqx⟩ : ∃ qx : Nat → Nat → Col, qx = fun a b => px a (H - 1 - b) := ⟨_, rfl⟩
  rw [← hqx]
  have hq := hide (show ∀ k, ((List.range W).map fun a => px a (H - 1 - k)) = (List.range W).map fun a => qx a k from fun k => by rw [hqx])
  have HR := hide hr
  clear hr hW hH hqx
  go_enter Try.func65, Try.ntmps65
  go_wp2
  go_loopw [6, 5] (fun i v wr => ∃ k g c : Nat, k ≤ H ∧ i = .int .i64 k ∧ v = .slice (some ⟨g, 0, none⟩) k c ∧ OutR wr w.heap.size wr.heap.size g c ((grid qx W H).take k) ∧ Below w.heap.size w wr) (fun i _ _ => H - (intOf i).toNat)
  case atStart =>
    exact ⟨0, _, 0, Nat.zero_le _, rfl, rfl, ⟨by simp, [], own_empty _ _ _ _ (by simp) _ (by simp), fun i hi => by simp at hi⟩, below_alloc w _⟩
  case round =>
    obtain ⟨k, g, c, hk, rfl, rfl, hO, hb⟩ := hrel
    have hsz := hb.size
    by_cases hlt : k < H
    · obtain ⟨bk, ok, ck, hgi, hck, hWc, htr, -⟩ := rowAt_grid (HR.out.below hb (Nat.le_refl _)) (H - 1 - k) (by omega) hx1
      obtain ⟨q, hqk⟩ : ∃ q, q = H - 1 - k := ⟨_, rfl⟩
      rw [hq.out] at htr
      rw [← hqk] at hck
      have w1 : IntKind.i64.wrap ((H : Int) - 1) = (H : Int) - 1 := IntWalk.i64_in _ (by omega)
      have w2 : IntKind.i64.wrap ((H : Int) - 1 - k) = (q : Int) := by rw [IntWalk.i64_in _ (by omega)]; omega
      have hq1 : (0 : Int) ≤ (q : Int) := by omega
      have hq2 : (q : Int) < (H : Int) := by omega
      obtain ⟨hlt0, vs, ho, hv⟩ := hO
      have hlen := grid_len qx W H
      have hlk : ((grid qx W H).take k).length = k := by rw [List.length_take, hlen]; omega
      rw [hlk] at ho hv
      have HV := hide hv
      have HOO := hide ho
      have HT := hide (htr.more hsz)
      have HB := hide hb
      have HLK := hide hlk
      have HQ := hide hqk
      clear ho hv htr hb hlk hlen hqk
      go_wp2_with (at_builtin; refine wpList_append_lies _ rfl _ _ _ rfl w.heap.size 58 i1 _ 1 24 Try.underlying57 ji jz0 jz1 jz2 rfl (by omega) (.slice (some ⟨g, 0, none⟩) k c) k vs rfl (HOO.out.alloc _) ⟨wr.heap.size, 0, none⟩ 1 1 [.slice (some ⟨bk, ok, none⟩) W ck] rfl rfl (World.news_of_block (heap_alloc_new wr _)) (by intro u hu; simp at hu; subst hu; rfl) (by omega) (by unfold maxLen; omega) (by omega) (by simp; omega) (wr.heap.size + 1) (by simp) ?_; intro g' c' w2 hown2 hg2 hat2 hlt2)
      have hrow : ((List.range W).map fun a => qx a k).length = W := by simp
      have hout : OutR w2 w.heap.size w2.heap.size g' c' ((grid qx W H).take (k + 1)) := by
        rw [grid_take _ _ _ _ hlt]
        exact OutR.push (w := wr) (vs := vs) (Ai := some ⟨bk, ok, none⟩) (ci := ck) _ (by rw [HLK.out]; exact HV.out) (by rw [HLK.out]; exact HOO.out) HT.out (by rw [hrow]; exact hWc) (by rw [HLK.out, hrow]; exact hown2) hg2 hlt2
      have hb3 : Below w.heap.size w w2 := (HB.out.alloc hsz _).grown hg2 (by simp; omega) (fun p hp => by have := own_ge HOO.out; simp [Value.ownBlock] at hp; omega)
      go_roundw
      case rel => exact ⟨k + 1, g', c', by omega, by go_num, rfl, hout, hb3⟩
      case measure => simp [intOf]; omega
    · have hkH : k = H := by omega
      subst hkH
      go_wp2_with fail
      go_ret
      exact ⟨g, c, rfl, by rw [List.take_of_length_le (by rw [grid_len]; omega)] at hO; exact hO, hb⟩

set_option maxRecDepth 100000 in
set_option maxHeartbeats 8000000 in
theorem flipF_any (gi ci W H : Nat) (px : Nat → Nat → Col) (w : World) (hr : RowsAt w w.heap.size (some ⟨gi, 0, none⟩) (grid px W H)) (hW : 1 ≤ W ∧ W ≤ 16384) (hH : 1 ≤ H ∧ H ≤ 16384) :
    Calls Try.prog 65 #[.slice (some ⟨gi, 0, none⟩) H ci, .bool false] w fun e w' => ∃ g c, e = .returned (.slice (some ⟨g, 0, none⟩) H c) ∧ OutR w' w.heap.size w'.heap.size g c (grid (fun a b => px (W - 1 - a) b) W H) ∧ Below w.heap.size w w' := by
  obtain ⟨i0, hi, hz0, hz1, hz2⟩ := info_parts col_info
  obtain ⟨i1, ji, jz0, jz1, jz2⟩ := info_parts cols_info
  have hx1 := hW.1
  have hx2 := hW.2
  have hy1 := hH.1
  have hy2 := hH.2
  obtain ⟨qx, hqx⟩ : ∃ qx : Nat → Nat → Col, qx = fun a b => px (W - 1 - a) b := ⟨_, rfl⟩
  rw [← hqx]
  have hq := hide (show ∀ a q k : Nat, q + a + 1 = W → qx a k = px q k from fun a q k h => by rw [hqx]; show px (W - 1 - a) k = px q k; rw [show W - 1 - a = q from by omega])
  have HR := hide hr
  clear hr hW hH hqx
  go_enter Try.func65, Try.ntmps65
  go_wp2
  go_loopw [6, 5] (fun i v wr => ∃ k g c : Nat, k ≤ H ∧ i = .int .i64 k ∧ v = .slice (some ⟨g, 0, none⟩) k c ∧ OutR wr w.heap.size wr.heap.size g c ((grid qx W H).take k) ∧ Below w.heap.size w wr) (fun i _ _ => H - (intOf i).toNat)
  case atStart =>
    exact ⟨0, _, 0, Nat.zero_le _, rfl, rfl, ⟨by simp, [], own_empty _ _ _ _ (by simp) _ (by simp), fun i hi => by simp at hi⟩, below_alloc w _⟩
  case round =>
    obtain ⟨k, g, c, hk, rfl, rfl, hO, hb⟩ := hrel
    obtain ⟨wo, rfl⟩ : ∃ wo : World, wo = wr := ⟨_, rfl⟩
    have hsz := hb.size
    have HRo := hide (HR.out.below hb (Nat.le_refl _))
    by_cases hlt : k < H
    · obtain ⟨bz, oz, cz, hgi, hcz, -, -, -⟩ := rowAt_grid HRo.out k hlt hx1
      have hgz : ¬ (gi = wo.heap.size) := by omega
      have hcy := fun o => (World.cell?_alloc_lt (w := wo) (o := o) (a := ⟨gi, k, none⟩) (by show gi < wo.heap.size; omega)).trans hcz
      have hk1 : (0 : Int) ≤ (k : Int) := by omega
      have hk2 : (k : Int) < (H : Int) := by omega
      have HO := hide hO
      have HB := hide hb
      clear hO hb
      go_wp2_with fail
      go_loopw [8, 7] (fun j v wr => ∃ n gl cl : Nat, ((∃ q : Nat, j = .int .i64 q ∧ q + n + 1 = W) ∨ (j = .int .i64 (-1) ∧ n = W)) ∧ v = .slice (some ⟨gl, 0, none⟩) n cl ∧ wr.ownsRow wo.heap.size 36 4 (.slice (some ⟨gl, 0, none⟩) n cl) n (u8L (bytesL (((List.range W).map fun a => qx a k).take n))) ∧ Below wo.heap.size wo wr) (fun j _ _ => (intOf j + 1).toNat)
      case atStart => exact ⟨0, _, 0, .inl ⟨W - 1, by rw [show (((W - 1 : Nat) : Int)) = (W : Int) - 1 from by omega], by omega⟩, rfl, own_empty wo _ _ _ (Nat.le_refl _) _ rfl, below_alloc wo _⟩
      case round =>
        obtain ⟨n, gl, cl, hj, rfl, hl, hb2⟩ := hrel
        rcases hj with ⟨q, rfl, hqn⟩ | ⟨rfl, hn⟩
        · obtain ⟨bk, ok, ck, -, hck, -, -, hcx⟩ := rowAt_grid (HRo.out.below hb2 hsz) k hlt hx1
          obtain ⟨c0, c1, c2, c3⟩ := hcx q (by omega)
          have e4 := hq.out n q k hqn
          rw [← e4] at c0 c1 c2 c3
          have hq1 : (0 : Int) ≤ (q : Int) := by omega
          have hq2 : (q : Int) < (W : Int) := by omega
          have HL := hide hl
          have HB2 := hide hb2
          clear hl hb2 hcx e4 hcy hcz
          go_wp2_with (at_builtin; refine wpList_append_lies _ rfl _ _ _ rfl wo.heap.size 36 i0 _ 4 4 Try.underlying58 hi hz0 hz1 hz2 rfl (by omega) (.slice (some ⟨gl, 0, none⟩) n cl) n _ rfl (HL.out.alloc _) ⟨wr.heap.size, 0, none⟩ 1 1 [.int .u8 (qx n k).r, .int .u8 (qx n k).g, .int .u8 (qx n k).b, .int .u8 (qx n k).a] rfl rfl (World.news_of_block (heap_alloc_new wr _)) (u8L_one [(qx n k).r, (qx n k).g, (qx n k).b, (qx n k).a]) (by omega) (by unfold maxLen; omega) (by omega) (by have := HB2.out.size; simp; omega) (wr.heap.size + 1) (by simp) ?_; intro g' c' w2 hown2 hg2 hat2 hlt2)
          go_roundw
          case rel => exact ⟨n + 1, g', c', by rcases q with _ | q; exact .inr ⟨rfl, by omega⟩; exact .inl ⟨q, by rw [show (((q + 1 : Nat) : Int)) - 1 = q from by omega], by omega⟩, rfl, by rw [range_take _ W n (by omega), bytesL_snoc, u8L_append]; exact hown2, (HB2.out.alloc HB2.out.size _).grown hg2 (by simp; have := HB2.out.size; omega) (fun p hp => by have := own_ge HL.out; simp [Value.ownBlock] at hp; omega)⟩
          case measure => simp [intOf]
        · subst hn
          have hlen := hide (grid_len qx n H)
          have hlk : ((grid qx n H).take k).length = k := by rw [List.length_take, hlen.out]; omega
          obtain ⟨hlt0, vs, ho, hv⟩ := (HO.out.below hb2).more hb2.size
          rw [hlk] at ho hv
          obtain ⟨e1, e2, ht⟩ := TRow.of_own hl
          rw [List.take_of_length_le (by simp)] at ht e1 e2
          have HV := hide hv
          have HOO := hide ho
          have HT := hide ht
          have HB2 := hide hb2
          have hxc : n ≤ cl := by have := e2; simp at this; exact this
          have HLK := hide hlk
          clear ho hv ht hl e1 e2 hb2 hlk hcy hcz
          go_wp2_with (at_builtin; refine wpList_append_lies _ rfl _ _ _ rfl w.heap.size 58 i1 _ 1 24 Try.underlying57 ji jz0 jz1 jz2 rfl (by omega) (.slice (some ⟨g, 0, none⟩) k c) k vs rfl (HOO.out.alloc _) ⟨wr.heap.size, 0, none⟩ 1 1 [.slice (some ⟨gl, 0, none⟩) n cl] rfl rfl (World.news_of_block (heap_alloc_new wr _)) (by intro u hu; simp at hu; subst hu; rfl) (by omega) (by unfold maxLen; omega) (by omega) (by have := HB2.out.size; simp; omega) (wr.heap.size + 1) (by simp) ?_; intro g' c' w2 hown2 hg2 hat2 hlt2)
          have hrow : ((List.range n).map fun a => qx a k).length = n := by simp
          have hout : OutR w2 w.heap.size w2.heap.size g' c' ((grid qx n H).take (k + 1)) := by
            rw [grid_take _ _ _ _ hlt]
            exact OutR.push (w := wr) (vs := vs) (Ai := some ⟨gl, 0, none⟩) (ci := cl) _ (by rw [HLK.out]; exact HV.out) (by rw [HLK.out]; exact HOO.out) HT.out (by rw [hrow]; exact hxc) (by rw [HLK.out, hrow]; exact hown2) hg2 hlt2
          have hb3 : Below w.heap.size w w2 := ((HB.out.trans (HB2.out.mono hsz)).alloc (Nat.le_trans hsz HB2.out.size) _).grown hg2 (by have := HB2.out.size; simp; omega) (fun p hp => by have := own_ge HOO.out; simp [Value.ownBlock] at hp; omega)
          go_roundw
          case rel => exact ⟨k + 1, g', c', by omega, by go_num, rfl, hout, hb3⟩
          case measure => simp [intOf]; omega
    · have hkH : k = H := by omega
      subst hkH
      go_wp2_with fail
      go_ret
      exact ⟨g, c, rfl, by rw [List.take_of_length_le (by rw [grid_len]; omega)] at hO; exact hO, hb⟩
end Go.Proofs.Ytkjnheikimpliaa
