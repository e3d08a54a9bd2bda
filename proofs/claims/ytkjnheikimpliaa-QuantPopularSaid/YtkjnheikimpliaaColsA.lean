/- The references' Channel and Colors: walked. -/
import Derived.Test.YtkjnheikimpliaaCntC
namespace Go.Proofs.Ytkjnheikimpliaa
set_option linter.unusedVariables false
set_option linter.unusedSimpArgs false
open Go.RowKit
attribute [local go_sem ↓] Go.wp_at_zero Go.wp_at_succ

/-- The reference's channel: at every number. -/
def chI (c : Col) (ch : Int) : Int := if ch = 0 then c.r else if ch = 1 then c.g else if ch = 2 then c.b else c.a
set_option maxHeartbeats 1000000 in
theorem refChannel_any (c : Col) (ch : Int) (w : World) : Calls Try.prog 40 #[colV c, .int .i64 ch] w fun e w' => e = .returned (.int .u8 (chI c ch)) ∧ Below w.heap.size w w' := by
  have hb := below_alloc w (.cells #[.int .u8 c.r, .int .u8 c.g, .int .u8 c.b, .int .u8 c.a] 36)
  have HB := hide hb
  clear hb
  unfold chI
  by_cases h0 : ch = 0
  · subst h0
    go_enter Try.func40, Try.ntmps40
    go_wp2
    go_ret
    exact ⟨rfl, HB.out⟩
  by_cases h1 : ch = 1
  · subst h1
    go_enter Try.func40, Try.ntmps40
    go_wp2
    go_ret
    exact ⟨rfl, HB.out⟩
  by_cases h2 : ch = 2
  · subst h2
    go_enter Try.func40, Try.ntmps40
    go_wp2
    go_ret
    exact ⟨rfl, HB.out⟩
  rw [if_neg h0, if_neg h1, if_neg h2]
  have q0 : (ch == 0) = false := by simpa using h0
  have q1 : (ch == 1) = false := by simpa using h1
  have q2 : (ch == 2) = false := by simpa using h2
  clear h0 h1 h2
  go_enter Try.func40, Try.ntmps40
  go_wp2
  go_ret
  exact ⟨rfl, HB.out⟩

/-- The unlike colours of the first pixels, in order. -/
def dl (l : List Int) : Nat → List Col
  | 0 => []
  | k + 1 => if pix l k ∈ dl l k then dl l k else dl l k ++ [pix l k]
theorem dl_mem (l : List Int) (c : Col) : ∀ k, c ∈ dl l k ↔ cntN l c k ≠ 0
  | 0 => by simp [dl, cntN]
  | k + 1 => by
    have ih := dl_mem l c k
    unfold dl cntN
    by_cases he : pix l k = c
    · rw [if_pos he]
      subst he
      by_cases hm : pix l k ∈ dl l k
      · rw [if_pos hm]; simp [hm]
      · rw [if_neg hm]; simp
    · rw [if_neg he, Nat.add_zero]
      by_cases hm : pix l k ∈ dl l k
      · rw [if_pos hm]; exact ih
      · rw [if_neg hm]
        rw [List.mem_append, List.mem_singleton]
        exact ⟨fun h => ih.1 (h.resolve_right fun e => he e.symm), fun h => .inl (ih.2 h)⟩
theorem dl_len (l : List Int) : ∀ k, (dl l k).length = dcN l k
  | 0 => rfl
  | k + 1 => by
    have ih := dl_len l k
    have hm := dl_mem l (pix l k) k
    unfold dl dcN
    by_cases h0 : cntN l (pix l k) k = 0
    · rw [if_pos h0, if_neg (fun h => hm.1 h h0)]
      simp [ih]
    · rw [if_neg h0, if_pos (hm.2 h0)]
      simp [ih]
theorem mem_take_succ {c : Col} {L : List Col} {i : Nat} (hi : i < L.length) : c ∈ L.take (i + 1) ↔ c ∈ L.take i ∨ L.getD i ⟨0, 0, 0, 0⟩ = c := by
  rw [List.take_succ_eq_append_getElem hi, List.mem_append, List.mem_singleton]
  simp [List.getD, hi]
  exact ⟨fun h => h.imp id Eq.symm, fun h => h.imp id Eq.symm⟩

set_option maxRecDepth 100000 in
set_option maxHeartbeats 16000000 in
theorem refColors_any (W H : Nat) (A : Option Addr) (l : List Int) (cap : Nat) (w : World) (hR : rightI W H l.length) (hr : RowAt w w.heap.size .u8 A l) :
    Calls Try.prog 41 #[imgV W H A l.length cap] w fun e w' => e = .returned (.int .i64 (dcN l (W * H) : Nat)) ∧ Below w.heap.size w w' := by
  obtain ⟨i0, hi, hz0, hz1, hz2⟩ := info_parts col_info
  have hx1 := hR.1.1
  have hx2 := hR.1.2
  have hy1 := hR.2.1.1
  have hy2 := hR.2.1.2
  have hWH : W * H ≤ 268435456 := Nat.le_trans (Nat.mul_le_mul (show W ≤ 16384 by omega) (show H ≤ 16384 by omega)) (by decide)
  have K := hide fun (a b : Nat) (ha : a < W) (hb : b < H) (w' : World) (h : Below w.heap.size w w') => (refPixel_any W H A l cap a b w' hR ((hr.below h (Nat.le_refl _)).more h.size) (by omega) (by omega)).mono (R' := fun e w'' => e = .returned (colV (pix l (b * W + a))) ∧ Below w'.heap.size w' w'') (by
    rintro e w' ⟨rfl, h2⟩
    refine ⟨?_, h2⟩
    rw [nat_idx])
  have DL := hide fun k : Nat => (by rw [dl_len]; exact dcN_le l k : (dl l k).length ≤ k)
  rw [← dl_len]
  have hle : ∀ k x : Nat, k < H → x ≤ W → k * W + x ≤ W * H := fun k x hk hx => by
    have : k * W + W ≤ H * W := by rw [← Nat.succ_mul]; exact Nat.mul_le_mul_right W hk
    rw [Nat.mul_comm W H]; omega
  have HLE := hide hle
  clear hR hr hle
  go_enter Try.func41, Try.ntmps41
  go_wp2_with fail
  have hB0 : Blk ((w.alloc (.cells #[.int .i64 W, .int .i64 H, .slice A l.length cap] 34)).alloc (.cells #[] 36)) w.heap.size 34 #[.int .i64 W, .int .i64 H, .slice A l.length cap] := (Blk.new w 34 _).alloc _
  have hO0 : ((w.alloc (.cells #[.int .i64 W, .int .i64 H, .slice A l.length cap] 34)).alloc (.cells #[] 36)).ownsRow (w.heap.size + 1) 36 4 (.slice (some ⟨w.heap.size + 1, 0, none⟩) 0 0) 0 [] := own_empty _ _ _ _ (by simp) _ (by simp)
  have HB0 := hide hB0
  have HO0 := hide hO0
  clear hB0 hO0
  go_loopw [4, 3] (fun i v wr => ∃ k g n c : Nat, k ≤ H ∧ i = .int .i64 k ∧ v = .slice (some ⟨g, 0, none⟩) n c ∧ n = (dl l (k * W)).length ∧ wr.ownsRow (w.heap.size + 1) 36 4 (.slice (some ⟨g, 0, none⟩) n c) n (u8L (bytesL (dl l (k * W)))) ∧ Below w.heap.size w wr ∧ Blk wr w.heap.size 34 #[.int .i64 W, .int .i64 H, .slice A l.length cap]) (fun i _ _ => H - (intOf i).toNat)
  case atStart =>
    exact ⟨0, _, 0, 0, Nat.zero_le _, rfl, rfl, by simp [dl], by simpa [dl, bytesL, u8L] using HO0.out, balloc (below_alloc w _) _, HB0.out⟩
  case round =>
    obtain ⟨k, g, n, c, hk, rfl, rfl, hn, hO, hb, hB⟩ := hrel
    obtain ⟨m0, m1, m2, -⟩ := blk3 hB
    by_cases hlt : k < H
    · have HO := hide hO
      have HB := hide hb
      have HBL := hide hB
      have HN := hide hn
      clear hO hb hB hn
      go_wp2_with fail
      go_loopw [5, 3] (fun j v wr => ∃ x g n c : Nat, x ≤ W ∧ j = .int .i64 x ∧ v = .slice (some ⟨g, 0, none⟩) n c ∧ n = (dl l (k * W + x)).length ∧ wr.ownsRow (w.heap.size + 1) 36 4 (.slice (some ⟨g, 0, none⟩) n c) n (u8L (bytesL (dl l (k * W + x)))) ∧ Below w.heap.size w wr ∧ Blk wr w.heap.size 34 #[.int .i64 W, .int .i64 H, .slice A l.length cap]) (fun j _ _ => W - (intOf j).toNat)
      case atStart => exact ⟨0, g, n, c, Nat.zero_le _, rfl, rfl, HN.out, HO.out, HB.out, HBL.out⟩
      case round =>
        obtain ⟨x, g, n, c, hx, rfl, rfl, hn, hO, hb, hB⟩ := hrel
        obtain ⟨m0, m1, m2, -⟩ := blk3 hB
        by_cases hltx : x < W
        · have hnx : n ≤ 268435456 := by
            have h1 := DL.out (k * W + x)
            have h2 := HLE.out k x hlt hx
            omega
          obtain ⟨p, hp⟩ : ∃ p, p = pix l (k * W + x) := ⟨_, rfl⟩
          have KP := hide (K.out x k hltx hlt)
          rw [← hp] at KP
          obtain ⟨L, hL⟩ : ∃ L, L = dl l (k * W + x) := ⟨_, rfl⟩
          rw [← hL] at hO hn
          have hnext : dl l (k * W + (x + 1)) = if p ∈ L then L else L ++ [p] := by rw [hp, hL]; rfl
          have HNX := hide hnext
          have HO := hide hO
          have HB := hide hb
          have HBL := hide hB
          have HN := hide hn
          clear hO hb hB hn hnext hL hp
          go_upto_region 9 with (go_at_call 39; (with_reducible refine (KP.out _ HB.out).mono ?_); rintro e w1 ⟨rfl, hb1⟩)
          have hV : Below w.heap.size w (w1.alloc (.cells #[.int .u8 p.r, .int .u8 p.g, .int .u8 p.b, .int .u8 p.a] 36)) := balloc (bstep HB.out hb1) _
          have hbl : Blk (w1.alloc (.cells #[.int .u8 p.r, .int .u8 p.g, .int .u8 p.b, .int .u8 p.a] 36)) w.heap.size 34 #[.int .i64 W, .int .i64 H, .slice A l.length cap] := (HBL.out.below hb1 HBL.out.lt).alloc _
          have hbp : Blk (w1.alloc (.cells #[.int .u8 p.r, .int .u8 p.g, .int .u8 p.b, .int .u8 p.a] 36)) w1.heap.size 36 #[.int .u8 p.r, .int .u8 p.g, .int .u8 p.b, .int .u8 p.a] := Blk.new w1 36 _
          have hov : (w1.alloc (.cells #[.int .u8 p.r, .int .u8 p.g, .int .u8 p.b, .int .u8 p.a] 36)).ownsRow (w.heap.size + 1) 36 4 (.slice (some ⟨g, 0, none⟩) n c) n (u8L (bytesL L)) := (owns_belowB HO.out hb1).alloc _
          generalize w1.alloc (.cells #[.int .u8 p.r, .int .u8 p.g, .int .u8 p.b, .int .u8 p.a] 36) = V at hV hbl hbp hov ⊢
          obtain ⟨pb, hpb⟩ : ∃ pb, pb = w1.heap.size := ⟨_, rfl⟩
          rw [← hpb] at hbp ⊢
          have HV := hide hV
          have HBLV := hide hbl
          have HBP := hide hbp
          have HOV := hide hov
          clear hV hbl hbp hov hpb hb1 HB HBL HO KP
          go_wp2_with fail
          go_loopw [8, 7] (fun i b wr => ∃ (j : Nat) (b' : Value), j ≤ n ∧ i = .int .i64 j ∧ b' = b ∧ b' = .bool (decide (p ∈ L.take j)) ∧ Below V.heap.size V wr) (fun i _ _ => n - (intOf i).toNat)
          case atStart => exact ⟨0, _, Nat.zero_le _, rfl, rfl, by simp, Below.refl _ _⟩
          case round =>
            obtain ⟨j, b', hj, rfl, rfl, hbj, hb⟩ := hrel
            by_cases hltj : j < n
            · have hjr : (j : Int) < (n : Int) := by omega
              by_cases hm : p ∈ L.take j
              · rw [decide_eq_true hm] at hbj
                have HM := hide ((mem_take_succ (c := p) (L := L) (i := j) (by rw [← HN.out]; exact hltj)).2 (.inl hm))
                have HB := hide hb
                subst hbj
                clear hm hb
                go_wp2_with fail
                refine wp_region_noPanic ?_
                refine wp_region_held_drew (S := (fun w' => True)) (by kernel_rfl) ?_ (fun hHeld => ?_)
                · trivial
                refine wpAnyH_take (i := 0) (v := ?vs0) rfl (by kernel_rfl) (by kernel_rfl) (by kernel_rfl) (fun _ _ _ h => h) (Or.inl ⟨by rfl, ?hys0⟩) (by assumption) ?rests0
                case hys0 => (intro w hSw; (try dsimp only at hSw); go_simp; try with_reducible rfl)
                try simp only [Act.put, List.setIfInBounds_toArray, List.set_cons_zero, List.set_cons_succ, List.getElem_toArray, List.getElem_cons_succ, List.getElem_cons_zero]
                refine wpAnyH_take (i := 1) (v := ?vs1) rfl (by kernel_rfl) (by kernel_rfl) (by kernel_rfl) (fun _ _ _ h => h) (Or.inl ⟨by rfl, ?hys1⟩) (by assumption) ?rests1
                case hys1 => (intro w hSw; (try dsimp only at hSw); go_simp; try with_reducible rfl)
                try simp only [Act.put, List.setIfInBounds_toArray, List.set_cons_zero, List.set_cons_succ, List.getElem_toArray, List.getElem_cons_succ, List.getElem_cons_zero]
                refine wpAnyH_take (i := 2) (v := undef) rfl (by kernel_rfl) (by kernel_rfl) (by kernel_rfl) (fun _ _ _ h => h) (Or.inr ⟨by rfl, rfl⟩) (by assumption) ?_
                try simp only [Act.put, List.setIfInBounds_toArray, List.set_cons_zero, List.set_cons_succ, List.getElem_toArray, List.getElem_cons_succ, List.getElem_cons_zero]
                refine wpAnyH_take (i := 3) (v := undef) rfl (by kernel_rfl) (by kernel_rfl) (by kernel_rfl) (fun _ _ _ h => h) (Or.inr ⟨by rfl, rfl⟩) (by assumption) ?_
                try simp only [Act.put, List.setIfInBounds_toArray, List.set_cons_zero, List.set_cons_succ, List.getElem_toArray, List.getElem_cons_succ, List.getElem_cons_zero]
                refine wpAnyH_take (i := 4) (v := undef) rfl (by kernel_rfl) (by kernel_rfl) (by kernel_rfl) (fun _ _ _ h => h) (Or.inr ⟨by rfl, rfl⟩) (by assumption) ?_
                try simp only [Act.put, List.setIfInBounds_toArray, List.set_cons_zero, List.set_cons_succ, List.getElem_toArray, List.getElem_cons_succ, List.getElem_cons_zero]
                refine wpAnyH_take (i := 5) (v := undef) rfl (by kernel_rfl) (by kernel_rfl) (by kernel_rfl) (fun _ _ _ h => h) (Or.inr ⟨by rfl, rfl⟩) (by assumption) ?_
                try simp only [Act.put, List.setIfInBounds_toArray, List.set_cons_zero, List.set_cons_succ, List.getElem_toArray, List.getElem_cons_succ, List.getElem_cons_zero]
                refine wpAnyH_take (i := 6) (v := undef) rfl (by kernel_rfl) (by kernel_rfl) (by kernel_rfl) (fun _ _ _ h => h) (Or.inr ⟨by rfl, rfl⟩) (by assumption) ?_
                try simp only [Act.put, List.setIfInBounds_toArray, List.set_cons_zero, List.set_cons_succ, List.getElem_toArray, List.getElem_cons_succ, List.getElem_cons_zero]
                refine wpAnyH_take (i := 7) (v := undef) rfl (by kernel_rfl) (by kernel_rfl) (by kernel_rfl) (fun _ _ _ h => h) (Or.inr ⟨by rfl, rfl⟩) (by assumption) ?_
                try simp only [Act.put, List.setIfInBounds_toArray, List.set_cons_zero, List.set_cons_succ, List.getElem_toArray, List.getElem_cons_succ, List.getElem_cons_zero]
                refine wpAnyH_take (i := 8) (v := ?vs8) rfl (by kernel_rfl) (by kernel_rfl) (by kernel_rfl) (fun _ _ _ h => h) (Or.inl ⟨by rfl, ?hys8⟩) (by assumption) ?rests8
                case hys8 => (intro w hSw; (try dsimp only at hSw); go_simp; try with_reducible rfl)
                try simp only [Act.put, List.setIfInBounds_toArray, List.set_cons_zero, List.set_cons_succ, List.getElem_toArray, List.getElem_cons_succ, List.getElem_cons_zero]
                refine wpAnyH_take (i := 9) (v := ?vs9) rfl (by kernel_rfl) (by kernel_rfl) (by kernel_rfl) (fun _ _ _ h => h) (Or.inl ⟨by rfl, ?hys9⟩) (by assumption) ?rests9
                case hys9 => (intro w hSw; (try dsimp only at hSw); go_simp; try with_reducible rfl)
                try simp only [Act.put, List.setIfInBounds_toArray, List.set_cons_zero, List.set_cons_succ, List.getElem_toArray, List.getElem_cons_succ, List.getElem_cons_zero]
                refine wpAnyH_done (by kernel_rfl) ?_ _
                refine NoPanic.normal ?_
                go_wp2_with fail
                go_roundw
                case rel => exact ⟨j + 1, _, by omega, by go_num, rfl, by rw [decide_eq_true HM.out], HB.out.drew⟩
                case measure => simp [intOf]; omega
              · rw [decide_eq_false hm] at hbj
                subst hbj
                have HM := hide (mem_take_succ (c := p) (L := L) (i := j) (by rw [← HN.out]; exact hltj))
                have HNM := hide hm
                obtain ⟨-, -, htr⟩ := TRow.of_own HOV.out
                obtain ⟨bc, oc, hbc, hat⟩ := cols_at htr.row (by rw [← HN.out]; omega)
                injection hbc with hbc; injection hbc with hbc hoc
                subst hbc hoc
                have hxk := (hat.below hb).at_ j (by rw [← HN.out]; exact hltj)
                obtain ⟨q, hq⟩ : ∃ q, q = L.getD j ⟨0, 0, 0, 0⟩ := ⟨_, rfl⟩
                rw [← hq] at hxk HM
                obtain ⟨x0, x1, x2, x3⟩ := hxk
                simp only [Nat.zero_add] at x0 x1 x2 x3
                obtain ⟨p0, p1, p2, p3, -⟩ := blk4 (HBP.out.below hb HBP.out.lt)
                have HB := hide hb
                clear hm hb hat htr hq
                by_cases he : q = p
                · have e4 : q.r = p.r ∧ q.g = p.g ∧ q.b = p.b ∧ q.a = p.a := by rw [he]; exact ⟨rfl, rfl, rfl, rfl⟩
                  have q1 : (q.r == p.r) = true := by simpa using e4.1
                  have q2 : (q.g == p.g) = true := by simpa using e4.2.1
                  have q3 : (q.b == p.b) = true := by simpa using e4.2.2.1
                  have q4 : (q.a == p.a) = true := by simpa using e4.2.2.2
                  have HMM := hide (HM.out.2 (.inr he))
                  clear e4 he
                  go_wp2_with fail
                  go_region_held3 (fun w' => w'.cell? ⟨g, j * 4, none⟩ = some (.int .u8 q.r) ∧ w'.cell? ⟨g, j * 4 + 1, none⟩ = some (.int .u8 q.g) ∧ w'.cell? ⟨g, j * 4 + 2, none⟩ = some (.int .u8 q.b) ∧ w'.cell? ⟨g, j * 4 + 3, none⟩ = some (.int .u8 q.a) ∧ w'.cell? ⟨pb, 0, none⟩ = some (.int .u8 p.r) ∧ w'.cell? ⟨pb, 1, none⟩ = some (.int .u8 p.g) ∧ w'.cell? ⟨pb, 2, none⟩ = some (.int .u8 p.b) ∧ w'.cell? ⟨pb, 3, none⟩ = some (.int .u8 p.a)) (go_keep) (fail)
                  go_wp2_with fail
                  go_roundw
                  case rel => exact ⟨j + 1, _, by omega, by go_num, rfl, by rw [decide_eq_true HMM.out], HB.out.drew⟩
                  case measure => simp [intOf]; omega
                · have HMM := hide (fun h => (HM.out.1 h).elim HNM.out he : ¬ p ∈ L.take (j + 1))
                  have hq : (q.r == p.r) = false ∨ ((q.r == p.r) = true ∧ (q.g == p.g) = false) ∨ ((q.r == p.r) = true ∧ (q.g == p.g) = true ∧ (q.b == p.b) = false) ∨ ((q.r == p.r) = true ∧ (q.g == p.g) = true ∧ (q.b == p.b) = true ∧ (q.a == p.a) = false) := by
                    cases h1 : (q.r == p.r) <;> cases h2 : (q.g == p.g) <;> cases h3 : (q.b == p.b) <;> cases h4 : (q.a == p.a) <;> simp
                    exact he (by cases q; cases p; simp at h1 h2 h3 h4; simp [h1, h2, h3, h4])
                  clear he
                  rcases hq with q1 | ⟨q1, q2⟩ | ⟨q1, q2, q3⟩ | ⟨q1, q2, q3, q4⟩
                  all_goals
                    go_wp2_with fail
                    go_region_held3 (fun w' => w'.cell? ⟨g, j * 4, none⟩ = some (.int .u8 q.r) ∧ w'.cell? ⟨g, j * 4 + 1, none⟩ = some (.int .u8 q.g) ∧ w'.cell? ⟨g, j * 4 + 2, none⟩ = some (.int .u8 q.b) ∧ w'.cell? ⟨g, j * 4 + 3, none⟩ = some (.int .u8 q.a) ∧ w'.cell? ⟨pb, 0, none⟩ = some (.int .u8 p.r) ∧ w'.cell? ⟨pb, 1, none⟩ = some (.int .u8 p.g) ∧ w'.cell? ⟨pb, 2, none⟩ = some (.int .u8 p.b) ∧ w'.cell? ⟨pb, 3, none⟩ = some (.int .u8 p.a)) (go_keep) (fail)
                    go_wp2_with fail
                    go_roundw
                    case rel => exact ⟨j + 1, _, by omega, by go_num, rfl, by rw [decide_eq_false HMM.out], HB.out.drew⟩
                    case measure => simp [intOf]; omega
            · have hjn : j = n := by omega
              subst hjn
              rw [List.take_of_length_le (by rw [← HN.out]; exact Nat.le_refl _)] at hbj
              have HOW := hide (owns_belowB HOV.out hb)
              have HBLW := hide (HBLV.out.below hb HBLV.out.lt)
              have HBW := hide (bstep HV.out hb)
              obtain ⟨p0, p1, p2, p3, -⟩ := blk4 (HBP.out.below hb HBP.out.lt)
              have hszw := HBLW.out.lt
              clear hb
              by_cases hm : p ∈ L
              · rw [decide_eq_true hm] at hbj
                subst hbj
                have hn2 := HNX.out
                rw [if_pos hm] at hn2
                have HN2 := hide hn2
                clear hm hn2
                go_wp2_with fail
                go_roundw
                case rel => exact ⟨x + 1, g, j, c, by omega, by go_num, rfl, by rw [HN2.out]; exact HN.out, by rw [HN2.out]; exact HOW.out, HBW.out, HBLW.out⟩
                case measure => simp [intOf]; omega
              · rw [decide_eq_false hm] at hbj
                subst hbj
                have hn2 := HNX.out
                rw [if_neg hm] at hn2
                have HN2 := hide hn2
                clear hm hn2
                go_wp2_with (at_builtin; refine wpList_append_lies _ rfl _ _ _ rfl (w.heap.size + 1) 36 i0 _ 4 4 Try.underlying58 hi hz0 hz1 hz2 rfl (by omega) (.slice (some ⟨g, 0, none⟩) j c) j _ rfl (HOW.out.alloc _) ⟨wr.heap.size, 0, none⟩ 1 1 [.int .u8 p.r, .int .u8 p.g, .int .u8 p.b, .int .u8 p.a] rfl rfl (World.news_of_block (heap_alloc_new wr _)) (u8L_one [p.r, p.g, p.b, p.a]) (by omega) (by unfold maxLen; omega) (by omega) (by simp; omega) (wr.heap.size + 1) (by simp) ?_; intro g' c' w7 hown2 hg2 hat2 hlt2)
                have hge := own_ge HOW.out
                have hbz : Below w.heap.size w w7 := (balloc HBW.out _).grown hg2 (by have := HBW.out.size; simp; omega) (fun q hq => by simp [Value.ownBlock] at hq; omega)
                have hblz : Blk w7 w.heap.size 34 #[.int .i64 W, .int .i64 H, .slice A l.length cap] := (HBLW.out.alloc _).grown hg2 (fun e => by simp [Value.ownBlock] at e; omega)
                have HO7 := hide hown2
                have HB7 := hide hbz
                have HBL7 := hide hblz
                clear hown2 hg2 hat2 hlt2 hbz hblz hge
                go_roundw
                case rel => exact ⟨x + 1, g', j + 1, c', by omega, by go_num, rfl, by rw [HN2.out, List.length_append, ← HN.out]; rfl, by rw [HN2.out, bytesL_snoc, u8L_append]; exact HO7.out, HB7.out, HBL7.out⟩
                case measure => simp [intOf]; omega
        · have hxW : x = W := by omega
          subst hxW
          have HO := hide hO
          have HB := hide hb
          have HBL := hide hB
          have HN := hide hn
          clear hO hb hB hn
          go_wp2_with fail
          go_roundw
          case rel => exact ⟨k + 1, g, n, c, by omega, by go_num, rfl, by rw [Nat.succ_mul]; exact HN.out, by rw [Nat.succ_mul]; exact HO.out, HB.out, HBL.out⟩
          case measure => simp [intOf]; omega
    · have hkH : k = H := by omega
      subst hkH
      have HB := hide hb
      have HN := hide hn
      clear hO hb hB hn
      go_wp2_with fail
      go_ret
      exact ⟨by rw [Nat.mul_comm, ← HN.out]; rfl, HB.out⟩
end Go.Proofs.Ytkjnheikimpliaa
