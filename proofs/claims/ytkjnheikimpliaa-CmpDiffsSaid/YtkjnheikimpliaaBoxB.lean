/- The reference's Box: walked. -/
import Derived.Test.YtkjnheikimpliaaBoxA
import Derived.Test.YtkjnheikimpliaaDithA
namespace Go.Proofs.Ytkjnheikimpliaa
set_option linter.unusedVariables false
set_option linter.unusedSimpArgs false
open Go.RowKit
attribute [local go_sem ↓] Go.wp_at_zero Go.wp_at_succ

theorem refN_no {W : Nat} {mk : Nat → Bool} {k : Nat} (h : mk k = false) : refN W mk (k + 1) = refN W mk k := by
  show (if mk k then _ else _) = _
  rw [h]; rfl
theorem refN_yes {W : Nat} {mk : Nat → Bool} {k : Nat} {s : R4} {x y : Int} (h : mk k = true) (hs : refN W mk k = s) (hx : ((k % W : Nat) : Int) = x) (hy : ((k / W : Nat) : Int) = y) : refN W mk (k + 1) = s.add x y := by
  show (if mk k then _ else _) = _
  rw [h, hs, hx, hy]; rfl

set_option maxRecDepth 100000 in
set_option maxHeartbeats 4000000 in
theorem refBox_any (W n : Nat) (mk : Nat → Bool) (g cap : Nat) (w : World) (hW : 1 ≤ W ∧ W ≤ 16384) (hn : n ≤ 1073741824) (hg : g < w.heap.size) (hc : ∀ k, k < n → w.cell? ⟨g, k, none⟩ = some (.bool (mk k))) :
    Calls Try.prog 80 #[.slice (some ⟨g, 0, none⟩) n cap, .int .i64 (W : Int)] w fun e w' => e = .returned (.tuple #[.int .i64 (markN W mk n).sd.1, .int .i64 (markN W mk n).sd.2.1, .int .i64 (markN W mk n).sd.2.2.1, .int .i64 (markN W mk n).sd.2.2.2]) ∧ Below w.heap.size w w' := by
  rw [mark_sd W mk hW.1 hW.2 n hn]
  obtain ⟨z, hz⟩ : ∃ z, z = refN W mk n := ⟨_, rfl⟩
  rw [← hz]
  have HZ := hide hz
  have HC := hide hc
  have HM := hide (mark_ref W mk hW.1 n)
  have hW0 : ¬ ((W : Int) = 0) := by omega
  have hW1 : ¬ (W = 0) := by omega
  clear hc hz
  go_enter Try.func80, Try.ntmps80
  go_wp2_with fail
  go_loopw [12, 8, 9, 10, 11] (fun i s8 s9 s10 s11 wr => ∃ (k : Nat) (s : R4), k ≤ n ∧ i = .int .i64 k ∧ refN W mk k = s ∧ s8 = .int .i64 s.l ∧ s9 = .int .i64 s.t ∧ s10 = .int .i64 s.r ∧ s11 = .int .i64 s.b ∧ Below w.heap.size w wr) (fun i _ _ _ _ _ => n - (intOf i).toNat)
  case atStart => exact ⟨0, ⟨-1, -1, -1, -1⟩, Nat.zero_le _, rfl, rfl, rfl, rfl, rfl, rfl, Below.refl _ _⟩
  case round =>
    obtain ⟨k, s, hk, rfl, hs, rfl, rfl, rfl, rfl, hw⟩ := hrel
    obtain ⟨sl, st, sr, sb⟩ := s
    by_cases hlt : k < n
    · have hck : wr.cell? ⟨g, k, none⟩ = some (.bool (mk k)) := (hw.cell (p := ⟨g, k, none⟩) hg).trans (HC.out k hlt)
      have HW := hide hw
      clear hw
      cases hm : mk k
      · rw [hm] at hck
        have HS := hide ((refN_no (W := W) hm).trans hs)
        clear hm hs
        go_wp2_with fail
        go_roundw
        case rel => exact ⟨k + 1, ⟨sl, st, sr, sb⟩, by omega, by go_num, HS.out, rfl, rfl, rfl, rfl, HW.out⟩
        case measure => simp [intOf]; omega
      · rw [hm] at hck
        have em : (k : Int).tmod (W : Int) = ((k % W : Nat) : Int) := tmod_nat k W
        have ed : (k : Int).tdiv (W : Int) = ((k / W : Nat) : Int) := tdiv_nat k W
        have hx2 : k % W < W := Nat.mod_lt _ (by omega)
        have hy2 : k / W ≤ k := Nat.div_le_self _ _
        obtain ⟨x, hx⟩ : ∃ x : Nat, k % W = x := ⟨_, rfl⟩
        obtain ⟨y, hy⟩ : ∃ y : Nat, k / W = y := ⟨_, rfl⟩
        have HS := hide (refN_yes (x := (x : Int)) (y := (y : Int)) hm hs (by rw [hx]) (by rw [hy]))
        rw [hx] at em hx2
        rw [hy] at ed hy2
        clear hm hs hx hy
        have h1 : sl < 0 ∨ (0 ≤ sl ∧ (x : Int) < sl) ∨ (0 ≤ sl ∧ sl ≤ (x : Int)) := by omega
        have h2 : sr < (x : Int) ∨ (x : Int) ≤ sr := by omega
        have h3 : st < 0 ∨ 0 ≤ st := by omega
        rcases h1 with h1 | ⟨h1, h1'⟩ | ⟨h1, h1'⟩ <;> rcases h2 with h2 | h2 <;> rcases h3 with h3 | h3
        all_goals
          go_wp2_with fail
          go_quiet (fail)
          go_wp2_with fail
          go_roundw
          case rel => exact ⟨k + 1, _, by omega, by go_num, HS.out, by simp [R4.add, *] <;> omega, by simp [R4.add, *] <;> omega, by simp [R4.add, *] <;> omega, by simp [R4.add, *], bstep HW.out (below_drewN _ _)⟩
          case measure => simp [intOf]; omega
    · have hkn : k = n := by omega
      rw [hkn] at hs
      rcases HM.out with ⟨-, h2⟩ | ⟨-, h2, ⟨h3, h4, h5⟩, h6, h7, h8⟩
      · have h2' := HZ.out.trans h2
        rw [hs] at h2
        injection h2 with a1 a2 a3 a4
        subst a1 a2 a3 a4
        have HZ' := hide h2'
        have HW := hide hw
        clear hs hw h2'
        go_wp2_with fail
        exact bodyPost_ret (v := .tuple #[.int .i64 0, .int .i64 0, .int .i64 0, .int .i64 0]) (by simp [results, Try.results80, go_sem]) rfl ⟨by rw [HZ'.out]; rfl, HW.out⟩
      · have ho : (markN W mk n).b ≤ 1073741824 := by
          have : (markN W mk n).b * 1 ≤ (markN W mk n).b * (W : Int) := Int.mul_le_mul_of_nonneg_left (by omega) (by omega)
          omega
        have h2' := HZ.out.trans h2
        rw [h2] at hs
        generalize markN W mk n = b at *
        obtain ⟨l, t, r, o, sm⟩ := b
        simp only at h3 h4 h5 h6 h7 ho hs h2'
        injection hs with a1 a2 a3 a4
        subst a1 a2 a3 a4
        have HZ' := hide h2'
        have HW := hide hw
        clear hw h8 h2 h2'
        go_wp2_with fail
        refine bodyPost_ret (v := .tuple #[.int .i64 l, .int .i64 t, .int .i64 (r - l + 1), .int .i64 (o - t + 1)]) (by simp [results, Try.results80, go_sem]) rfl ⟨?_, HW.out⟩
        rw [HZ'.out]
        unfold R4.sd
        simp only
        rw [if_neg (show ¬ l < 0 by omega)]
end Go.Proofs.Ytkjnheikimpliaa
