/- The least box with the marked pixels: two ways to reckon it, plain. -/
import Derived.Test.YtkjnheikimpliaaCmpD
namespace Go.Proofs.Ytkjnheikimpliaa
set_option linter.unusedVariables false
set_option linter.unusedSimpArgs false
open Go.RowKit

/-- The box of the marked pixels, after so many. -/
def markN (W : Nat) (mk : Nat → Bool) : Nat → Bx
  | 0 => ⟨0, 0, 0, 0, false⟩
  | k + 1 => if mk k then (markN W mk k).add ((k % W : Nat) : Int) ((k / W : Nat) : Int) else markN W mk k
/-- The reference's four numbers. -/
structure R4 where
  l : Int
  t : Int
  r : Int
  b : Int
/-- A marked pixel more. -/
def R4.add (s : R4) (x y : Int) : R4 := ⟨if s.l < 0 ∨ x < s.l then x else s.l, if s.t < 0 then y else s.t, if s.r < x then x else s.r, y⟩
def refN (W : Nat) (mk : Nat → Bool) : Nat → R4
  | 0 => ⟨-1, -1, -1, -1⟩
  | k + 1 => if mk k then (refN W mk k).add ((k % W : Nat) : Int) ((k / W : Nat) : Int) else refN W mk k

theorem mark_ref (W : Nat) (mk : Nat → Bool) (hW : 1 ≤ W) : ∀ k, ((markN W mk k).some = false ∧ refN W mk k = ⟨-1, -1, -1, -1⟩) ∨
    ((markN W mk k).some = true ∧ refN W mk k = ⟨(markN W mk k).l, (markN W mk k).t, (markN W mk k).r, (markN W mk k).b⟩ ∧ (0 ≤ (markN W mk k).l ∧ (markN W mk k).l ≤ (markN W mk k).r ∧ (markN W mk k).r < W) ∧ 0 ≤ (markN W mk k).t ∧ (markN W mk k).t ≤ (markN W mk k).b ∧ (markN W mk k).b * W < k) := by
  intro k
  induction k with
  | zero => exact .inl ⟨rfl, rfl⟩
  | succ k ih =>
    have hx : k % W < W := Nat.mod_lt _ (by omega)
    have hy : k / W * W ≤ k := Nat.div_mul_le_self k W
    have hyI : ((k / W : Nat) : Int) * (W : Int) ≤ (k : Int) := by exact_mod_cast hy
    have hm : ∀ a : Int, a * W < k → a ≤ ((k / W : Nat) : Int) := fun a ha => by
      rcases Int.lt_or_le a 0 with h | h
      · exact Int.le_trans (Int.le_of_lt h) (Int.natCast_nonneg _)
      · obtain ⟨n, rfl⟩ := Int.eq_ofNat_of_zero_le h
        have : n * W ≤ k := by have : ((n * W : Nat) : Int) < k := by push_cast; exact ha
                               omega
        exact_mod_cast (Nat.le_div_iff_mul_le (by omega)).mpr this
    have hx' : ((k % W : Nat) : Int) < W := by exact_mod_cast hx
    have hx0 : 0 ≤ ((k % W : Nat) : Int) := Int.natCast_nonneg _
    have hy0 : 0 ≤ ((k / W : Nat) : Int) := Int.natCast_nonneg _
    unfold markN refN
    generalize markN W mk k = b at ih ⊢
    generalize refN W mk k = s at ih ⊢
    generalize ((k / W : Nat) : Int) = y at hyI hm hy0 ⊢
    generalize ((k % W : Nat) : Int) = x at hx' hx0 ⊢
    have hk1 : ((k + 1 : Nat) : Int) = (k : Int) + 1 := by omega
    rw [hk1]
    obtain ⟨l, t, r, o, sm⟩ := b
    obtain ⟨sl, st, sr, so⟩ := s
    cases mk k
    · rcases ih with ⟨h1, h2⟩ | ⟨h1, h2, h3, h4, h5, h6⟩
      · exact .inl ⟨h1, h2⟩
      · exact .inr ⟨h1, h2, h3, h4, h5, by simp only [Bool.false_eq_true, if_false] at h6 ⊢; omega⟩
    · right
      rcases ih with ⟨h1, h2⟩ | ⟨h1, h2, h3, h4, h5, h6⟩
      · simp only at h1
        subst h1
        injection h2 with a1 a2 a3 a4
        subst a1 a2 a3 a4
        simp only [if_true, Bx.add, R4.add, Bool.false_eq_true, if_false]
        refine ⟨trivial, ?_, ⟨hx0, Int.le_refl _, hx'⟩, hy0, Int.le_refl _, by omega⟩
        simp
        omega
      · simp only at h1 h3 h4 h5 h6
        subst h1
        injection h2 with a1 a2 a3 a4
        subst a1 a2 a3 a4
        have hb := hm _ h6
        have e4 : max so y = y := by omega
        have e2 : min st y = st := by omega
        simp only [if_true, Bx.add, R4.add]
        rw [e4, e2, if_neg (show ¬ st < 0 by omega)]
        refine ⟨trivial, ?_, ?_, h4, by omega, by omega⟩
        · by_cases q1 : x < sl
          · rw [if_pos (.inr q1), show min sl x = x by omega]
            by_cases q2 : sr < x
            · rw [if_pos q2, show max sr x = x by omega]
            · rw [if_neg q2, show max sr x = sr by omega]
          · rw [if_neg (by omega), show min sl x = sl by omega]
            by_cases q2 : sr < x
            · rw [if_pos q2, show max sr x = x by omega]
            · rw [if_neg q2, show max sr x = sr by omega]
        · omega
/-- The reference's answer. -/
def R4.sd (s : R4) : Int × Int × Int × Int := if s.l < 0 then (0, 0, 0, 0) else (s.l, s.t, s.r - s.l + 1, s.b - s.t + 1)
theorem mark_sd (W : Nat) (mk : Nat → Bool) (hW : 1 ≤ W) (hW2 : W ≤ 16384) (k : Nat) (hk : k ≤ 1073741824) : (markN W mk k).sd = (refN W mk k).sd := by
  rcases mark_ref W mk hW k with ⟨h1, h2⟩ | ⟨h1, h2, h3, h4, h5, h6⟩
  · unfold Bx.sd R4.sd
    rw [h1, h2]
    rfl
  · unfold Bx.sd R4.sd
    rw [h1, h2]
    generalize markN W mk k = b at *
    obtain ⟨l, t, r, o, sm⟩ := b
    simp only at h3 h4 h5 h6 ⊢
    have ho : o ≤ o * W := by
      have : o * 1 ≤ o * (W : Int) := Int.mul_le_mul_of_nonneg_left (by omega) (by omega)
      omega
    rw [if_neg (show ¬ l < 0 by omega), IntWalk.wrap64_in (r - l) (by omega), IntWalk.wrap64_in (o - t) (by omega), IntWalk.wrap64_in (r - l + 1) (by omega), IntWalk.wrap64_in (o - t + 1) (by omega)]
    rfl
end Go.Proofs.Ytkjnheikimpliaa
