/- The walks of Stride, of the folds, and of the laws of package num. -/
import Derived.Test.YtkjnheikimpliaaNum
namespace Go.Proofs.Ytkjnheikimpliaa
set_option linter.unusedVariables false
set_option linter.unusedSimpArgs false
open Go.RowKit

/-- The least multiple of a that is at least x. -/
def upN (x a : Int) : Int := if x % a = 0 then x else x - x % a + a
def strideN (w p a : Int) : Int × Bool :=
  if isN w = true ∧ isN p = true ∧ isN a = true ∧ p ≠ 0 ∧ a ≠ 0 ∧ a % 8 = 0 ∧ w * p ≤ 4611686018427387904 ∧ upN (w * p) a ≤ 4611686018427387904 then (upN (w * p) a / 8, true) else (0, false)
theorem strideN_no {w p a : Int} (h : ¬ (isN w = true ∧ isN p = true ∧ isN a = true ∧ p ≠ 0 ∧ a ≠ 0 ∧ a % 8 = 0 ∧ w * p ≤ 4611686018427387904 ∧ upN (w * p) a ≤ 4611686018427387904)) : strideN w p a = (0, false) := by
  unfold strideN; rw [if_neg h]
theorem strideN_yes {w p a : Int} (h : isN w = true ∧ isN p = true ∧ isN a = true ∧ p ≠ 0 ∧ a ≠ 0 ∧ a % 8 = 0 ∧ w * p ≤ 4611686018427387904 ∧ upN (w * p) a ≤ 4611686018427387904) : strideN w p a = (upN (w * p) a / 8, true) := by
  unfold strideN; rw [if_pos h]

theorem ceil_mul (x a : Int) : (if x % a = 0 then x / a else x / a + 1) * a = upN x a := by
  have := Int.ediv_mul_add_emod x a
  unfold upN
  split
  · omega
  · rw [Int.add_mul]; omega

set_option maxHeartbeats 1000000 in
theorem stride_any (x p a : Int) (w : World) :
    Calls Try.prog 22 #[.int .i64 x, .int .i64 p, .int .i64 a] w fun e w' => e = .returned (.tuple #[.int .i64 (strideN x p a).1, .bool (strideN x p a).2]) ∧ Below w.heap.size w w' := by
  by_cases h : (isN x && (isN p && isN a)) = true
  · have H := hide h
    have hh : isN x = true ∧ isN p = true ∧ isN a = true := by simpa using h
    obtain ⟨hx, hp, ha⟩ := hh
    have hx' := isN_true hx
    have hp' := isN_true hp
    have ha' := isN_true ha
    by_cases hp0 : p = 0
    · subst hp0
      go_enter Try.func22, Try.ntmps22
      go_wp2_with (first | (go_at_call 90; refine (is3 x 0 a _ _).mono ?_; rintro e w' ⟨rfl, rfl⟩) | fail)
      go_ret2
      exact ⟨twoR_mk (strideN_no fun ⟨_, _, _, h4, _⟩ => h4 rfl), (Below.refl _ _).alloc (Nat.le_refl _) _⟩
    by_cases ha0 : a = 0
    · subst ha0
      have g1 : (p == 0) = false := by simpa using hp0
      clear hp0
      go_enter Try.func22, Try.ntmps22
      go_wp2_with (first | (go_at_call 90; refine (is3 x p 0 _ _).mono ?_; rintro e w' ⟨rfl, rfl⟩) | fail)
      go_ret2
      exact ⟨twoR_mk (strideN_no fun ⟨_, _, _, _, h5, _⟩ => h5 rfl), (Below.refl _ _).alloc (Nat.le_refl _) _⟩
    have g1 : (p == 0) = false := by simpa using hp0
    have g2 : (a == 0) = false := by simpa using ha0
    by_cases ha8 : a % 8 = 0
    · have g3 : (a % 8 != 0) = false := by simpa using ha8
      have A8 := hide ha8
      clear ha8
      by_cases hm : x * p ≤ 4611686018427387904
      · obtain ⟨m, em⟩ : ∃ m, m = x * p := ⟨_, rfl⟩
        have hm0 : 0 ≤ m := by rw [em]; exact Int.mul_nonneg hx'.1 hp'.1
        have hm1 : m ≤ 4611686018427387904 := by omega
        have hmN := isN_mk hm0 hm1
        have K1 := hide (fun w => (mul_any x p w).mono (R' := fun e w' => e = .returned (.tuple #[.int .i64 m, .bool true]) ∧ Below w.heap.size w w') (by rintro e w' ⟨rfl, hb⟩; rw [mulN_yes x p hx hp hm, ← em]; exact ⟨rfl, hb⟩))
        obtain ⟨c, ec⟩ : ∃ c, c = if m % a = 0 then m / a else m / a + 1 := ⟨_, rfl⟩
        have hcl := div_le_self' m a hm0 (by omega)
        have hc0 : 0 ≤ m / a := Int.ediv_nonneg hm0 ha'.1
        have K2 := hide (fun w => (ceil_any m a w).mono (R' := fun e w' => e = .returned (.tuple #[.int .i64 c, .bool true]) ∧ Below w.heap.size w w') (by rintro e w' ⟨rfl, hb⟩; rw [ceilN_yes m a hmN ha ha0, ← ec]; exact ⟨rfl, hb⟩))
        have ecm : c * a = upN m a := by rw [ec, ceil_mul]
        have hcN : c * a ≤ 4611686018427387904 → isN c = true := fun hh => by
          have c0 : 0 ≤ c := by rw [ec]; split <;> omega
          have : c * 1 ≤ c * a := Int.mul_le_mul_of_nonneg_left (by omega) c0
          exact isN_mk c0 (by omega)
        by_cases hu : upN m a ≤ 4611686018427387904
        · obtain ⟨u, eu⟩ : ∃ u, u = upN m a := ⟨_, rfl⟩
          have hu0 : 0 ≤ u := by
            rw [eu, ← ecm]; exact Int.mul_nonneg (by rw [ec]; split <;> omega) ha'.1
          have hu1 : u ≤ 4611686018427387904 := by omega
          have K3 := hide (fun w => (mul_any c a w).mono (R' := fun e w' => e = .returned (.tuple #[.int .i64 u, .bool true]) ∧ Below w.heap.size w w') (by rintro e w' ⟨rfl, hb⟩; rw [mulN_yes c a (hcN (by omega)) ha (by omega), ecm, ← eu]; exact ⟨rfl, hb⟩))
          have fin := hide (show strideN x p a = (u / 8, true) by rw [strideN_yes ⟨hx, hp, ha, hp0, ha0, A8.out, hm, by rw [← em]; exact hu⟩, ← em, ← eu])
          clear hcN ecm ec em hu hm hmN eu hp0 ha0
          go_enter Try.func22, Try.ntmps22
          go_wp2_with (first | (go_at_call 90; refine (is3 x p a _ _).mono ?_; rintro e w' ⟨rfl, rfl⟩) | (go_at_call 29; (with_reducible refine (K1.out _).mono ?_); rintro e w1 ⟨rfl, hb1⟩) | (go_at_call 29; (with_reducible refine (K3.out _).mono ?_); rintro e w3 ⟨rfl, hb3⟩) | (go_at_call 24; (with_reducible refine (K2.out _).mono ?_); rintro e w2 ⟨rfl, hb2⟩))
          go_ret2
          exact ⟨twoR_mk fin.out, ((((Below.refl _ _).alloc (Nat.le_refl _) _).trans (hb1.mono (by simp))).trans (hb2.mono (by have := hb1.size; simp at this; omega))).trans (hb3.mono (by have := hb1.size; have := hb2.size; simp at *; omega))⟩
        · have K3 := hide (fun w => (mul_any c a w).mono (R' := fun e w' => e = .returned (.tuple #[.int .i64 0, .bool false]) ∧ Below w.heap.size w w') (by rintro e w' ⟨rfl, hb⟩; rw [mulN_no c a (.inr (.inr (by omega)))]; exact ⟨rfl, hb⟩))
          have fin := hide (show strideN x p a = (0, false) by rw [strideN_no]; rintro ⟨_, _, _, _, _, _, _, h8⟩; rw [← em] at h8; exact hu h8)
          clear hcN ecm ec em hu hm hmN hp0 ha0
          go_enter Try.func22, Try.ntmps22
          go_wp2_with (first | (go_at_call 90; refine (is3 x p a _ _).mono ?_; rintro e w' ⟨rfl, rfl⟩) | (go_at_call 29; (with_reducible refine (K1.out _).mono ?_); rintro e w1 ⟨rfl, hb1⟩) | (go_at_call 29; (with_reducible refine (K3.out _).mono ?_); rintro e w3 ⟨rfl, hb3⟩) | (go_at_call 24; (with_reducible refine (K2.out _).mono ?_); rintro e w2 ⟨rfl, hb2⟩))
          go_ret2
          exact ⟨twoR_mk fin.out, ((((Below.refl _ _).alloc (Nat.le_refl _) _).trans (hb1.mono (by simp))).trans (hb2.mono (by have := hb1.size; simp at this; omega))).trans (hb3.mono (by have := hb1.size; have := hb2.size; simp at *; omega))⟩
      · have K1 := hide (fun w => (mul_any x p w).mono (R' := fun e w' => e = .returned (.tuple #[.int .i64 0, .bool false]) ∧ Below w.heap.size w w') (by rintro e w' ⟨rfl, hb⟩; rw [mulN_no x p (.inr (.inr (by omega)))]; exact ⟨rfl, hb⟩))
        have fin := hide (show strideN x p a = (0, false) by rw [strideN_no]; rintro ⟨_, _, _, _, _, _, h7, _⟩; exact hm h7)
        clear hm hp0 ha0
        go_enter Try.func22, Try.ntmps22
        go_wp2_with (first | (go_at_call 90; refine (is3 x p a _ _).mono ?_; rintro e w' ⟨rfl, rfl⟩) | (go_at_call 29; (with_reducible refine (K1.out _).mono ?_); rintro e w1 ⟨rfl, hb1⟩))
        go_ret2
        exact ⟨twoR_mk fin.out, ((Below.refl _ _).alloc (Nat.le_refl _) _).trans (hb1.mono (by simp))⟩
    · have g3 : (a % 8 != 0) = true := by simpa using ha8
      have A8 := hide ha8
      clear ha8 hp0 ha0
      go_enter Try.func22, Try.ntmps22
      go_wp2_with (first | (go_at_call 90; refine (is3 x p a _ _).mono ?_; rintro e w' ⟨rfl, rfl⟩) | fail)
      go_ret2
      exact ⟨twoR_mk (strideN_no fun ⟨_, _, _, _, _, h6, _⟩ => A8.out h6), (Below.refl _ _).alloc (Nat.le_refl _) _⟩
  · have h' : (isN x && (isN p && isN a)) = false := by simpa using h
    have H := hide h
    clear h
    go_enter Try.func22, Try.ntmps22
    go_wp2_with (go_at_call 90; refine (is3 x p a _ _).mono ?_; rintro e w' ⟨rfl, rfl⟩)
    go_ret2
    exact ⟨twoR_mk (strideN_no fun ⟨h1, h2, h3, _⟩ => H.out (by simp [*])), (Below.refl _ _).alloc (Nat.le_refl _) _⟩
set_option maxHeartbeats 1000000 in
theorem refStride_any (x p a : Int) (w : World) :
    Calls Try.prog 23 #[.int .i64 x, .int .i64 p, .int .i64 a] w fun e w' => e = .returned (.tuple #[.int .i64 (strideN x p a).1, .bool (strideN x p a).2]) ∧ w = w' := by
  cases hx : isN x
  · go_enter Try.func23, Try.ntmps23
    go_wp2_with (go_at_call 91; refine (refIs_any _ _).mono ?_; rintro e w' ⟨rfl, rfl⟩)
    go_ret2
    exact ⟨twoR_mk (strideN_no (by rw [hx]; rintro ⟨h, _⟩; cases h)), rfl⟩
  cases hp : isN p
  · go_enter Try.func23, Try.ntmps23
    go_wp2_with (go_at_call 91; refine (refIs_any _ _).mono ?_; rintro e w' ⟨rfl, rfl⟩)
    go_ret2
    exact ⟨twoR_mk (strideN_no (by rw [hp]; rintro ⟨_, h, _⟩; cases h)), rfl⟩
  cases ha : isN a
  · go_enter Try.func23, Try.ntmps23
    go_wp2_with (go_at_call 91; refine (refIs_any _ _).mono ?_; rintro e w' ⟨rfl, rfl⟩)
    go_ret2
    exact ⟨twoR_mk (strideN_no (by rw [ha]; rintro ⟨_, _, h, _⟩; cases h)), rfl⟩
  have hx' := isN_true hx
  have hp' := isN_true hp
  have ha' := isN_true ha
  by_cases hp0 : p = 0
  · subst hp0
    go_enter Try.func23, Try.ntmps23
    go_wp2_with (go_at_call 91; refine (refIs_any _ _).mono ?_; rintro e w' ⟨rfl, rfl⟩)
    go_ret2
    exact ⟨twoR_mk (strideN_no fun ⟨_, _, _, h4, _⟩ => h4 rfl), rfl⟩
  by_cases ha0 : a = 0
  · subst ha0
    have g1 : (p == 0) = false := by simpa using hp0
    clear hp0
    go_enter Try.func23, Try.ntmps23
    go_wp2_with (go_at_call 91; refine (refIs_any _ _).mono ?_; rintro e w' ⟨rfl, rfl⟩)
    go_ret2
    exact ⟨twoR_mk (strideN_no fun ⟨_, _, _, _, h5, _⟩ => h5 rfl), rfl⟩
  have g1 : (p == 0) = false := by simpa using hp0
  have g2 : (a == 0) = false := by simpa using ha0
  by_cases ha8 : a % 8 = 0
  · have g3 : (a % 8 != 0) = false := by simpa using ha8
    have A8 := hide ha8
    clear ha8
    by_cases hm : x * p ≤ 4611686018427387904
    · obtain ⟨m, em⟩ : ∃ m, m = x * p := ⟨_, rfl⟩
      have hm0 : 0 ≤ m := by rw [em]; exact Int.mul_nonneg hx'.1 hp'.1
      have hm1 : m ≤ 4611686018427387904 := by omega
      have hmN := isN_mk hm0 hm1
      have K1 := hide (fun w => (refMul_any x p w).mono (R' := fun e w' => e = .returned (.tuple #[.int .i64 m, .bool true]) ∧ w = w') (by rintro e w' ⟨rfl, hb⟩; rw [mulN_yes x p hx hp hm, ← em]; exact ⟨rfl, hb⟩))
      have r0 : 0 ≤ m % a := Int.emod_nonneg _ ha0
      have r1 : m % a < a := Int.emod_lt_of_pos _ (by omega)
      have r2 : m % a ≤ m := by
        have h1 := Int.ediv_mul_add_emod m a
        have h2 : 0 ≤ m / a * a := Int.mul_nonneg (Int.ediv_nonneg hm0 ha'.1) ha'.1
        omega
      by_cases hr : m % a = 0
      · have eu : upN m a = m := by unfold upN; rw [if_pos hr]
        have hrb : (m % a == 0) = true := by simpa using hr
        have fin := hide (show strideN x p a = (m / 8, true) by rw [strideN_yes ⟨hx, hp, ha, hp0, ha0, A8.out, hm, by rw [← em, eu]; exact hm1⟩, ← em, eu])
        clear em hm hmN eu hp0 ha0 hr
        go_enter Try.func23, Try.ntmps23
        go_wp2_with (first | (go_at_call 91; refine (refIs_any _ _).mono ?_; rintro e w' ⟨rfl, rfl⟩) | (go_at_call 30; (with_reducible refine (K1.out _).mono ?_); rintro e w1 ⟨rfl, rfl⟩))
        go_ret2
        exact ⟨twoR_mk fin.out, rfl⟩
      · have eu : upN m a = m - m % a + a := by unfold upN; rw [if_neg hr]
        have hrb : (m % a == 0) = false := by simpa using hr
        have hqN : isN (m - m % a) = true := isN_mk (by omega) (by omega)
        by_cases hu : m - m % a + a ≤ 4611686018427387904
        · have K3 := hide (fun w => (refAdd_any (m - m % a) a w).mono (R' := fun e w' => e = .returned (.tuple #[.int .i64 (m - m % a + a), .bool true]) ∧ w = w') (by rintro e w' ⟨rfl, hb⟩; rw [addN_yes (m - m % a) a hqN ha hu]; exact ⟨rfl, hb⟩))
          have fin := hide (show strideN x p a = ((m - m % a + a) / 8, true) by rw [strideN_yes ⟨hx, hp, ha, hp0, ha0, A8.out, hm, by rw [← em, eu]; exact hu⟩, ← em, eu])
          clear em hm hmN eu hp0 ha0 hr hqN
          go_enter Try.func23, Try.ntmps23
          go_wp2_with (first | (go_at_call 91; refine (refIs_any _ _).mono ?_; rintro e w' ⟨rfl, rfl⟩) | (go_at_call 30; (with_reducible refine (K1.out _).mono ?_); rintro e w1 ⟨rfl, rfl⟩) | (go_at_call 28; (with_reducible refine (K3.out _).mono ?_); rintro e w1 ⟨rfl, rfl⟩))
          go_ret2
          exact ⟨twoR_mk fin.out, rfl⟩
        · have K3 := hide (fun w => (refAdd_any (m - m % a) a w).mono (R' := fun e w' => e = .returned (.tuple #[.int .i64 0, .bool false]) ∧ w = w') (by rintro e w' ⟨rfl, hb⟩; rw [addN_no (m - m % a) a (.inr (.inr (by omega)))]; exact ⟨rfl, hb⟩))
          have fin := hide (show strideN x p a = (0, false) by rw [strideN_no]; rintro ⟨_, _, _, _, _, _, _, h8⟩; rw [← em, eu] at h8; exact hu h8)
          clear em hm hmN eu hp0 ha0 hr hqN hu
          go_enter Try.func23, Try.ntmps23
          go_wp2_with (first | (go_at_call 91; refine (refIs_any _ _).mono ?_; rintro e w' ⟨rfl, rfl⟩) | (go_at_call 30; (with_reducible refine (K1.out _).mono ?_); rintro e w1 ⟨rfl, rfl⟩) | (go_at_call 28; (with_reducible refine (K3.out _).mono ?_); rintro e w1 ⟨rfl, rfl⟩))
          go_ret2
          exact ⟨twoR_mk fin.out, rfl⟩
    · have K1 := hide (fun w => (refMul_any x p w).mono (R' := fun e w' => e = .returned (.tuple #[.int .i64 0, .bool false]) ∧ w = w') (by rintro e w' ⟨rfl, hb⟩; rw [mulN_no x p (.inr (.inr (by omega)))]; exact ⟨rfl, hb⟩))
      have fin := hide (show strideN x p a = (0, false) by rw [strideN_no]; rintro ⟨_, _, _, _, _, _, h7, _⟩; exact hm h7)
      clear hm hp0 ha0
      go_enter Try.func23, Try.ntmps23
      go_wp2_with (first | (go_at_call 91; refine (refIs_any _ _).mono ?_; rintro e w' ⟨rfl, rfl⟩) | (go_at_call 30; (with_reducible refine (K1.out _).mono ?_); rintro e w1 ⟨rfl, rfl⟩))
      go_ret2
      exact ⟨twoR_mk fin.out, rfl⟩
  · have g3 : (a % 8 != 0) = true := by simpa using ha8
    have A8 := hide ha8
    clear ha8 hp0 ha0
    go_enter Try.func23, Try.ntmps23
    go_wp2_with (go_at_call 91; refine (refIs_any _ _).mono ?_; rintro e w' ⟨rfl, rfl⟩)
    go_ret2
    exact ⟨twoR_mk (strideN_no fun ⟨_, _, _, _, _, h6, _⟩ => A8.out h6), rfl⟩

set_option maxHeartbeats 1000000 in
theorem awake01 (w : World) : Calls Try.prog 26 #[] w fun e w' => e = .returned (.bool true) ∧ Below w.heap.size w w' := by
  have K1 := hide (fun w => (stride_any 3 24 32 w).mono (R' := fun e w' => e = .returned (.tuple #[.int .i64 12, .bool true]) ∧ Below w.heap.size w w') (by rintro e w' ⟨rfl, hb⟩; exact ⟨by rw [show strideN 3 24 32 = (12, true) by decide +kernel], hb⟩))
  have K2 := hide (fun w => (ceil_any 7 2 w).mono (R' := fun e w' => e = .returned (.tuple #[.int .i64 4, .bool true]) ∧ Below w.heap.size w w') (by rintro e w' ⟨rfl, hb⟩; exact ⟨by rw [show ceilN 7 2 = (4, true) by decide +kernel], hb⟩))
  have K3 := hide (fun w => (mul_any 1099511627776 1099511627776 w).mono (R' := fun e w' => e = .returned (.tuple #[.int .i64 0, .bool false]) ∧ Below w.heap.size w w') (by rintro e w' ⟨rfl, hb⟩; exact ⟨by rw [show mulN 1099511627776 1099511627776 = (0, false) by decide +kernel], hb⟩))
  go_enter Try.func26, Try.ntmps26
  go_wp2_with (first | (go_at_call 22; (with_reducible refine (K1.out _).mono ?_); rintro e w1 ⟨rfl, hb1⟩) | (go_at_call 24; (with_reducible refine (K2.out _).mono ?_); rintro e w2 ⟨rfl, hb2⟩) | (go_at_call 29; (with_reducible refine (K3.out _).mono ?_); rintro e w3 ⟨rfl, hb3⟩))
  go_ret
  exact ⟨rfl, (hb1.trans (hb2.mono hb1.size)).trans (hb3.mono (Nat.le_trans hb1.size hb2.size))⟩
set_option maxHeartbeats 1000000 in
theorem numClamps_law (v : Int) (_ : I64 v) (a : Int) (_ : I64 a) (b : Int) (_ : I64 b) (w : World) : Calls Try.prog 5 #[.int .i64 v, .int .i64 a, .int .i64 b] w fun e w' => e = .returned (.bool true) ∧ Below w.heap.size w w' := by
  by_cases h1 : v < a
  · have K := hide (fun w => (clamp_any v a b w).mono (R' := fun e w' => e = .returned (.int .i64 a) ∧ w = w') (by rintro e w' ⟨rfl, rfl⟩; rw [if_pos h1]; exact ⟨rfl, rfl⟩))
    go_enter Try.func5, Try.ntmps5
    go_wp2_with (first | (go_at_call 31; (with_reducible refine (K.out _).mono ?_); rintro e w1 ⟨rfl, rfl⟩) | (go_at_call 26; (with_reducible refine (awake01 _).mono ?_); rintro e w1 ⟨rfl, hb1⟩))
    go_ret
    exact ⟨rfl, hb1⟩
  · by_cases h2 : b < v
    · have K := hide (fun w => (clamp_any v a b w).mono (R' := fun e w' => e = .returned (.int .i64 b) ∧ w = w') (by rintro e w' ⟨rfl, rfl⟩; rw [if_neg h1, if_pos h2]; exact ⟨rfl, rfl⟩))
      go_enter Try.func5, Try.ntmps5
      go_wp2_with (first | (go_at_call 31; (with_reducible refine (K.out _).mono ?_); rintro e w1 ⟨rfl, rfl⟩) | (go_at_call 26; (with_reducible refine (awake01 _).mono ?_); rintro e w1 ⟨rfl, hb1⟩))
      go_ret
      exact ⟨rfl, hb1⟩
    · have K := hide (fun w => (clamp_any v a b w).mono (R' := fun e w' => e = .returned (.int .i64 v) ∧ w = w') (by rintro e w' ⟨rfl, rfl⟩; rw [if_neg h1, if_neg h2]; exact ⟨rfl, rfl⟩))
      go_enter Try.func5, Try.ntmps5
      go_wp2_with (first | (go_at_call 31; (with_reducible refine (K.out _).mono ?_); rintro e w1 ⟨rfl, rfl⟩) | (go_at_call 26; (with_reducible refine (awake01 _).mono ?_); rintro e w1 ⟨rfl, hb1⟩))
      go_ret
      exact ⟨rfl, hb1⟩

set_option maxHeartbeats 1000000 in
theorem numSums_law (a : Int) (_ : I64 a) (b : Int) (_ : I64 b) (w : World) : Calls Try.prog 4 #[.int .i64 a, .int .i64 b] w fun e w' => e = .returned (.bool true) ∧ Below w.heap.size w w' := by
  go_enter Try.func4, Try.ntmps4
  go_wp2_with (first | (go_at_call 27; (with_reducible refine (add_any _ _ _).mono ?_); rintro e w1 ⟨rfl, hb1⟩) | (go_at_call 28; (with_reducible refine (refAdd_any _ _ _).mono ?_); rintro e w2 ⟨rfl, rfl⟩) | (go_at_call 29; (with_reducible refine (mul_any _ _ _).mono ?_); rintro e w3 ⟨rfl, hb3⟩) | (go_at_call 30; (with_reducible refine (refMul_any _ _ _).mono ?_); rintro e w4 ⟨rfl, rfl⟩) | (go_at_call 26; (with_reducible refine (awake01 _).mono ?_); rintro e w5 ⟨rfl, hb5⟩))
  go_ret
  exact ⟨rfl, (hb1.trans (hb3.mono hb1.size)).trans (hb5.mono (Nat.le_trans hb1.size hb3.size))⟩

set_option maxHeartbeats 1000000 in
theorem numStrides_law (a : Int) (_ : I64 a) (b : Int) (_ : I64 b) (c : Int) (_ : I64 c) (w : World) : Calls Try.prog 3 #[.int .i64 a, .int .i64 b, .int .i64 c] w fun e w' => e = .returned (.bool true) ∧ Below w.heap.size w w' := by
  go_enter Try.func3, Try.ntmps3
  go_wp2_with (first | (go_at_call 22; (with_reducible refine (stride_any _ _ _ _).mono ?_); rintro e w1 ⟨rfl, hb1⟩) | (go_at_call 23; (with_reducible refine (refStride_any _ _ _ _).mono ?_); rintro e w2 ⟨rfl, rfl⟩) | (go_at_call 24; (with_reducible refine (ceil_any _ _ _).mono ?_); rintro e w3 ⟨rfl, hb3⟩) | (go_at_call 25; (with_reducible refine (refCeil_any _ _ _).mono ?_); rintro e w4 ⟨rfl, rfl⟩) | (go_at_call 26; (with_reducible refine (awake01 _).mono ?_); rintro e w5 ⟨rfl, hb5⟩))
  go_ret
  exact ⟨rfl, (hb1.trans (hb3.mono hb1.size)).trans (hb5.mono (Nat.le_trans hb1.size hb3.size))⟩
end Go.Proofs.Ytkjnheikimpliaa
