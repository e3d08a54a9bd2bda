/- The walks of package num and of the reference tintyperef01: what each function computes, said of plain numbers. -/
import Derived.Test.YtkjnheikimpliaaBase
namespace Go.Proofs.Ytkjnheikimpliaa
set_option linter.unusedVariables false
set_option linter.unusedSimpArgs false
open Go.RowKit


/-- Is it a number, from 0 to 2^62? -/
def isN (v : Int) : Bool := decide (0 ≤ v ∧ v ≤ 4611686018427387904)
theorem isN_true {v : Int} (h : isN v = true) : 0 ≤ v ∧ v ≤ 4611686018427387904 := of_decide_eq_true h
theorem isN_false {v : Int} (h : isN v = false) : v < 0 ∨ 4611686018427387904 < v := by
  have := of_decide_eq_false h; omega
theorem isN_mk {v : Int} (h : 0 ≤ v) (h' : v ≤ 4611686018427387904) : isN v = true := decide_eq_true ⟨h, h'⟩
theorem isN_not {v : Int} (h : v < 0 ∨ 4611686018427387904 < v) : isN v = false := decide_eq_false (by omega)

set_option maxHeartbeats 400000 in
theorem clamp_any (v a b : Int) (w : World) :
    Calls Try.prog 31 #[.int .i64 v, .int .i64 a, .int .i64 b] w fun e w' => e = .returned (.int .i64 (if v < a then a else if b < v then b else v)) ∧ w = w' := by
  go_enter Try.func31, Try.ntmps31
  go_wp2
  all_goals go_ret
  · exact ⟨by simp [*], rfl⟩
  · exact ⟨by simp [*], rfl⟩
  · exact ⟨by simp [*], rfl⟩

set_option maxHeartbeats 400000 in
theorem refIs_any (v : Int) (w : World) :
    Calls Try.prog 91 #[.int .i64 v] w fun e w' => e = .returned (.bool (isN v)) ∧ w = w' := by
  go_enter Try.func91, Try.ntmps91
  go_wp2
  all_goals go_ret
  · exact ⟨by simp [isN, *], rfl⟩
  · exact ⟨ret_bool (isN_not (by omega)).symm, rfl⟩

theorem all_take_succ (l : List Int) (k : Nat) (h : k < l.length) : (l.take (k + 1)).all isN = ((l.take k).all isN && isN (l.getD k 0)) := by
  rw [List.take_succ_eq_append_getElem h, List.all_append]
  simp [List.getD, h]

set_option maxHeartbeats 400000 in
theorem is_any (l : List Int) (b : Nat) (w : World) (hl : l.length ≤ 100) (hc : ∀ k, k < l.length → w.cell? ⟨b, k, none⟩ = some (.int .i64 (l.getD k 0))) :
    Calls Try.prog 90 #[.slice (some ⟨b, 0, none⟩) l.length l.length] w fun e w' => e = .returned (.bool (l.all isN)) ∧ w = w' := by
  have HC := hide hc
  clear hc
  go_enter Try.func90, Try.ntmps90
  go_wp2
  go_loop [7] (fun i => ∃ k : Nat, k ≤ l.length ∧ i = .int .i64 k ∧ (l.take k).all isN = true) (fun i => l.length - (intOf i).toNat)
  case atStart => exact ⟨0, Nat.zero_le _, rfl, rfl⟩
  case round =>
    obtain ⟨k, hk, rfl, ha⟩ := hrel
    have HA := hide ha
    clear ha
    by_cases hlt : k < l.length
    · have hcx := HC.out k hlt
      have hs := hide (all_take_succ l k hlt)
      obtain ⟨x, hx⟩ : ∃ x, x = l.getD k 0 := ⟨_, rfl⟩
      rw [← hx] at hcx
      rw [← hx] at hs
      have HX := hide hx
      clear hx
      have hfin : isN x = false → l.all isN = false := fun h => by
        rw [List.all_eq_false]
        exact ⟨x, by rw [HX.out]; simp [List.getD, hlt], by simp [h]⟩
      have HF := hide hfin
      clear hfin
      go_wp2
      · go_ret
        exact ⟨ret_bool (HF.out (isN_not (by omega))).symm, rfl⟩
      · go_round
        case rel => exact ⟨k + 1, by omega, by go_num, by rw [hs.out, HA.out, isN_mk (by omega) (by omega)]; rfl⟩
        case measure => simp [intOf]; omega
      · go_ret
        exact ⟨ret_bool (HF.out (isN_not (by omega))).symm, rfl⟩
    · go_wp2
      go_ret
      exact ⟨ret_bool (by rw [← HA.out, List.take_of_length_le (by omega)]), rfl⟩

theorem is2 (a b : Int) (w : World) (T : TypeId) : Calls Try.prog 90 #[.slice (some ⟨w.heap.size, 0, none⟩) 2 2] (w.alloc (.cells #[.int .i64 a, .int .i64 b] T)) fun e w' => e = .returned (.bool (isN a && isN b)) ∧ w.alloc (.cells #[.int .i64 a, .int .i64 b] T) = w' :=
  (is_any [a, b] w.heap.size (w.alloc (.cells #[.int .i64 a, .int .i64 b] T)) (by simp) (fun k hk => by
    match k, hk with
    | 0, _ => simp
    | 1, _ => simp)).mono fun _ _ ⟨h, h'⟩ => ⟨by rw [h]; simp, h'⟩
theorem is3 (a b c : Int) (w : World) (T : TypeId) : Calls Try.prog 90 #[.slice (some ⟨w.heap.size, 0, none⟩) 3 3] (w.alloc (.cells #[.int .i64 a, .int .i64 b, .int .i64 c] T)) fun e w' => e = .returned (.bool (isN a && (isN b && isN c))) ∧ w.alloc (.cells #[.int .i64 a, .int .i64 b, .int .i64 c] T) = w' :=
  (is_any [a, b, c] w.heap.size (w.alloc (.cells #[.int .i64 a, .int .i64 b, .int .i64 c] T)) (by simp) (fun k hk => by
    match k, hk with
    | 0, _ => simp
    | 1, _ => simp
    | 2, _ => simp)).mono fun _ _ ⟨h, h'⟩ => ⟨by rw [h]; simp, h'⟩

def addN (a b : Int) : Int × Bool := if isN a = true ∧ isN b = true ∧ a + b ≤ 4611686018427387904 then (a + b, true) else (0, false)
theorem twoR_mk {p : Int × Bool} {x : Int} {y : Bool} (h : p = (x, y)) : Ending.returned (.tuple #[.int .i64 x, .bool y]) = .returned (.tuple #[.int .i64 p.1, .bool p.2]) := by rw [h]
theorem addN_no (a b : Int) (h : isN a = false ∨ isN b = false ∨ 4611686018427387904 < a + b) : addN a b = (0, false) := by
  unfold addN; rw [if_neg]; rintro ⟨h1, h2, h3⟩; rcases h with h | h | h
  · rw [h] at h1; cases h1
  · rw [h] at h2; cases h2
  · omega
theorem addN_yes (a b : Int) (h1 : isN a = true) (h2 : isN b = true) (h3 : a + b ≤ 4611686018427387904) : addN a b = (a + b, true) := by
  unfold addN; rw [if_pos ⟨h1, h2, h3⟩]

set_option maxHeartbeats 400000 in
theorem add_any (a b : Int) (w : World) :
    Calls Try.prog 27 #[.int .i64 a, .int .i64 b] w fun e w' => e = .returned (.tuple #[.int .i64 (addN a b).1, .bool (addN a b).2]) ∧ Below w.heap.size w w' := by
  by_cases h : isN a = true ∧ isN b = true
  · obtain ⟨ha, hb⟩ := h
    have ha' := isN_true ha
    have hb' := isN_true hb
    go_enter Try.func27, Try.ntmps27
    go_wp2_with (go_at_call 90; refine (is2 a b _ _).mono ?_; rintro e w' ⟨rfl, rfl⟩)
    · go_ret2
      exact ⟨twoR_mk (addN_no a b (.inr (.inr (by omega)))), (Below.refl _ _).alloc (Nat.le_refl _) _⟩
    · go_ret2
      exact ⟨twoR_mk (addN_yes a b ha hb (by omega)), (Below.refl _ _).alloc (Nat.le_refl _) _⟩
  · have h' := and_false_of h
    have H := hide h
    clear h
    go_enter Try.func27, Try.ntmps27
    go_wp2_with (go_at_call 90; refine (is2 a b _ _).mono ?_; rintro e w' ⟨rfl, rfl⟩)
    go_ret2
    exact ⟨twoR_mk (addN_no a b ((or_of_not H.out).elim .inl fun h => .inr (.inl h))), (Below.refl _ _).alloc (Nat.le_refl _) _⟩

set_option maxHeartbeats 400000 in
theorem refAdd_any (a b : Int) (w : World) :
    Calls Try.prog 28 #[.int .i64 a, .int .i64 b] w fun e w' => e = .returned (.tuple #[.int .i64 (addN a b).1, .bool (addN a b).2]) ∧ w = w' := by
  cases ha : isN a
  · go_enter Try.func28, Try.ntmps28
    go_wp2_with (go_at_call 91; refine (refIs_any _ _).mono ?_; rintro e w' ⟨rfl, rfl⟩)
    go_ret2
    exact ⟨twoR_mk (addN_no a b (.inl ha)), rfl⟩
  · cases hb : isN b
    · go_enter Try.func28, Try.ntmps28
      go_wp2_with (go_at_call 91; refine (refIs_any _ _).mono ?_; rintro e w' ⟨rfl, rfl⟩)
      go_ret2
      exact ⟨twoR_mk (addN_no a b (.inr (.inl hb))), rfl⟩
    · have ha' := isN_true ha
      have hb' := isN_true hb
      go_enter Try.func28, Try.ntmps28
      go_wp2_with (go_at_call 91; refine (refIs_any _ _).mono ?_; rintro e w' ⟨rfl, rfl⟩)
      · go_ret2
        exact ⟨twoR_mk (addN_no a b (.inr (.inr (by omega)))), rfl⟩
      · go_ret2
        exact ⟨twoR_mk (addN_yes a b ha hb (by omega)), rfl⟩

theorem mul64_small (x y : Int) (hx : 0 ≤ x) (hx' : x ≤ 4611686018427387904) (hy : 0 ≤ y) (hy' : y ≤ 4611686018427387904) (h : x * y ≤ 4611686018427387904) (w : World) :
    Calls Try.prog 92 #[.int .u64 x, .int .u64 y] w fun e w' => e = .returned (.tuple #[.int .u64 0, .int .u64 (x * y)]) ∧ w = w' := by
  obtain ⟨x, rfl⟩ := Int.eq_ofNat_of_zero_le hx
  obtain ⟨y, rfl⟩ := Int.eq_ofNat_of_zero_le hy
  refine (Try.bits_Mul64 x y (by omega) (by omega) w).mono ?_
  rintro e w' ⟨rfl, rfl⟩
  have e0 : ((x * y : Nat) : Int) = (x : Int) * (y : Int) := by simp
  rw [← e0] at h ⊢
  rw [show x * y / 18446744073709551616 = 0 from by omega, show x * y % 18446744073709551616 = x * y from by omega]
  exact ⟨rfl, rfl⟩
theorem mul64_big (x y : Int) (hx : 0 ≤ x) (hx' : x ≤ 4611686018427387904) (hy : 0 ≤ y) (hy' : y ≤ 4611686018427387904) (h : 4611686018427387904 < x * y) (w : World) :
    Calls Try.prog 92 #[.int .u64 x, .int .u64 y] w fun e w' => ∃ a b : Int, (a ≠ 0 ∨ 4611686018427387904 < b) ∧ e = .returned (.tuple #[.int .u64 a, .int .u64 b]) ∧ w = w' := by
  obtain ⟨x, rfl⟩ := Int.eq_ofNat_of_zero_le hx
  obtain ⟨y, rfl⟩ := Int.eq_ofNat_of_zero_le hy
  refine (Try.bits_Mul64 x y (by omega) (by omega) w).mono ?_
  rintro e w' ⟨rfl, rfl⟩
  have e0 : ((x * y : Nat) : Int) = (x : Int) * (y : Int) := by simp
  rw [← e0] at h
  exact ⟨_, _, by omega, rfl, rfl⟩

def mulN (a b : Int) : Int × Bool := if isN a = true ∧ isN b = true ∧ a * b ≤ 4611686018427387904 then (a * b, true) else (0, false)
theorem mulN_no (a b : Int) (h : isN a = false ∨ isN b = false ∨ 4611686018427387904 < a * b) : mulN a b = (0, false) := by
  unfold mulN; rw [if_neg]; rintro ⟨h1, h2, h3⟩; rcases h with h | h | h
  · rw [h] at h1; cases h1
  · rw [h] at h2; cases h2
  · omega
theorem mulN_yes (a b : Int) (h1 : isN a = true) (h2 : isN b = true) (h3 : a * b ≤ 4611686018427387904) : mulN a b = (a * b, true) := by
  unfold mulN; rw [if_pos ⟨h1, h2, h3⟩]

set_option maxHeartbeats 400000 in
theorem mul_any (a b : Int) (w : World) :
    Calls Try.prog 29 #[.int .i64 a, .int .i64 b] w fun e w' => e = .returned (.tuple #[.int .i64 (mulN a b).1, .bool (mulN a b).2]) ∧ Below w.heap.size w w' := by
  by_cases h : isN a = true ∧ isN b = true
  · obtain ⟨ha, hb⟩ := h
    have ha' := isN_true ha
    have hb' := isN_true hb
    by_cases hm : a * b ≤ 4611686018427387904
    · have hm0 : 0 ≤ a * b := Int.mul_nonneg ha'.1 hb'.1
      obtain ⟨m, hm1⟩ : ∃ m, m = a * b := ⟨_, rfl⟩
      have hk := fun w => mul64_small a b ha'.1 ha'.2 hb'.1 hb'.2 hm w
      rw [← hm1] at hm hm0 hk
      have H := hide hm1
      have HK := hide hk
      clear hm1 hk
      go_enter Try.func29, Try.ntmps29
      go_wp2_with (first | (go_at_call 90; refine (is2 a b _ _).mono ?_; rintro e w' ⟨rfl, rfl⟩) | (go_at_call 92; refine (HK.out _).mono ?_; rintro e w' ⟨rfl, rfl⟩))
      go_ret2
      exact ⟨twoR_mk (by rw [mulN_yes a b ha hb (by rw [← H.out]; exact hm), ← H.out]), (Below.refl _ _).alloc (Nat.le_refl _) _⟩
    · have HM := hide hm
      have hm' : 4611686018427387904 < a * b := by omega
      have HK := hide (fun w => mul64_big a b ha'.1 ha'.2 hb'.1 hb'.2 hm' w)
      clear hm hm'
      go_enter Try.func29, Try.ntmps29
      go_wp2_with (first | (go_at_call 90; refine (is2 a b _ _).mono ?_; rintro e w' ⟨rfl, rfl⟩) | (go_at_call 92; refine (HK.out _).mono ?_; rintro e w' ⟨x, y, hxy, rfl, rfl⟩))
      all_goals first | (exfalso; omega) | skip
      all_goals go_ret2
      all_goals exact ⟨twoR_mk (mulN_no a b (.inr (.inr (by have := HM.out; omega)))), (Below.refl _ _).alloc (Nat.le_refl _) _⟩
  · have h' := and_false_of h
    have H := hide h
    clear h
    go_enter Try.func29, Try.ntmps29
    go_wp2_with (go_at_call 90; refine (is2 a b _ _).mono ?_; rintro e w' ⟨rfl, rfl⟩)
    go_ret2
    exact ⟨twoR_mk (mulN_no a b ((or_of_not H.out).elim .inl fun h => .inr (.inl h))), (Below.refl _ _).alloc (Nat.le_refl _) _⟩
theorem mul_gt_iff (a b : Int) (ha : 0 ≤ a) (hb : 0 < b) : 4611686018427387904 / b < a ↔ 4611686018427387904 < a * b := by
  rw [Int.ediv_lt_iff_lt_mul hb]

set_option maxHeartbeats 400000 in
theorem refMul_any (a b : Int) (w : World) :
    Calls Try.prog 30 #[.int .i64 a, .int .i64 b] w fun e w' => e = .returned (.tuple #[.int .i64 (mulN a b).1, .bool (mulN a b).2]) ∧ w = w' := by
  cases ha : isN a
  · go_enter Try.func30, Try.ntmps30
    go_wp2_with (go_at_call 91; refine (refIs_any _ _).mono ?_; rintro e w' ⟨rfl, rfl⟩)
    go_ret2
    exact ⟨twoR_mk (mulN_no a b (.inl ha)), rfl⟩
  · cases hb : isN b
    · go_enter Try.func30, Try.ntmps30
      go_wp2_with (go_at_call 91; refine (refIs_any _ _).mono ?_; rintro e w' ⟨rfl, rfl⟩)
      go_ret2
      exact ⟨twoR_mk (mulN_no a b (.inr (.inl hb))), rfl⟩
    · have ha' := isN_true ha
      have hb' := isN_true hb
      by_cases h0 : a = 0 ∨ b = 0
      · have hz : mulN a b = (0, true) := by
          rcases h0 with h0 | h0
          · rw [mulN_yes a b ha hb (by rw [h0]; simp)]; simp [h0]
          · rw [mulN_yes a b ha hb (by rw [h0]; simp)]; simp [h0]
        have HZ := hide hz
        clear hz
        rcases h0 with h0 | h0
        · subst h0
          go_enter Try.func30, Try.ntmps30
          go_wp2_with (go_at_call 91; refine (refIs_any _ _).mono ?_; rintro e w' ⟨rfl, rfl⟩)
          go_ret2
          exact ⟨twoR_mk HZ.out, rfl⟩
        · have H0 := hide h0
          clear h0
          by_cases ha0 : a = 0
          · subst ha0
            go_enter Try.func30, Try.ntmps30
            go_wp2_with (go_at_call 91; refine (refIs_any _ _).mono ?_; rintro e w' ⟨rfl, rfl⟩)
            go_ret2
            exact ⟨twoR_mk HZ.out, rfl⟩
          · obtain rfl := H0.out
            have h1 : (a == 0) = false := by simpa using ha0
            clear ha0
            go_enter Try.func30, Try.ntmps30
            go_wp2_with (go_at_call 91; refine (refIs_any _ _).mono ?_; rintro e w' ⟨rfl, rfl⟩)
            go_ret2
            exact ⟨twoR_mk HZ.out, rfl⟩
      · have h1 : (a == 0) = false := by simp; omega
        have h2 : (b == 0) = false := by simp; omega
        have h3 : 0 < b := by omega
        have hq := mul_gt_iff a b ha'.1 h3
        clear h0
        by_cases hm : 4611686018427387904 / b < a
        · have hm' := hq.1 hm
          have HM := hide hm'
          clear hm' hq
          go_enter Try.func30, Try.ntmps30
          go_wp2_with (go_at_call 91; refine (refIs_any _ _).mono ?_; rintro e w' ⟨rfl, rfl⟩)
          go_ret2
          exact ⟨twoR_mk (mulN_no a b (.inr (.inr HM.out))), rfl⟩
        · have hm' : a * b ≤ 4611686018427387904 := by
            have := mt hq.2 hm; omega
          have hm0 : 0 ≤ a * b := Int.mul_nonneg ha'.1 hb'.1
          clear hq
          go_enter Try.func30, Try.ntmps30
          go_wp2_with (go_at_call 91; refine (refIs_any _ _).mono ?_; rintro e w' ⟨rfl, rfl⟩)
          go_ret2
          exact ⟨twoR_mk (mulN_yes a b ha hb hm'), rfl⟩
/-- The least number that, times b, is at least a. -/
def ceilN (a b : Int) : Int × Bool := if isN a = true ∧ isN b = true ∧ b ≠ 0 then (if a % b = 0 then a / b else a / b + 1, true) else (0, false)
theorem ceilN_no (a b : Int) (h : isN a = false ∨ isN b = false ∨ b = 0) : ceilN a b = (0, false) := by
  unfold ceilN; rw [if_neg]; rintro ⟨h1, h2, h3⟩; rcases h with h | h | h
  · rw [h] at h1; cases h1
  · rw [h] at h2; cases h2
  · exact h3 h
theorem ceilN_yes (a b : Int) (h1 : isN a = true) (h2 : isN b = true) (h3 : b ≠ 0) : ceilN a b = (if a % b = 0 then a / b else a / b + 1, true) := by
  unfold ceilN; rw [if_pos ⟨h1, h2, h3⟩]

theorem ceil_zero (a b : Int) : a % b = 0 ↔ a / b * b = a := by
  have := Int.ediv_mul_add_emod a b
  omega
theorem div_le_self' (a b : Int) (ha : 0 ≤ a) (hb : 0 < b) : a / b ≤ a := Int.ediv_le_self b ha

set_option maxHeartbeats 400000 in
theorem ceil_any (a b : Int) (w : World) :
    Calls Try.prog 24 #[.int .i64 a, .int .i64 b] w fun e w' => e = .returned (.tuple #[.int .i64 (ceilN a b).1, .bool (ceilN a b).2]) ∧ Below w.heap.size w w' := by
  by_cases h : isN a = true ∧ isN b = true
  · obtain ⟨ha, hb⟩ := h
    have ha' := isN_true ha
    have hb' := isN_true hb
    by_cases h0 : b = 0
    · subst h0
      go_enter Try.func24, Try.ntmps24
      go_wp2_with (go_at_call 90; refine (is2 a 0 _ _).mono ?_; rintro e w' ⟨rfl, rfl⟩)
      go_ret2
      exact ⟨twoR_mk (ceilN_no a 0 (.inr (.inr rfl))), (Below.refl _ _).alloc (Nat.le_refl _) _⟩
    · have h2 : (b == 0) = false := by simp; omega
      have h3 : 0 < b := by omega
      have h4 := Int.ediv_nonneg ha'.1 hb'.1
      have h5 := div_le_self' a b ha'.1 h3
      go_enter Try.func24, Try.ntmps24
      go_wp2_with (go_at_call 90; refine (is2 a b _ _).mono ?_; rintro e w' ⟨rfl, rfl⟩)
      · have hne : (a % b != 0) = true := by assumption
        go_ret2
        exact ⟨twoR_mk (by rw [ceilN_yes a b ha hb h0, if_neg (by simpa using hne)]), (Below.refl _ _).alloc (Nat.le_refl _) _⟩
      · have hne : (a % b != 0) = false := by assumption
        go_ret2
        exact ⟨twoR_mk (by rw [ceilN_yes a b ha hb h0, if_pos (by simpa using hne)]), (Below.refl _ _).alloc (Nat.le_refl _) _⟩
  · have h' := and_false_of h
    have H := hide h
    clear h
    go_enter Try.func24, Try.ntmps24
    go_wp2_with (go_at_call 90; refine (is2 a b _ _).mono ?_; rintro e w' ⟨rfl, rfl⟩)
    go_ret2
    exact ⟨twoR_mk (ceilN_no a b ((or_of_not H.out).elim .inl fun h => .inr (.inl h))), (Below.refl _ _).alloc (Nat.le_refl _) _⟩

set_option maxHeartbeats 400000 in
theorem refCeil_any (a b : Int) (w : World) :
    Calls Try.prog 25 #[.int .i64 a, .int .i64 b] w fun e w' => e = .returned (.tuple #[.int .i64 (ceilN a b).1, .bool (ceilN a b).2]) ∧ w = w' := by
  cases ha : isN a
  · go_enter Try.func25, Try.ntmps25
    go_wp2_with (go_at_call 91; refine (refIs_any _ _).mono ?_; rintro e w' ⟨rfl, rfl⟩)
    go_ret2
    exact ⟨twoR_mk (ceilN_no a b (.inl ha)), rfl⟩
  · cases hb : isN b
    · go_enter Try.func25, Try.ntmps25
      go_wp2_with (go_at_call 91; refine (refIs_any _ _).mono ?_; rintro e w' ⟨rfl, rfl⟩)
      go_ret2
      exact ⟨twoR_mk (ceilN_no a b (.inr (.inl hb))), rfl⟩
    · have ha' := isN_true ha
      have hb' := isN_true hb
      by_cases h0 : b = 0
      · subst h0
        go_enter Try.func25, Try.ntmps25
        go_wp2_with (go_at_call 91; refine (refIs_any _ _).mono ?_; rintro e w' ⟨rfl, rfl⟩)
        go_ret2
        exact ⟨twoR_mk (ceilN_no a 0 (.inr (.inr rfl))), rfl⟩
      · have h2 : (b == 0) = false := by simp; omega
        have h3 : 0 < b := by omega
        have h4 := Int.ediv_nonneg ha'.1 hb'.1
        have h5 := div_le_self' a b ha'.1 h3
        have h6 : a / b * b ≤ a := Int.ediv_mul_le a (by omega)
        have h7 : 0 ≤ a / b * b := Int.mul_nonneg h4 hb'.1
        go_enter Try.func25, Try.ntmps25
        go_wp2_with (go_at_call 91; refine (refIs_any _ _).mono ?_; rintro e w' ⟨rfl, rfl⟩)
        · go_ret2
          exact ⟨twoR_mk (by rw [ceilN_yes a b ha hb h0, if_neg (by rw [ceil_zero a b]; omega)]), rfl⟩
        · go_ret2
          exact ⟨twoR_mk (by rw [ceilN_yes a b ha hb h0, if_pos (by rw [ceil_zero a b]; omega)]), rfl⟩
end Go.Proofs.Ytkjnheikimpliaa
