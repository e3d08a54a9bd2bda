/- The walks of num.Sum and num.Product, and of the law NumRows. -/
import Derived.Test.YtkjnheikimpliaaNumB
namespace Go.Proofs.Ytkjnheikimpliaa
set_option linter.unusedVariables false
set_option linter.unusedSimpArgs false
open Go.RowKit

/-- Numbers from the left on, as long as each step is told. -/
def foldN (op : Int → Int → Int × Bool) : Int → List Int → Int × Bool
  | v, [] => (v, true)
  | v, x :: l => if (op v x).2 = true then foldN op (op v x).1 l else (0, false)

theorem foldN_snoc (op : Int → Int → Int × Bool) (h0 : ∀ a b, (op a b).2 = false → op a b = (0, false)) (l : List Int) (x : Int) : ∀ v, foldN op v (l ++ [x]) = if (foldN op v l).2 = true then op (foldN op v l).1 x else (0, false) := by
  induction l with
  | nil =>
    intro v
    simp only [List.nil_append, foldN, if_true]
    cases h : (op v x).2
    · simp [h0 v x h]
    · simp [← h]
  | cons y l ih =>
    intro v
    simp only [List.cons_append, foldN]
    split
    · exact ih _
    · rfl

theorem foldN_no (op : Int → Int → Int × Bool) (h0 : ∀ a b, (op a b).2 = false → op a b = (0, false)) : ∀ (l : List Int) v, (foldN op v l).2 = false → foldN op v l = (0, false)
  | [], v, h => by simp [foldN] at h
  | x :: l, v, h => by
    simp only [foldN] at h ⊢
    split
    · rename_i h1; rw [if_pos h1] at h; exact foldN_no op h0 l _ h
    · rfl

theorem foldN_drop (op : Int → Int → Int × Bool) (v : Int) (l : List Int) (k : Nat) (hk : k < l.length) (t : Int) (h1 : foldN op v l = foldN op t (l.drop k)) (h2 : (op t (l.getD k 0)).2 = true) :
    foldN op v l = foldN op (op t (l.getD k 0)).1 (l.drop (k + 1)) := by
  rw [h1, List.drop_eq_getElem_cons hk, foldN]
  have e : l[k] = l.getD k 0 := by simp [List.getD, hk]
  rw [e, if_pos h2]
theorem foldN_stop (op : Int → Int → Int × Bool) (v : Int) (l : List Int) (k : Nat) (hk : k < l.length) (t : Int) (h1 : foldN op v l = foldN op t (l.drop k)) (h2 : (op t (l.getD k 0)).2 = false) :
    foldN op v l = (0, false) := by
  rw [h1, List.drop_eq_getElem_cons hk, foldN]
  have e : l[k] = l.getD k 0 := by simp [List.getD, hk]
  rw [e, h2]; rfl

theorem addN_zero (a b : Int) (h : (addN a b).2 = false) : addN a b = (0, false) := by
  unfold addN at *; split
  · rename_i h1; rw [if_pos h1] at h; cases h
  · rfl
theorem mulN_zero (a b : Int) (h : (mulN a b).2 = false) : mulN a b = (0, false) := by
  unfold mulN at *; split
  · rename_i h1; rw [if_pos h1] at h; cases h
  · rfl

set_option maxRecDepth 100000 in
set_option maxHeartbeats 1000000 in
theorem fold_any (F : FuncId) (eg : ∀ args w, (callFunc F args).run Try.prog w = .ok (.enter F args) w) (op : Int → Int → Int × Bool)
    (hF : ∀ (a b : Int) (w : World), Calls Try.prog F #[.int .i64 a, .int .i64 b] w fun e w' => e = .returned (.tuple #[.int .i64 (op a b).1, .bool (op a b).2]) ∧ Below w.heap.size w w')
    (v : Int) (A : Option Addr) (l : List Int) (cap : Nat) (w : World) (hl : l.length ≤ 100) (hr : RowAt w w.heap.size .i64 A l) :
    Calls Try.prog 93 #[.int .i64 v, .func (.func F) #[] #[], .slice A l.length cap] w fun e w' => e = .returned (.tuple #[.int .i64 (foldN op v l).1, .bool (foldN op v l).2]) ∧ Below w.heap.size w w' := by
  have HF := hide hF
  have HR := hide hr
  clear hF hr
  go_enter Try.func93, Try.ntmps93
  go_wp2
  go_loopw [8, 9, 15] (fun a ok i wr => ∃ (k : Nat) (t : Int), k ≤ l.length ∧ i = .int .i64 k ∧ a = .int .i64 t ∧ ok = .bool true ∧ foldN op v l = foldN op t (l.drop k) ∧ Below w.heap.size w wr) (fun _ _ i _ => l.length - (intOf i).toNat)
  case atStart => exact ⟨0, v, Nat.zero_le _, rfl, rfl, rfl, rfl, Below.refl _ _⟩
  case round =>
    obtain ⟨k, t, hk, rfl, rfl, rfl, hf, hb⟩ := hrel
    have HFo := hide hf
    clear hf
    by_cases hlt : k < l.length
    · obtain ⟨b, off, rfl, hbl, hc⟩ := (HR.out.below hb (Nat.le_refl _)) k hlt
      obtain ⟨x, hx⟩ : ∃ x, x = l.getD k 0 := ⟨_, rfl⟩
      rw [← hx] at hc
      have hd := foldN_drop op v l k hlt t HFo.out
      have hs := foldN_stop op v l k hlt t HFo.out
      rw [← hx] at hd hs
      have HX := hide hx
      have HD := hide hd
      have HS := hide hs
      clear hx hd hs
      cases hop : (op t x).2
      · have K := hide (fun w => (HF.out t x w).mono (R' := fun e w' => e = .returned (.tuple #[.int .i64 (op t x).1, .bool false]) ∧ Below w.heap.size w w') (by rintro e w' ⟨rfl, hb⟩; rw [hop]; exact ⟨rfl, hb⟩))
        have HO := hide hop
        clear hop
        go_wp2_with fail
        refine (K.out _).mono ?_
        rintro e w1 ⟨rfl, hb1⟩
        go_wp2_with fail
        go_ret2
        exact ⟨twoR_mk (HS.out HO.out), hb.trans (hb1.mono hb.size)⟩
      · have K := hide (fun w => (HF.out t x w).mono (R' := fun e w' => e = .returned (.tuple #[.int .i64 (op t x).1, .bool true]) ∧ Below w.heap.size w w') (by rintro e w' ⟨rfl, hb⟩; rw [hop]; exact ⟨rfl, hb⟩))
        have HO := hide hop
        clear hop
        go_wp2_with fail
        refine (K.out _).mono ?_
        rintro e w1 ⟨rfl, hb1⟩
        go_wp2_with fail
        go_roundw
        case rel => exact ⟨k + 1, _, by omega, by go_num, rfl, rfl, HD.out HO.out, hb.trans (hb1.mono hb.size)⟩
        case measure => simp [intOf]; omega
    · go_wp2
      go_ret2
      exact ⟨twoR_mk (by rw [HFo.out, List.drop_of_length_le (by omega)]; rfl), hb⟩
theorem enters27 (args : Array Value) (w : World) : (callFunc 27 args).run Try.prog w = .ok (.enter 27 args) w := enters_of Try.func27 (by kernel_rfl) rfl args w
theorem enters29 (args : Array Value) (w : World) : (callFunc 29 args).run Try.prog w = .ok (.enter 29 args) w := enters_of Try.func29 (by kernel_rfl) rfl args w
set_option maxHeartbeats 1000000 in
theorem sum_any (A : Option Addr) (l : List Int) (cap : Nat) (w : World) (hl : l.length ≤ 100) (hr : RowAt w w.heap.size .i64 A l) :
    Calls Try.prog 32 #[.slice A l.length cap] w fun e w' => e = .returned (.tuple #[.int .i64 (foldN addN 0 l).1, .bool (foldN addN 0 l).2]) ∧ Below w.heap.size w w' := by
  have HR := hide hr
  clear hr
  go_enter Try.func32, Try.ntmps32
  go_wp2_with (go_at_call 93; (with_reducible refine (fold_any 27 enters27 addN add_any _ _ l _ _ hl HR.out).mono ?_); rintro e w1 ⟨rfl, hb1⟩)
  go_ret2
  exact ⟨rfl, hb1⟩
set_option maxHeartbeats 1000000 in
theorem product_any (A : Option Addr) (l : List Int) (cap : Nat) (w : World) (hl : l.length ≤ 100) (hr : RowAt w w.heap.size .i64 A l) :
    Calls Try.prog 33 #[.slice A l.length cap] w fun e w' => e = .returned (.tuple #[.int .i64 (foldN mulN 1 l).1, .bool (foldN mulN 1 l).2]) ∧ Below w.heap.size w w' := by
  have HR := hide hr
  clear hr
  go_enter Try.func33, Try.ntmps33
  go_wp2_with (go_at_call 93; (with_reducible refine (fold_any 29 enters29 mulN mul_any _ _ l _ _ hl HR.out).mono ?_); rintro e w1 ⟨rfl, hb1⟩)
  go_ret2
  exact ⟨rfl, hb1⟩

theorem fold_take (op : Int → Int → Int × Bool) (h0 : ∀ a b, (op a b).2 = false → op a b = (0, false)) (v : Int) (l : List Int) (k : Nat) (hk : k < l.length) (t : Int) :
    (foldN op v (l.take k) = (t, true) → foldN op v (l.take (k + 1)) = op t (l.getD k 0)) ∧ (foldN op v (l.take k) = (t, false) → foldN op v (l.take (k + 1)) = (0, false)) := by
  have e : l.take (k + 1) = l.take k ++ [l.getD k 0] := by
    rw [List.take_succ_eq_append_getElem hk]; simp [List.getD, hk]
  rw [e, foldN_snoc op h0]
  exact ⟨fun h => by rw [h]; rfl, fun h => by rw [h]; rfl⟩

/-- What holds of one pair behind k rounds. -/
def FoldAt (op : Int → Int → Int × Bool) (v : Int) (l : List Int) (k : Nat) (t : Int) (b : Bool) : Prop := foldN op v (l.take k) = (t, b)
theorem FoldAt.step {op : Int → Int → Int × Bool} (h0 : ∀ a b, (op a b).2 = false → op a b = (0, false)) {v : Int} {l : List Int} {k : Nat} (hk : k < l.length) {t x : Int} (hx : x = l.getD k 0) (h : FoldAt op v l k t true) : FoldAt op v l (k + 1) (op t x).1 (op t x).2 := by
  unfold FoldAt at *
  rw [(fold_take op h0 v l k hk t).1 h, hx]
theorem FoldAt.stay {op : Int → Int → Int × Bool} (h0 : ∀ a b, (op a b).2 = false → op a b = (0, false)) {v : Int} {l : List Int} {k : Nat} (hk : k < l.length) {t : Int} (h : FoldAt op v l k t false) : FoldAt op v l (k + 1) t false := by
  unfold FoldAt at *
  have := foldN_no op h0 (l.take k) v (by rw [h])
  rw [h] at this
  rw [(fold_take op h0 v l k hk t).2 h]
  injection this with h1 _
  rw [h1]
theorem FoldAt.all {op : Int → Int → Int × Bool} {v : Int} {l : List Int} {k : Nat} (hk : ¬ k < l.length) {t : Int} {b : Bool} (h : FoldAt op v l k t b) : foldN op v l = (t, b) := by
  unfold FoldAt at *
  rwa [List.take_of_length_le (by omega)] at h

set_option maxRecDepth 100000 in
set_option maxHeartbeats 2000000 in
theorem numRows_law (w : World) (A : Option Addr) (l : List Int) (cap : Nat) (hr : RowAt w w.heap.size .i64 A l) (_ : ∀ z ∈ l, I64 z) (hm : l.length ≤ maxLen) :
    Calls Try.prog 6 #[.slice A l.length cap] w fun e w' => e = .returned (.bool true) ∧ Below w.heap.size w w' := by
  have HR := hide hr
  clear hr
  unfold maxLen at hm
  by_cases hl : l.length ≤ 100
  · go_enter Try.func6, Try.ntmps6
    go_wp2
    go_loopw [3, 4, 5, 6, 19] (fun s p a b i wr => ∃ (k : Nat) (s' p' : Int) (a' b' : Bool), k ≤ l.length ∧ i = .int .i64 k ∧ s = .int .i64 s' ∧ p = .int .i64 p' ∧ a = .bool a' ∧ b = .bool b' ∧ FoldAt addN 0 l k s' a' ∧ FoldAt mulN 1 l k p' b' ∧ Below w.heap.size w wr) (fun _ _ _ _ i _ => l.length - (intOf i).toNat)
    case atStart => exact ⟨0, 0, 1, true, true, Nat.zero_le _, rfl, rfl, rfl, rfl, rfl, rfl, rfl, Below.refl _ _⟩
    case round =>
      obtain ⟨k, s, p, a, b, hk, rfl, rfl, rfl, rfl, rfl, fa, fb, hb⟩ := hrel
      by_cases hlt : k < l.length
      · obtain ⟨g, off, rfl, hbl, hc⟩ := (HR.out.below hb (Nat.le_refl _)) k hlt
        obtain ⟨x, hx⟩ : ∃ x, x = l.getD k 0 := ⟨_, rfl⟩
        rw [← hx] at hc
        have HX := hide hx
        clear hx
        cases a <;> cases b
        all_goals go_wp2_with (first | (go_at_call 28; (with_reducible refine (refAdd_any _ _ _).mono ?_); rintro e w2 ⟨rfl, rfl⟩) | (go_at_call 30; (with_reducible refine (refMul_any _ _ _).mono ?_); rintro e w4 ⟨rfl, rfl⟩))
        all_goals go_roundw
        case rel => exact ⟨k + 1, _, _, _, _, by omega, by go_num, rfl, rfl, rfl, rfl, fa.stay addN_zero hlt, fb.stay mulN_zero hlt, hb⟩
        case measure => simp [intOf]; omega
        case rel => exact ⟨k + 1, _, _, _, _, by omega, by go_num, rfl, rfl, rfl, rfl, fa.stay addN_zero hlt, fb.step mulN_zero hlt HX.out, hb⟩
        case measure => simp [intOf]; omega
        case rel => exact ⟨k + 1, _, _, _, _, by omega, by go_num, rfl, rfl, rfl, rfl, fa.step addN_zero hlt HX.out, fb.stay mulN_zero hlt, hb⟩
        case measure => simp [intOf]; omega
        case rel => exact ⟨k + 1, _, _, _, _, by omega, by go_num, rfl, rfl, rfl, rfl, fa.step addN_zero hlt HX.out, fb.step mulN_zero hlt HX.out, hb⟩
        case measure => simp [intOf]; omega
      · have K1 := hide (fun (cap : Nat) (w' : World) (h' : RowAt w' w'.heap.size .i64 A l) => (sum_any A l cap w' hl h').mono (R' := fun e w'' => e = .returned (.tuple #[.int .i64 s, .bool a]) ∧ Below w'.heap.size w' w'') (by rintro e w' ⟨rfl, hb⟩; rw [fa.all hlt]; exact ⟨rfl, hb⟩))
        have K2 := hide (fun (cap : Nat) (w' : World) (h' : RowAt w' w'.heap.size .i64 A l) => (product_any A l cap w' hl h').mono (R' := fun e w'' => e = .returned (.tuple #[.int .i64 p, .bool b]) ∧ Below w'.heap.size w' w'') (by rintro e w' ⟨rfl, hb⟩; rw [fb.all hlt]; exact ⟨rfl, hb⟩))
        have HR1 := hide ((HR.out.below hb (Nat.le_refl _)).more hb.size)
        clear fa fb
        go_wp2_with (first | (go_at_call 32; (with_reducible refine (K1.out _ _ HR1.out).mono ?_); rintro e w1 ⟨rfl, hb1⟩; have HR2 := hide ((HR1.out.below hb1 (Nat.le_refl _)).more hb1.size)) | (go_at_call 33; (with_reducible refine (K2.out _ _ HR2.out).mono ?_); rintro e w2 ⟨rfl, hb2⟩) | (go_at_call 26; (with_reducible refine (awake01 _).mono ?_); rintro e w3 ⟨rfl, hb3⟩))
        go_ret
        exact ⟨rfl, ((hb.trans (hb1.mono hb.size)).trans (hb2.mono (Nat.le_trans hb.size hb1.size))).trans (hb3.mono (Nat.le_trans (Nat.le_trans hb.size hb1.size) hb2.size))⟩
  · go_enter Try.func6, Try.ntmps6
    go_wp2_with (first | (go_at_call 26; (with_reducible refine (awake01 _).mono ?_); rintro e w3 ⟨rfl, hb3⟩))
    go_ret
    exact ⟨rfl, hb3⟩
end Go.Proofs.Ytkjnheikimpliaa
