/- 256 numbers: made of nothing, and compared. -/
import Derived.Test.YtkjnheikimpliaaHistB
import Derived.Test.YtkjnheikimpliaaColsA
import Derived.ChangeKeysEq
namespace Go.Proofs.Ytkjnheikimpliaa
set_option linter.unusedVariables false
set_option linter.unusedSimpArgs false
open Go.RowKit
theorem build37 (w : World) : (Instr.build 37 #[]).run Try.prog w = .ok (.agg (histA fun _ => 0)) w := by kernel_rfl
theorem eqItems_same (d : Nat) (f : Nat → Int) (w : World) : ∀ is : List Nat, (∀ i ∈ is, i < 256) → (Op.eqItems (d + 1) 3 1 (histA f) (histA f) is).run Try.prog w = .ok true w
  | [], _ => by simp [Op.eqItems]
  | i :: is, h => by
    have ih := eqItems_same d f w is (fun j hj => h j (List.mem_cons_of_mem _ hj))
    have hp : (part 3 (histA f) (i * 1)).run Try.prog w = .ok (.int .i64 (f i)) w := by
      simp [part, isAgg, run_underlying Try.underlying3, histA_at f i (h i (by simp))]
    have he : (Op.equalIn (d + 1) 3 (.int .i64 (f i)) (.int .i64 (f i))).run Try.prog w = .ok true w := by
      rw [run_equalIn_int w d 3 .i64 .i64 _ _ Try.underlying3]; simp
    simp only [Op.eqItems, Sem.run_bind, hp, he, Result.andThen_ok, Bool.not_true, Bool.false_eq_true, if_false]
    exact ih
theorem equal37 (f : Nat → Int) (w : World) : (Op.equalIn 10000 37 (.agg (histA f)) (.agg (histA f))).run Try.prog w = .ok true w := by
  have hq : (Try.prog.info? 3).map (fun i => (i.zero, i.size, i.bytes)) = some (some (.int .i64 0), 1, 8) := by kernel_rfl
  obtain ⟨i0, hi, -⟩ := info_parts hq
  rw [show (10000 : Nat) = 9998 + 1 + 1 from rfl, run_equalIn_array w (9998 + 1) (histA f) (histA f) Try.underlying37 hi, cells3]
  exact eqItems_same 9998 f w _ (fun i hi => List.mem_range.1 hi)
/-- The reference's histogram of the first pixels: any number for the channel. -/
def wF (l : List Int) (ch : Int) : Nat → Nat → Int
  | 0 => fun _ => 0
  | k + 1 => bump (wF l ch k) (chI (pix l k) ch).toNat
theorem wF_le (l : List Int) (ch : Int) : ∀ k v, 0 ≤ wF l ch k v ∧ wF l ch k v ≤ k
  | 0, v => ⟨Int.le_refl _, Int.le_refl _⟩
  | k + 1, v => by
    have := wF_le l ch k v
    unfold wF bump
    split <;> omega
theorem chI_ok {c : Col} (h : c.ok) (ch : Int) : 0 ≤ chI c ch ∧ chI c ch ≤ 255 := by
  obtain ⟨h0, h1, h2, h3⟩ := h
  unfold chI
  split
  · exact h0
  · split
    · exact h1
    · split
      · exact h2
      · exact h3
theorem wF_hF (l : List Int) (ch : Nat) (h : ch < 4) : ∀ k, wF l (ch : Nat) k = hF l ch k
  | 0 => rfl
  | k + 1 => by
    unfold wF hF
    rw [wF_hF l ch h k]
    match ch, h with
    | 0, _ => rfl
    | 1, _ => rfl
    | 2, _ => rfl
    | 3, _ => rfl
end Go.Proofs.Ytkjnheikimpliaa
