/- Colours as a map's keys. -/
import Derived.Test.YtkjnheikimpliaaFarC
import Derived.Test.YtkjnheikimpliaaOpen
import Derived.Maps.OwnSet
import Derived.Maps.OwnOps
import Derived.DeepKeys4
namespace Go.Proofs.Ytkjnheikimpliaa
set_option linter.unusedVariables false
set_option linter.unusedSimpArgs false
open Go.RowKit Go.Maps Go.MapKept Go.ChangeMaps
theorem row36 : (36 : TypeId) < Try.prog.types.size := of_decide_eq_true (by kernel_rfl)
theorem wide36 : (match Try.prog.underlying 36 with | some (.array _ _) | some (.struct _) => true | _ => false) = true := by kernel_rfl
set_option maxRecDepth 100000 in
theorem law36 : Keyed Try.prog 36 := Keyed.of_law (deep_law_laid tryLaidOut (m := 2) (by omega) row36 (by kernel_rfl) wide36)
theorem cells36' : Try.prog.cellsOf 36 = 4 := by kernel_rfl
theorem cells5' : Try.prog.cellsOf 5 = 1 := by kernel_rfl
theorem formed36 (c : Col) : (colV c).formed Try.prog 36 = true := by simp [Value.formed, Try.underlying36, cells36']
theorem size_types : ∃ m, Try.prog.types.size = m + 1 := by
  have h := row36
  revert h
  generalize Try.prog.types.size = n
  intro h
  cases n with
  | zero => exact absurd h (Nat.not_lt_zero _)
  | succ n => exact ⟨n, rfl⟩
theorem keyType36 : Try.prog.keyType 36 = true := by kernel_rfl
/-- What a colour reads as, as a key. -/
abbrev colK (c : Col) : Lit := .string (keyBytes [.int .u8 c.r, .int .u8 c.g, .int .u8 c.b, .int .u8 c.a])
theorem keyCol {c : Col} (hc : c.ok) : keyOf Try.prog 36 (colV c) = some (colK c) := by
  obtain ⟨⟨a0, a1⟩, ⟨b0, b1⟩, ⟨c0, c1⟩, d0, d1⟩ := hc
  obtain ⟨m, hm⟩ := size_types
  have e0 : IntKind.u8.min = 0 := rfl
  have e1 : IntKind.u8.max = 255 := rfl
  unfold keyOf
  simp only [Try.underlying36]
  rw [if_pos (by simp [keyType36, formed36]), hm]
  unfold Program.keyLits
  simp only [Try.underlying36, Value.cells]
  rw [if_pos (by simp [cells36'])]
  simp [Program.keyLits, Try.underlying5, cells5', Lit.wf, *]
theorem colV_inj {c d : Col} (h : colV c = colV d) : c = d := by
  cases c; cases d
  simp [colV] at h
  simp [h]
theorem colK_ne {c d : Col} (hc : c.ok) (hd : d.ok) (h : c ≠ d) : colK c ≠ colK d := fun e => by
  have h1 := keyCol hc
  have h2 := keyCol hd
  rw [e] at h1
  exact h (colV_inj (law36.inj h1 h2))
theorem zero3 (w : World) : (zeroValue 3).run Try.prog w = .ok (.int .i64 0) w := by kernel_rfl
end Go.Proofs.Ytkjnheikimpliaa
