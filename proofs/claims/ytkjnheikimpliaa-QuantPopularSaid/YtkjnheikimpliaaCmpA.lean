/- cmp: channels, the box's small methods, alike. -/
import Derived.Test.YtkjnheikimpliaaEach
import Derived.BigRegion
namespace Go.Proofs.Ytkjnheikimpliaa
set_option linter.unusedVariables false
set_option linter.unusedSimpArgs false
open Go.RowKit
attribute [local go_sem ↓] Go.wp_at_zero Go.wp_at_succ

theorem channels_any (c : Col) (w : World) : Calls Try.prog 97 #[colV c] w fun e w' => e = .returned (.agg #[.int .u8 c.r, .int .u8 c.g, .int .u8 c.b, .int .u8 c.a]) ∧ Below w.heap.size w w' := by
  go_enter Try.func97, Try.ntmps97
  go_wp2
  refine bodyPost_ret (v := .agg #[.int .u8 c.r, .int .u8 c.g, .int .u8 c.b, .int .u8 c.a]) (by simp [results, Try.results97, go_sem]) rfl ⟨rfl, ?_⟩
  repeat (first | (with_reducible exact Below.refl _ _) | (with_reducible refine bset ?_ _ _ (by omega) _) | (with_reducible refine balloc ?_ _))

theorem below_drewN (w : World) (n : Nat) : Below w.heap.size w (w.drewN n) := by
  induction n with
  | zero => exact Below.refl _ _
  | succ n ih => exact ih.drew
/-- A box, as cells. -/
structure Bx where
  l : Int
  t : Int
  r : Int
  b : Int
  some : Bool
abbrev Bx.cells (b : Bx) : Array Value := #[.int .i64 b.l, .int .i64 b.t, .int .i64 b.r, .int .i64 b.b, .bool b.some]
/-- A place put into a box. -/
def Bx.add (b : Bx) (x y : Int) : Bx := if b.some then ⟨min b.l x, min b.t y, max b.r x, max b.b y, true⟩ else ⟨x, y, x, y, true⟩

set_option maxHeartbeats 2000000 in
theorem bxadd_any (g : Nat) (b : Bx) (x y : Int) (w : World) (hB : Blk w g 124 b.cells) :
    Calls Try.prog 125 #[.pointer (some ⟨g, 0, none⟩), .int .i64 x, .int .i64 y] w fun e w' => e = .returned (.tuple #[]) ∧ Blk w' g 124 (b.add x y).cells ∧ w'.heap.size = w.heap.size ∧ (∀ k, k ≠ g → w'.heap[k]? = w.heap[k]?) ∧ ∀ B, B ≤ g → Below B w w' := by
  obtain ⟨l, t, r, bo, s⟩ := b
  have m0 := hB.cell 0
  have m1 := hB.cell 1
  have m2 := hB.cell 2
  have m3 := hB.cell 3
  have m4 := hB.cell 4
  have f0 := hB.frozen 0
  have f1 := hB.frozen 1
  have f2 := hB.frozen 2
  have f3 := hB.frozen 3
  have f4 := hB.frozen 4
  simp only [List.getElem?_toArray, List.getElem?_cons_succ, List.getElem?_cons_zero] at m0 m1 m2 m3 m4
  have HB := hide hB
  clear hB
  cases s
  · go_enter Try.func125, Try.ntmps125
    go_wp2
    refine bodyPost_ret (v := .tuple #[]) (by simp [results, Try.results125, go_sem]) rfl ⟨rfl, ?_, by simp [World.setCell], fun k hk => ?_, fun B hB => (((((Below.refl B w).setCell (p := ⟨g, 0, none⟩) hB _).setCell (p := ⟨g, 1, none⟩) hB _).setCell (p := ⟨g, 2, none⟩) hB _).setCell (p := ⟨g, 3, none⟩) hB _).setCell (p := ⟨g, 4, none⟩) hB _⟩
    · have := ((((HB.out.set_ 0 (.int .i64 x)).set_ 1 (.int .i64 y)).set_ 2 (.int .i64 x)).set_ 3 (.int .i64 y)).set_ 4 (.bool true)
      simpa [Bx.add] using this
    · repeat rw [Below.heap_setCell _ _ _ _ hk]
  · go_enter Try.func125, Try.ntmps125
    go_wp2_with fail
    go_region
    have hB1 : Blk ((w.setCell ⟨g, 0, none⟩ (.int .i64 (min l x))).setCell ⟨g, 1, none⟩ (.int .i64 (min t y))).drew g 124 #[.int .i64 (min l x), .int .i64 (min t y), .int .i64 r, .int .i64 bo, .bool true] := by
      refine Blk.same (w := (w.setCell ⟨g, 0, none⟩ (.int .i64 (min l x))).setCell ⟨g, 1, none⟩ (.int .i64 (min t y))) ?_ rfl
      have := (HB.out.set_ 0 (.int .i64 (min l x))).set_ 1 (.int .i64 (min t y))
      simpa using this
    have hk1 : ∀ k, k ≠ g → ((w.setCell ⟨g, 0, none⟩ (.int .i64 (min l x))).setCell ⟨g, 1, none⟩ (.int .i64 (min t y))).drew.heap[k]? = w.heap[k]? := fun k hk => by
      show ((w.setCell ⟨g, 0, none⟩ (.int .i64 (min l x))).setCell ⟨g, 1, none⟩ (.int .i64 (min t y))).heap[k]? = _
      repeat rw [Below.heap_setCell _ _ _ _ hk]
    have hs1 : ((w.setCell ⟨g, 0, none⟩ (.int .i64 (min l x))).setCell ⟨g, 1, none⟩ (.int .i64 (min t y))).drew.heap.size = w.heap.size := by
      show ((w.setCell ⟨g, 0, none⟩ (.int .i64 (min l x))).setCell ⟨g, 1, none⟩ (.int .i64 (min t y))).heap.size = _
      simp [World.setCell]
    have hw1 : ∀ B, B ≤ g → Below B w ((w.setCell ⟨g, 0, none⟩ (.int .i64 (min l x))).setCell ⟨g, 1, none⟩ (.int .i64 (min t y))).drew := fun B hB => (((Below.refl B w).setCell (p := ⟨g, 0, none⟩) hB _).setCell (p := ⟨g, 1, none⟩) hB _).drew
    generalize ((w.setCell ⟨g, 0, none⟩ (.int .i64 (min l x))).setCell ⟨g, 1, none⟩ (.int .i64 (min t y))).drew = w1 at hB1 hk1 hs1 hw1 ⊢
    have m2 := hB1.cell 2
    have m3 := hB1.cell 3
    have m4 := hB1.cell 4
    have f2 := hB1.frozen 2
    have f3 := hB1.frozen 3
    simp only [List.getElem?_toArray, List.getElem?_cons_succ, List.getElem?_cons_zero] at m2 m3 m4
    have HB1 := hide hB1
    have HK1 := hide hk1
    have HS1 := hide hs1
    have HW1 := hide hw1
    clear hB1 hk1 hs1 hw1
    go_wp2_with fail
    go_region
    go_wp2_with fail
    go_end0
    refine ⟨rfl, ?_, ?_, fun k hk => ?_, fun B hB => (((HW1.out B hB).setCell (p := ⟨g, 2, none⟩) hB _).setCell (p := ⟨g, 3, none⟩) hB _).drew⟩
    · refine Blk.same (w := (w1.setCell ⟨g, 2, none⟩ (.int .i64 (max r x))).setCell ⟨g, 3, none⟩ (.int .i64 (max bo y))) ?_ rfl
      have := (HB1.out.set_ 2 (.int .i64 (max r x))).set_ 3 (.int .i64 (max bo y))
      simpa [Bx.add] using this
    · show ((w1.setCell ⟨g, 2, none⟩ (.int .i64 (max r x))).setCell ⟨g, 3, none⟩ (.int .i64 (max bo y))).heap.size = _
      simpa [World.setCell] using HS1.out
    · show ((w1.setCell ⟨g, 2, none⟩ (.int .i64 (max r x))).setCell ⟨g, 3, none⟩ (.int .i64 (max bo y))).heap[k]? = _
      repeat rw [Below.heap_setCell _ _ _ _ hk]
      exact HK1.out k hk

theorem sides_any (g : Nat) (b : Bx) (w : World) (hB : Blk w g 124 b.cells) :
    Calls Try.prog 127 #[.pointer (some ⟨g, 0, none⟩)] w fun e w' => e = .returned (if b.some then .tuple #[.int .i64 b.l, .int .i64 b.t, .int .i64 (wrap64 (wrap64 (b.r - b.l) + 1)), .int .i64 (wrap64 (wrap64 (b.b - b.t) + 1))] else .tuple #[.int .i64 0, .int .i64 0, .int .i64 0, .int .i64 0]) ∧ Below w.heap.size w w' := by
  obtain ⟨l, t, r, bo, s⟩ := b
  have m0 := hB.cell 0
  have m1 := hB.cell 1
  have m2 := hB.cell 2
  have m3 := hB.cell 3
  have m4 := hB.cell 4
  simp only [List.getElem?_toArray, List.getElem?_cons_succ, List.getElem?_cons_zero] at m0 m1 m2 m3 m4
  clear hB
  cases s
  · go_enter Try.func127, Try.ntmps127
    go_wp2
    exact bodyPost_ret (v := .tuple #[.int .i64 0, .int .i64 0, .int .i64 0, .int .i64 0]) (by simp [results, Try.results127, go_sem]) rfl ⟨rfl, Below.refl _ _⟩
  · go_enter Try.func127, Try.ntmps127
    go_wp2_with fail
    go_quiet (fail)
    go_wp2
    exact bodyPost_ret (v := .tuple #[.int .i64 l, .int .i64 t, .int .i64 (wrap64 (wrap64 (r - l) + 1)), .int .i64 (wrap64 (wrap64 (bo - t) + 1))]) (by simp [results, Try.results127, go_sem]) rfl ⟨rfl, below_drewN _ _⟩
end Go.Proofs.Ytkjnheikimpliaa
