/- cmp.Histogram, its function value: one pixel more. -/
import Derived.Test.YtkjnheikimpliaaCntC
import Derived.Deep.MidRow
import Derived.Laws.Tables
namespace Go.Proofs.Ytkjnheikimpliaa
set_option linter.unusedVariables false
set_option linter.unusedSimpArgs false
open Go.RowKit
attribute [local go_sem ↓] Go.wp_at_zero Go.wp_at_succ

/-- 256 numbers, as an array's cells. -/
def histA (f : Nat → Int) : Array Value := ((List.range 256).map fun v => Value.int .i64 (f v)).toArray
theorem histA_size (f : Nat → Int) : (histA f).size = 256 := by simp [histA]
theorem histA_at (f : Nat → Int) (j : Nat) (hj : j < 256) : (histA f)[j]? = some (.int .i64 (f j)) := by simp [histA, hj]
/-- One more of a number. -/
def bump (f : Nat → Int) (j : Nat) : Nat → Int := fun v => if v = j then f v + 1 else f v
theorem histA_set (f : Nat → Int) (j : Nat) (hj : j < 256) : (histA f).setIfInBounds j (.int .i64 (f j + 1)) = histA (bump f j) := by
  apply Array.ext_getElem?
  intro i
  rw [Array.getElem?_setIfInBounds]
  by_cases hi : i < 256
  · by_cases hij : j = i
    · subst hij
      rw [if_pos rfl, if_pos (by rw [histA_size]; exact hj), histA_at _ _ hj]
      simp [bump]
    · rw [if_neg hij, histA_at _ _ hi, histA_at _ _ hi]
      simp [bump, show ¬ i = j from fun e => hij e.symm]
  · have h1 : ∀ f, (histA f)[i]? = none := fun f => by rw [Array.getElem?_eq_none_iff, histA_size]; omega
    by_cases hij : j = i
    · omega
    · rw [if_neg hij, h1, h1]
/-- A channel of a colour. -/
def chV (c : Col) : Nat → Int
  | 0 => c.r
  | 1 => c.g
  | 2 => c.b
  | _ => c.a
theorem hstep {w w2 : World} {g : Nat} (h : Below w.heap.size w w2) (hg : g < w.heap.size) (j : Nat) (v : Value) : w.grownBy (w2.setCell ⟨g, j, none⟩ v) (some g) :=
  ⟨h.os, h.tape, h.output, by simpa using h.size, fun k hk hne => (Below.heap_setCell w2 ⟨g, j, none⟩ v k (by simpa using hne)).trans (h.block k hk)⟩
theorem idx107_0 (r g b a : Int) (w : World) : (Instr.index 107 (.agg #[.int .u8 r, .int .u8 g, .int .u8 b, .int .u8 a]) (.int .i64 0)).run Try.prog w = .ok (.int .u8 r) w := by kernel_rfl
theorem idx107_1 (r g b a : Int) (w : World) : (Instr.index 107 (.agg #[.int .u8 r, .int .u8 g, .int .u8 b, .int .u8 a]) (.int .i64 1)).run Try.prog w = .ok (.int .u8 g) w := by kernel_rfl
theorem idx107_2 (r g b a : Int) (w : World) : (Instr.index 107 (.agg #[.int .u8 r, .int .u8 g, .int .u8 b, .int .u8 a]) (.int .i64 2)).run Try.prog w = .ok (.int .u8 b) w := by kernel_rfl
theorem idx107_3 (r g b a : Int) (w : World) : (Instr.index 107 (.agg #[.int .u8 r, .int .u8 g, .int .u8 b, .int .u8 a]) (.int .i64 3)).run Try.prog w = .ok (.int .u8 a) w := by kernel_rfl

set_option maxRecDepth 100000 in
set_option maxHeartbeats 8000000 in
theorem hist_one0 (w : World) (g gc : Nat) (f : Nat → Int) (r gn bl al : Int) (hf : ∀ v, 0 ≤ f v ∧ f v ≤ 1073741824) (x y : Int) (j : Nat) (hj : j < 256) (hjv : r = j) (hg : Blk w g 37 (histA f)) (hgc : Blk w gc 3 #[.int .i64 0]) (hne : ¬ g = gc) :
    Calls Try.prog 96 #[.int .i64 x, .int .i64 y, colV ⟨r, gn, bl, al⟩, .pointer (some ⟨g, 0, none⟩), .pointer (some ⟨gc, 0, none⟩)] w fun e w' => e = .returned (.tuple #[]) ∧ Blk w' g 37 (histA (bump f j)) ∧ w.grownBy w' (some g) := by
  subst hjv
  have KC := hide fun (w' : World) => channels_any ⟨(j : Int), gn, bl, al⟩ w'
  have hg1 := hg.lt
  have hc0 := hgc.lt
  have ew : IntKind.i64.wrap (f j + 1) = f j + 1 := IntWalk.i64_in _ (by have := hf j; omega)
  have HG := hide hg
  have HGC := hide hgc
  clear hg hgc hf
  go_enter Try.func96, Try.ntmps96
  go_wp2_with fail
  have hB := Blk.new w 36 #[.int .u8 (j : Int), .int .u8 gn, .int .u8 bl, .int .u8 al]
  have hB1 : Blk (w.alloc (.cells #[.int .u8 (j : Int), .int .u8 gn, .int .u8 bl, .int .u8 al] 36)).drew w.heap.size 36 #[.int .u8 (j : Int), .int .u8 gn, .int .u8 bl, .int .u8 al] := hB
  have hV : Below w.heap.size w (w.alloc (.cells #[.int .u8 (j : Int), .int .u8 gn, .int .u8 bl, .int .u8 al] 36)).drew := (below_alloc w _).drew
  have hgc := HGC.out.below hV hc0
  have hgg := HG.out.below hV hg1
  have hc1 := hgc.cell 0
  simp only [List.getElem?_toArray, List.getElem?_cons_zero] at hc1
  obtain ⟨x0, x1, x2, x3, -⟩ := blk4 hB1
  have HG1 := idx107_0
  have q1 : ¬ g = w.heap.size := by omega
  have q2 : ¬ w.heap.size = g := by omega
  have q3 : ¬ gc = g := fun e => hne e.symm
  clear hB
  refine wp_region_noPanic ?_
  refine wp_region_held_drew (S := (fun w' => w'.cell? ⟨w.heap.size, 0, none⟩ = some (.int .u8 (j : Int)) ∧ w'.cell? ⟨w.heap.size, 1, none⟩ = some (.int .u8 gn) ∧ w'.cell? ⟨w.heap.size, 2, none⟩ = some (.int .u8 bl) ∧ w'.cell? ⟨w.heap.size, 3, none⟩ = some (.int .u8 al) ∧ w'.cell? ⟨gc, 0, none⟩ = some (.int .i64 0))) (by kernel_rfl) ?_ (fun hHeld => ?_)
  · ((try dsimp only); exact ⟨x0, x1, x2, x3, hc1⟩)
  generalize (w.alloc (.cells #[.int .u8 (j : Int), .int .u8 gn, .int .u8 bl, .int .u8 al] 36)).drew = V at hHeld hB1 x0 x1 x2 x3 hV HG1 hgc hgg ⊢
  refine wpAnyH_take (i := 0) (v := ?vh0) rfl (by kernel_rfl) (by kernel_rfl) (by kernel_rfl) (fun _ _ _ h => h) (Or.inl ⟨by rfl, ?hyh0⟩) (by assumption) ?resth0
  case hyh0 => (intro w hSw; (try dsimp only at hSw); go_simp; try with_reducible rfl)
  try simp only [Act.put, List.setIfInBounds_toArray, List.set_cons_zero, List.set_cons_succ, List.getElem_toArray, List.getElem_cons_succ, List.getElem_cons_zero]
  refine wpAnyH_take (i := 2) (v := ?vh2) rfl (by kernel_rfl) (by kernel_rfl) (by kernel_rfl) (fun _ _ _ h => h) (Or.inl ⟨by rfl, ?hyh2⟩) (by assumption) ?resth2
  case hyh2 => (intro w hSw; (try dsimp only at hSw); go_simp; try with_reducible rfl)
  try simp only [Act.put, List.setIfInBounds_toArray, List.set_cons_zero, List.set_cons_succ, List.getElem_toArray, List.getElem_cons_succ, List.getElem_cons_zero]
  refine wpAnyH_ready (rs := [1]) (by kernel_rfl) (by simp) ?_
  refine AllReadyH.cons rfl (fun K hK => ?_) AllReadyH.nil
  go_simp
  refine (KC.out _).mono ?_
  rintro e w2 ⟨rfl, hb2⟩
  obtain ⟨x0, x1, x2, x3, -⟩ := blk4 (hB1.below hb2 hB1.lt)
  have hc1 := hgc.below hb2 hgc.lt
  have HG2 := hgg.below hb2 hgg.lt
  have hc2 := hc1.cell 0
  have e1 := bstep hV hb2
  have hcell : w2.cell? ⟨g, j, none⟩ = some (.int .i64 (f j)) := by rw [HG2.cell j]; exact histA_at f j hj
  have hfr := HG2.frozen j
  have hjr0 : (0 : Int) ≤ (j : Int) := Int.natCast_nonneg _
  have hjr : (j : Int) < 256 := by omega
  clear hB1 hgc hgg hV hb2
  simp only [List.getElem?_toArray, List.getElem?_cons_zero] at hc2
  go_simp
  refine hK.out _ _ (⟨x0, x1, x2, x3, hc2⟩) (fun hHeld => ?_)
  clear hK K
  try simp only [Act.put, List.setIfInBounds_toArray, List.set_cons_zero, List.set_cons_succ, List.getElem_toArray, List.getElem_cons_succ, List.getElem_cons_zero]
  refine wpAnyH_take (i := 3) (v := ?vh3) rfl (by kernel_rfl) (by kernel_rfl) (by kernel_rfl) (fun _ _ _ h => h) (Or.inl ⟨by rfl, ?hyh3⟩) (by assumption) ?resth3
  case hyh3 => (intro w hSw; (try dsimp only at hSw); go_simp; try with_reducible rfl)
  try simp only [Act.put, List.setIfInBounds_toArray, List.set_cons_zero, List.set_cons_succ, List.getElem_toArray, List.getElem_cons_succ, List.getElem_cons_zero]
  refine wpAnyH_take (i := 4) (v := ?vh4) rfl (by kernel_rfl) (by kernel_rfl) (by kernel_rfl) (fun _ _ _ h => h) (Or.inl ⟨by rfl, ?hyh4⟩) (by assumption) ?resth4
  case hyh4 => (intro w hSw; (try dsimp only at hSw); go_simp; try with_reducible rfl)
  try simp only [Act.put, List.setIfInBounds_toArray, List.set_cons_zero, List.set_cons_succ, List.getElem_toArray, List.getElem_cons_succ, List.getElem_cons_zero]
  refine wpAnyH_ready (rs := [5]) (by kernel_rfl) (by simp) ?_
  refine AllReadyH.cons rfl (fun K hK => ?_) AllReadyH.nil
  go_simp
  refine hK.out _ _ (⟨x0, x1, x2, x3, hc2⟩) (fun hHeld => ?_)
  clear hK K
  try simp only [Act.put, List.setIfInBounds_toArray, List.set_cons_zero, List.set_cons_succ, List.getElem_toArray, List.getElem_cons_succ, List.getElem_cons_zero]
  refine wpAnyH_take (i := 6) (v := ?vh6) rfl (by kernel_rfl) (by kernel_rfl) (by kernel_rfl) (fun _ _ _ h => h) (Or.inl ⟨by rfl, ?hyh6⟩) (by assumption) ?resth6
  case hyh6 => (intro w hSw; (try dsimp only at hSw); go_simp; try with_reducible rfl)
  try simp only [Act.put, List.setIfInBounds_toArray, List.set_cons_zero, List.set_cons_succ, List.getElem_toArray, List.getElem_cons_succ, List.getElem_cons_zero]
  refine wpAnyH_take (i := 7) (v := ?vh7) rfl (by kernel_rfl) (by kernel_rfl) (by kernel_rfl) (fun _ _ _ h => h) (Or.inl ⟨by rfl, ?hyh7⟩) (by assumption) ?resth7
  case hyh7 => (intro w hSw; (try dsimp only at hSw); go_simp; try with_reducible rfl)
  try simp only [Act.put, List.setIfInBounds_toArray, List.set_cons_zero, List.set_cons_succ, List.getElem_toArray, List.getElem_cons_succ, List.getElem_cons_zero]
  refine wpAnyH_ready (rs := [8]) (by kernel_rfl) (by simp) ?_
  refine AllReadyH.cons rfl (fun K hK => ?_) AllReadyH.nil
  go_simp
  refine hK.out _ _ ?_ (fun hHeld => ?_)
  · ((try dsimp only); simp (maxDischargeDepth := 20) [*, World.cell?_alloc_some, World.cell?_setCell_far])
  clear hK K
  try simp only [Act.put, List.setIfInBounds_toArray, List.set_cons_zero, List.set_cons_succ, List.getElem_toArray, List.getElem_cons_succ, List.getElem_cons_zero]
  refine wpAnyH_done (by kernel_rfl) ?_ _
  refine NoPanic.normal ?_
  go_wp2_with fail
  go_end0
  exact ⟨rfl, by have := HG2.set_ j (.int .i64 (f j + 1)); rw [histA_set f j hj] at this; exact this, hstep e1 hg1 j _⟩

set_option maxRecDepth 100000 in
set_option maxHeartbeats 8000000 in
theorem hist_one1 (w : World) (g gc : Nat) (f : Nat → Int) (r gn bl al : Int) (hf : ∀ v, 0 ≤ f v ∧ f v ≤ 1073741824) (x y : Int) (j : Nat) (hj : j < 256) (hjv : gn = j) (hg : Blk w g 37 (histA f)) (hgc : Blk w gc 3 #[.int .i64 1]) (hne : ¬ g = gc) :
    Calls Try.prog 96 #[.int .i64 x, .int .i64 y, colV ⟨r, gn, bl, al⟩, .pointer (some ⟨g, 0, none⟩), .pointer (some ⟨gc, 0, none⟩)] w fun e w' => e = .returned (.tuple #[]) ∧ Blk w' g 37 (histA (bump f j)) ∧ w.grownBy w' (some g) := by
  subst hjv
  have KC := hide fun (w' : World) => channels_any ⟨r, (j : Int), bl, al⟩ w'
  have hg1 := hg.lt
  have hc0 := hgc.lt
  have ew : IntKind.i64.wrap (f j + 1) = f j + 1 := IntWalk.i64_in _ (by have := hf j; omega)
  have HG := hide hg
  have HGC := hide hgc
  clear hg hgc hf
  go_enter Try.func96, Try.ntmps96
  go_wp2_with fail
  have hB := Blk.new w 36 #[.int .u8 r, .int .u8 (j : Int), .int .u8 bl, .int .u8 al]
  have hB1 : Blk (w.alloc (.cells #[.int .u8 r, .int .u8 (j : Int), .int .u8 bl, .int .u8 al] 36)).drew w.heap.size 36 #[.int .u8 r, .int .u8 (j : Int), .int .u8 bl, .int .u8 al] := hB
  have hV : Below w.heap.size w (w.alloc (.cells #[.int .u8 r, .int .u8 (j : Int), .int .u8 bl, .int .u8 al] 36)).drew := (below_alloc w _).drew
  have hgc := HGC.out.below hV hc0
  have hgg := HG.out.below hV hg1
  have hc1 := hgc.cell 0
  simp only [List.getElem?_toArray, List.getElem?_cons_zero] at hc1
  obtain ⟨x0, x1, x2, x3, -⟩ := blk4 hB1
  have HG1 := idx107_1
  have q1 : ¬ g = w.heap.size := by omega
  have q2 : ¬ w.heap.size = g := by omega
  have q3 : ¬ gc = g := fun e => hne e.symm
  clear hB
  refine wp_region_noPanic ?_
  refine wp_region_held_drew (S := (fun w' => w'.cell? ⟨w.heap.size, 0, none⟩ = some (.int .u8 r) ∧ w'.cell? ⟨w.heap.size, 1, none⟩ = some (.int .u8 (j : Int)) ∧ w'.cell? ⟨w.heap.size, 2, none⟩ = some (.int .u8 bl) ∧ w'.cell? ⟨w.heap.size, 3, none⟩ = some (.int .u8 al) ∧ w'.cell? ⟨gc, 0, none⟩ = some (.int .i64 1))) (by kernel_rfl) ?_ (fun hHeld => ?_)
  · ((try dsimp only); exact ⟨x0, x1, x2, x3, hc1⟩)
  generalize (w.alloc (.cells #[.int .u8 r, .int .u8 (j : Int), .int .u8 bl, .int .u8 al] 36)).drew = V at hHeld hB1 x0 x1 x2 x3 hV HG1 hgc hgg ⊢
  refine wpAnyH_take (i := 0) (v := ?vh0) rfl (by kernel_rfl) (by kernel_rfl) (by kernel_rfl) (fun _ _ _ h => h) (Or.inl ⟨by rfl, ?hyh0⟩) (by assumption) ?resth0
  case hyh0 => (intro w hSw; (try dsimp only at hSw); go_simp; try with_reducible rfl)
  try simp only [Act.put, List.setIfInBounds_toArray, List.set_cons_zero, List.set_cons_succ, List.getElem_toArray, List.getElem_cons_succ, List.getElem_cons_zero]
  refine wpAnyH_take (i := 2) (v := ?vh2) rfl (by kernel_rfl) (by kernel_rfl) (by kernel_rfl) (fun _ _ _ h => h) (Or.inl ⟨by rfl, ?hyh2⟩) (by assumption) ?resth2
  case hyh2 => (intro w hSw; (try dsimp only at hSw); go_simp; try with_reducible rfl)
  try simp only [Act.put, List.setIfInBounds_toArray, List.set_cons_zero, List.set_cons_succ, List.getElem_toArray, List.getElem_cons_succ, List.getElem_cons_zero]
  refine wpAnyH_ready (rs := [1]) (by kernel_rfl) (by simp) ?_
  refine AllReadyH.cons rfl (fun K hK => ?_) AllReadyH.nil
  go_simp
  refine (KC.out _).mono ?_
  rintro e w2 ⟨rfl, hb2⟩
  obtain ⟨x0, x1, x2, x3, -⟩ := blk4 (hB1.below hb2 hB1.lt)
  have hc1 := hgc.below hb2 hgc.lt
  have HG2 := hgg.below hb2 hgg.lt
  have hc2 := hc1.cell 0
  have e1 := bstep hV hb2
  have hcell : w2.cell? ⟨g, j, none⟩ = some (.int .i64 (f j)) := by rw [HG2.cell j]; exact histA_at f j hj
  have hfr := HG2.frozen j
  have hjr0 : (0 : Int) ≤ (j : Int) := Int.natCast_nonneg _
  have hjr : (j : Int) < 256 := by omega
  clear hB1 hgc hgg hV hb2
  simp only [List.getElem?_toArray, List.getElem?_cons_zero] at hc2
  go_simp
  refine hK.out _ _ (⟨x0, x1, x2, x3, hc2⟩) (fun hHeld => ?_)
  clear hK K
  try simp only [Act.put, List.setIfInBounds_toArray, List.set_cons_zero, List.set_cons_succ, List.getElem_toArray, List.getElem_cons_succ, List.getElem_cons_zero]
  refine wpAnyH_take (i := 3) (v := ?vh3) rfl (by kernel_rfl) (by kernel_rfl) (by kernel_rfl) (fun _ _ _ h => h) (Or.inl ⟨by rfl, ?hyh3⟩) (by assumption) ?resth3
  case hyh3 => (intro w hSw; (try dsimp only at hSw); go_simp; try with_reducible rfl)
  try simp only [Act.put, List.setIfInBounds_toArray, List.set_cons_zero, List.set_cons_succ, List.getElem_toArray, List.getElem_cons_succ, List.getElem_cons_zero]
  refine wpAnyH_take (i := 4) (v := ?vh4) rfl (by kernel_rfl) (by kernel_rfl) (by kernel_rfl) (fun _ _ _ h => h) (Or.inl ⟨by rfl, ?hyh4⟩) (by assumption) ?resth4
  case hyh4 => (intro w hSw; (try dsimp only at hSw); go_simp; try with_reducible rfl)
  try simp only [Act.put, List.setIfInBounds_toArray, List.set_cons_zero, List.set_cons_succ, List.getElem_toArray, List.getElem_cons_succ, List.getElem_cons_zero]
  refine wpAnyH_ready (rs := [5]) (by kernel_rfl) (by simp) ?_
  refine AllReadyH.cons rfl (fun K hK => ?_) AllReadyH.nil
  go_simp
  refine hK.out _ _ (⟨x0, x1, x2, x3, hc2⟩) (fun hHeld => ?_)
  clear hK K
  try simp only [Act.put, List.setIfInBounds_toArray, List.set_cons_zero, List.set_cons_succ, List.getElem_toArray, List.getElem_cons_succ, List.getElem_cons_zero]
  refine wpAnyH_take (i := 6) (v := ?vh6) rfl (by kernel_rfl) (by kernel_rfl) (by kernel_rfl) (fun _ _ _ h => h) (Or.inl ⟨by rfl, ?hyh6⟩) (by assumption) ?resth6
  case hyh6 => (intro w hSw; (try dsimp only at hSw); go_simp; try with_reducible rfl)
  try simp only [Act.put, List.setIfInBounds_toArray, List.set_cons_zero, List.set_cons_succ, List.getElem_toArray, List.getElem_cons_succ, List.getElem_cons_zero]
  refine wpAnyH_take (i := 7) (v := ?vh7) rfl (by kernel_rfl) (by kernel_rfl) (by kernel_rfl) (fun _ _ _ h => h) (Or.inl ⟨by rfl, ?hyh7⟩) (by assumption) ?resth7
  case hyh7 => (intro w hSw; (try dsimp only at hSw); go_simp; try with_reducible rfl)
  try simp only [Act.put, List.setIfInBounds_toArray, List.set_cons_zero, List.set_cons_succ, List.getElem_toArray, List.getElem_cons_succ, List.getElem_cons_zero]
  refine wpAnyH_ready (rs := [8]) (by kernel_rfl) (by simp) ?_
  refine AllReadyH.cons rfl (fun K hK => ?_) AllReadyH.nil
  go_simp
  refine hK.out _ _ ?_ (fun hHeld => ?_)
  · ((try dsimp only); simp (maxDischargeDepth := 20) [*, World.cell?_alloc_some, World.cell?_setCell_far])
  clear hK K
  try simp only [Act.put, List.setIfInBounds_toArray, List.set_cons_zero, List.set_cons_succ, List.getElem_toArray, List.getElem_cons_succ, List.getElem_cons_zero]
  refine wpAnyH_done (by kernel_rfl) ?_ _
  refine NoPanic.normal ?_
  go_wp2_with fail
  go_end0
  exact ⟨rfl, by have := HG2.set_ j (.int .i64 (f j + 1)); rw [histA_set f j hj] at this; exact this, hstep e1 hg1 j _⟩

set_option maxRecDepth 100000 in
set_option maxHeartbeats 8000000 in
theorem hist_one2 (w : World) (g gc : Nat) (f : Nat → Int) (r gn bl al : Int) (hf : ∀ v, 0 ≤ f v ∧ f v ≤ 1073741824) (x y : Int) (j : Nat) (hj : j < 256) (hjv : bl = j) (hg : Blk w g 37 (histA f)) (hgc : Blk w gc 3 #[.int .i64 2]) (hne : ¬ g = gc) :
    Calls Try.prog 96 #[.int .i64 x, .int .i64 y, colV ⟨r, gn, bl, al⟩, .pointer (some ⟨g, 0, none⟩), .pointer (some ⟨gc, 0, none⟩)] w fun e w' => e = .returned (.tuple #[]) ∧ Blk w' g 37 (histA (bump f j)) ∧ w.grownBy w' (some g) := by
  subst hjv
  have KC := hide fun (w' : World) => channels_any ⟨r, gn, (j : Int), al⟩ w'
  have hg1 := hg.lt
  have hc0 := hgc.lt
  have ew : IntKind.i64.wrap (f j + 1) = f j + 1 := IntWalk.i64_in _ (by have := hf j; omega)
  have HG := hide hg
  have HGC := hide hgc
  clear hg hgc hf
  go_enter Try.func96, Try.ntmps96
  go_wp2_with fail
  have hB := Blk.new w 36 #[.int .u8 r, .int .u8 gn, .int .u8 (j : Int), .int .u8 al]
  have hB1 : Blk (w.alloc (.cells #[.int .u8 r, .int .u8 gn, .int .u8 (j : Int), .int .u8 al] 36)).drew w.heap.size 36 #[.int .u8 r, .int .u8 gn, .int .u8 (j : Int), .int .u8 al] := hB
  have hV : Below w.heap.size w (w.alloc (.cells #[.int .u8 r, .int .u8 gn, .int .u8 (j : Int), .int .u8 al] 36)).drew := (below_alloc w _).drew
  have hgc := HGC.out.below hV hc0
  have hgg := HG.out.below hV hg1
  have hc1 := hgc.cell 0
  simp only [List.getElem?_toArray, List.getElem?_cons_zero] at hc1
  obtain ⟨x0, x1, x2, x3, -⟩ := blk4 hB1
  have HG1 := idx107_2
  have q1 : ¬ g = w.heap.size := by omega
  have q2 : ¬ w.heap.size = g := by omega
  have q3 : ¬ gc = g := fun e => hne e.symm
  clear hB
  refine wp_region_noPanic ?_
  refine wp_region_held_drew (S := (fun w' => w'.cell? ⟨w.heap.size, 0, none⟩ = some (.int .u8 r) ∧ w'.cell? ⟨w.heap.size, 1, none⟩ = some (.int .u8 gn) ∧ w'.cell? ⟨w.heap.size, 2, none⟩ = some (.int .u8 (j : Int)) ∧ w'.cell? ⟨w.heap.size, 3, none⟩ = some (.int .u8 al) ∧ w'.cell? ⟨gc, 0, none⟩ = some (.int .i64 2))) (by kernel_rfl) ?_ (fun hHeld => ?_)
  · ((try dsimp only); exact ⟨x0, x1, x2, x3, hc1⟩)
  generalize (w.alloc (.cells #[.int .u8 r, .int .u8 gn, .int .u8 (j : Int), .int .u8 al] 36)).drew = V at hHeld hB1 x0 x1 x2 x3 hV HG1 hgc hgg ⊢
  refine wpAnyH_take (i := 0) (v := ?vh0) rfl (by kernel_rfl) (by kernel_rfl) (by kernel_rfl) (fun _ _ _ h => h) (Or.inl ⟨by rfl, ?hyh0⟩) (by assumption) ?resth0
  case hyh0 => (intro w hSw; (try dsimp only at hSw); go_simp; try with_reducible rfl)
  try simp only [Act.put, List.setIfInBounds_toArray, List.set_cons_zero, List.set_cons_succ, List.getElem_toArray, List.getElem_cons_succ, List.getElem_cons_zero]
  refine wpAnyH_take (i := 2) (v := ?vh2) rfl (by kernel_rfl) (by kernel_rfl) (by kernel_rfl) (fun _ _ _ h => h) (Or.inl ⟨by rfl, ?hyh2⟩) (by assumption) ?resth2
  case hyh2 => (intro w hSw; (try dsimp only at hSw); go_simp; try with_reducible rfl)
  try simp only [Act.put, List.setIfInBounds_toArray, List.set_cons_zero, List.set_cons_succ, List.getElem_toArray, List.getElem_cons_succ, List.getElem_cons_zero]
  refine wpAnyH_ready (rs := [1]) (by kernel_rfl) (by simp) ?_
  refine AllReadyH.cons rfl (fun K hK => ?_) AllReadyH.nil
  go_simp
  refine (KC.out _).mono ?_
  rintro e w2 ⟨rfl, hb2⟩
  obtain ⟨x0, x1, x2, x3, -⟩ := blk4 (hB1.below hb2 hB1.lt)
  have hc1 := hgc.below hb2 hgc.lt
  have HG2 := hgg.below hb2 hgg.lt
  have hc2 := hc1.cell 0
  have e1 := bstep hV hb2
  have hcell : w2.cell? ⟨g, j, none⟩ = some (.int .i64 (f j)) := by rw [HG2.cell j]; exact histA_at f j hj
  have hfr := HG2.frozen j
  have hjr0 : (0 : Int) ≤ (j : Int) := Int.natCast_nonneg _
  have hjr : (j : Int) < 256 := by omega
  clear hB1 hgc hgg hV hb2
  simp only [List.getElem?_toArray, List.getElem?_cons_zero] at hc2
  go_simp
  refine hK.out _ _ (⟨x0, x1, x2, x3, hc2⟩) (fun hHeld => ?_)
  clear hK K
  try simp only [Act.put, List.setIfInBounds_toArray, List.set_cons_zero, List.set_cons_succ, List.getElem_toArray, List.getElem_cons_succ, List.getElem_cons_zero]
  refine wpAnyH_take (i := 3) (v := ?vh3) rfl (by kernel_rfl) (by kernel_rfl) (by kernel_rfl) (fun _ _ _ h => h) (Or.inl ⟨by rfl, ?hyh3⟩) (by assumption) ?resth3
  case hyh3 => (intro w hSw; (try dsimp only at hSw); go_simp; try with_reducible rfl)
  try simp only [Act.put, List.setIfInBounds_toArray, List.set_cons_zero, List.set_cons_succ, List.getElem_toArray, List.getElem_cons_succ, List.getElem_cons_zero]
  refine wpAnyH_take (i := 4) (v := ?vh4) rfl (by kernel_rfl) (by kernel_rfl) (by kernel_rfl) (fun _ _ _ h => h) (Or.inl ⟨by rfl, ?hyh4⟩) (by assumption) ?resth4
  case hyh4 => (intro w hSw; (try dsimp only at hSw); go_simp; try with_reducible rfl)
  try simp only [Act.put, List.setIfInBounds_toArray, List.set_cons_zero, List.set_cons_succ, List.getElem_toArray, List.getElem_cons_succ, List.getElem_cons_zero]
  refine wpAnyH_ready (rs := [5]) (by kernel_rfl) (by simp) ?_
  refine AllReadyH.cons rfl (fun K hK => ?_) AllReadyH.nil
  go_simp
  refine hK.out _ _ (⟨x0, x1, x2, x3, hc2⟩) (fun hHeld => ?_)
  clear hK K
  try simp only [Act.put, List.setIfInBounds_toArray, List.set_cons_zero, List.set_cons_succ, List.getElem_toArray, List.getElem_cons_succ, List.getElem_cons_zero]
  refine wpAnyH_take (i := 6) (v := ?vh6) rfl (by kernel_rfl) (by kernel_rfl) (by kernel_rfl) (fun _ _ _ h => h) (Or.inl ⟨by rfl, ?hyh6⟩) (by assumption) ?resth6
  case hyh6 => (intro w hSw; (try dsimp only at hSw); go_simp; try with_reducible rfl)
  try simp only [Act.put, List.setIfInBounds_toArray, List.set_cons_zero, List.set_cons_succ, List.getElem_toArray, List.getElem_cons_succ, List.getElem_cons_zero]
  refine wpAnyH_take (i := 7) (v := ?vh7) rfl (by kernel_rfl) (by kernel_rfl) (by kernel_rfl) (fun _ _ _ h => h) (Or.inl ⟨by rfl, ?hyh7⟩) (by assumption) ?resth7
  case hyh7 => (intro w hSw; (try dsimp only at hSw); go_simp; try with_reducible rfl)
  try simp only [Act.put, List.setIfInBounds_toArray, List.set_cons_zero, List.set_cons_succ, List.getElem_toArray, List.getElem_cons_succ, List.getElem_cons_zero]
  refine wpAnyH_ready (rs := [8]) (by kernel_rfl) (by simp) ?_
  refine AllReadyH.cons rfl (fun K hK => ?_) AllReadyH.nil
  go_simp
  refine hK.out _ _ ?_ (fun hHeld => ?_)
  · ((try dsimp only); simp (maxDischargeDepth := 20) [*, World.cell?_alloc_some, World.cell?_setCell_far])
  clear hK K
  try simp only [Act.put, List.setIfInBounds_toArray, List.set_cons_zero, List.set_cons_succ, List.getElem_toArray, List.getElem_cons_succ, List.getElem_cons_zero]
  refine wpAnyH_done (by kernel_rfl) ?_ _
  refine NoPanic.normal ?_
  go_wp2_with fail
  go_end0
  exact ⟨rfl, by have := HG2.set_ j (.int .i64 (f j + 1)); rw [histA_set f j hj] at this; exact this, hstep e1 hg1 j _⟩

set_option maxRecDepth 100000 in
set_option maxHeartbeats 8000000 in
theorem hist_one3 (w : World) (g gc : Nat) (f : Nat → Int) (r gn bl al : Int) (hf : ∀ v, 0 ≤ f v ∧ f v ≤ 1073741824) (x y : Int) (j : Nat) (hj : j < 256) (hjv : al = j) (hg : Blk w g 37 (histA f)) (hgc : Blk w gc 3 #[.int .i64 3]) (hne : ¬ g = gc) :
    Calls Try.prog 96 #[.int .i64 x, .int .i64 y, colV ⟨r, gn, bl, al⟩, .pointer (some ⟨g, 0, none⟩), .pointer (some ⟨gc, 0, none⟩)] w fun e w' => e = .returned (.tuple #[]) ∧ Blk w' g 37 (histA (bump f j)) ∧ w.grownBy w' (some g) := by
  subst hjv
  have KC := hide fun (w' : World) => channels_any ⟨r, gn, bl, (j : Int)⟩ w'
  have hg1 := hg.lt
  have hc0 := hgc.lt
  have ew : IntKind.i64.wrap (f j + 1) = f j + 1 := IntWalk.i64_in _ (by have := hf j; omega)
  have HG := hide hg
  have HGC := hide hgc
  clear hg hgc hf
  go_enter Try.func96, Try.ntmps96
  go_wp2_with fail
  have hB := Blk.new w 36 #[.int .u8 r, .int .u8 gn, .int .u8 bl, .int .u8 (j : Int)]
  have hB1 : Blk (w.alloc (.cells #[.int .u8 r, .int .u8 gn, .int .u8 bl, .int .u8 (j : Int)] 36)).drew w.heap.size 36 #[.int .u8 r, .int .u8 gn, .int .u8 bl, .int .u8 (j : Int)] := hB
  have hV : Below w.heap.size w (w.alloc (.cells #[.int .u8 r, .int .u8 gn, .int .u8 bl, .int .u8 (j : Int)] 36)).drew := (below_alloc w _).drew
  have hgc := HGC.out.below hV hc0
  have hgg := HG.out.below hV hg1
  have hc1 := hgc.cell 0
  simp only [List.getElem?_toArray, List.getElem?_cons_zero] at hc1
  obtain ⟨x0, x1, x2, x3, -⟩ := blk4 hB1
  have HG1 := idx107_3
  have q1 : ¬ g = w.heap.size := by omega
  have q2 : ¬ w.heap.size = g := by omega
  have q3 : ¬ gc = g := fun e => hne e.symm
  clear hB
  refine wp_region_noPanic ?_
  refine wp_region_held_drew (S := (fun w' => w'.cell? ⟨w.heap.size, 0, none⟩ = some (.int .u8 r) ∧ w'.cell? ⟨w.heap.size, 1, none⟩ = some (.int .u8 gn) ∧ w'.cell? ⟨w.heap.size, 2, none⟩ = some (.int .u8 bl) ∧ w'.cell? ⟨w.heap.size, 3, none⟩ = some (.int .u8 (j : Int)) ∧ w'.cell? ⟨gc, 0, none⟩ = some (.int .i64 3))) (by kernel_rfl) ?_ (fun hHeld => ?_)
  · ((try dsimp only); exact ⟨x0, x1, x2, x3, hc1⟩)
  generalize (w.alloc (.cells #[.int .u8 r, .int .u8 gn, .int .u8 bl, .int .u8 (j : Int)] 36)).drew = V at hHeld hB1 x0 x1 x2 x3 hV HG1 hgc hgg ⊢
  refine wpAnyH_take (i := 0) (v := ?vh0) rfl (by kernel_rfl) (by kernel_rfl) (by kernel_rfl) (fun _ _ _ h => h) (Or.inl ⟨by rfl, ?hyh0⟩) (by assumption) ?resth0
  case hyh0 => (intro w hSw; (try dsimp only at hSw); go_simp; try with_reducible rfl)
  try simp only [Act.put, List.setIfInBounds_toArray, List.set_cons_zero, List.set_cons_succ, List.getElem_toArray, List.getElem_cons_succ, List.getElem_cons_zero]
  refine wpAnyH_take (i := 2) (v := ?vh2) rfl (by kernel_rfl) (by kernel_rfl) (by kernel_rfl) (fun _ _ _ h => h) (Or.inl ⟨by rfl, ?hyh2⟩) (by assumption) ?resth2
  case hyh2 => (intro w hSw; (try dsimp only at hSw); go_simp; try with_reducible rfl)
  try simp only [Act.put, List.setIfInBounds_toArray, List.set_cons_zero, List.set_cons_succ, List.getElem_toArray, List.getElem_cons_succ, List.getElem_cons_zero]
  refine wpAnyH_ready (rs := [1]) (by kernel_rfl) (by simp) ?_
  refine AllReadyH.cons rfl (fun K hK => ?_) AllReadyH.nil
  go_simp
  refine (KC.out _).mono ?_
  rintro e w2 ⟨rfl, hb2⟩
  obtain ⟨x0, x1, x2, x3, -⟩ := blk4 (hB1.below hb2 hB1.lt)
  have hc1 := hgc.below hb2 hgc.lt
  have HG2 := hgg.below hb2 hgg.lt
  have hc2 := hc1.cell 0
  have e1 := bstep hV hb2
  have hcell : w2.cell? ⟨g, j, none⟩ = some (.int .i64 (f j)) := by rw [HG2.cell j]; exact histA_at f j hj
  have hfr := HG2.frozen j
  have hjr0 : (0 : Int) ≤ (j : Int) := Int.natCast_nonneg _
  have hjr : (j : Int) < 256 := by omega
  clear hB1 hgc hgg hV hb2
  simp only [List.getElem?_toArray, List.getElem?_cons_zero] at hc2
  go_simp
  refine hK.out _ _ (⟨x0, x1, x2, x3, hc2⟩) (fun hHeld => ?_)
  clear hK K
  try simp only [Act.put, List.setIfInBounds_toArray, List.set_cons_zero, List.set_cons_succ, List.getElem_toArray, List.getElem_cons_succ, List.getElem_cons_zero]
  refine wpAnyH_take (i := 3) (v := ?vh3) rfl (by kernel_rfl) (by kernel_rfl) (by kernel_rfl) (fun _ _ _ h => h) (Or.inl ⟨by rfl, ?hyh3⟩) (by assumption) ?resth3
  case hyh3 => (intro w hSw; (try dsimp only at hSw); go_simp; try with_reducible rfl)
  try simp only [Act.put, List.setIfInBounds_toArray, List.set_cons_zero, List.set_cons_succ, List.getElem_toArray, List.getElem_cons_succ, List.getElem_cons_zero]
  refine wpAnyH_take (i := 4) (v := ?vh4) rfl (by kernel_rfl) (by kernel_rfl) (by kernel_rfl) (fun _ _ _ h => h) (Or.inl ⟨by rfl, ?hyh4⟩) (by assumption) ?resth4
  case hyh4 => (intro w hSw; (try dsimp only at hSw); go_simp; try with_reducible rfl)
  try simp only [Act.put, List.setIfInBounds_toArray, List.set_cons_zero, List.set_cons_succ, List.getElem_toArray, List.getElem_cons_succ, List.getElem_cons_zero]
  refine wpAnyH_ready (rs := [5]) (by kernel_rfl) (by simp) ?_
  refine AllReadyH.cons rfl (fun K hK => ?_) AllReadyH.nil
  go_simp
  refine hK.out _ _ (⟨x0, x1, x2, x3, hc2⟩) (fun hHeld => ?_)
  clear hK K
  try simp only [Act.put, List.setIfInBounds_toArray, List.set_cons_zero, List.set_cons_succ, List.getElem_toArray, List.getElem_cons_succ, List.getElem_cons_zero]
  refine wpAnyH_take (i := 6) (v := ?vh6) rfl (by kernel_rfl) (by kernel_rfl) (by kernel_rfl) (fun _ _ _ h => h) (Or.inl ⟨by rfl, ?hyh6⟩) (by assumption) ?resth6
  case hyh6 => (intro w hSw; (try dsimp only at hSw); go_simp; try with_reducible rfl)
  try simp only [Act.put, List.setIfInBounds_toArray, List.set_cons_zero, List.set_cons_succ, List.getElem_toArray, List.getElem_cons_succ, List.getElem_cons_zero]
  refine wpAnyH_take (i := 7) (v := ?vh7) rfl (by kernel_rfl) (by kernel_rfl) (by kernel_rfl) (fun _ _ _ h => h) (Or.inl ⟨by rfl, ?hyh7⟩) (by assumption) ?resth7
  case hyh7 => (intro w hSw; (try dsimp only at hSw); go_simp; try with_reducible rfl)
  try simp only [Act.put, List.setIfInBounds_toArray, List.set_cons_zero, List.set_cons_succ, List.getElem_toArray, List.getElem_cons_succ, List.getElem_cons_zero]
  refine wpAnyH_ready (rs := [8]) (by kernel_rfl) (by simp) ?_
  refine AllReadyH.cons rfl (fun K hK => ?_) AllReadyH.nil
  go_simp
  refine hK.out _ _ ?_ (fun hHeld => ?_)
  · ((try dsimp only); simp (maxDischargeDepth := 20) [*, World.cell?_alloc_some, World.cell?_setCell_far])
  clear hK K
  try simp only [Act.put, List.setIfInBounds_toArray, List.set_cons_zero, List.set_cons_succ, List.getElem_toArray, List.getElem_cons_succ, List.getElem_cons_zero]
  refine wpAnyH_done (by kernel_rfl) ?_ _
  refine NoPanic.normal ?_
  go_wp2_with fail
  go_end0
  exact ⟨rfl, by have := HG2.set_ j (.int .i64 (f j + 1)); rw [histA_set f j hj] at this; exact this, hstep e1 hg1 j _⟩
end Go.Proofs.Ytkjnheikimpliaa
