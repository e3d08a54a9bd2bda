/- cmp.Histogram: walked. -/
import Derived.Test.YtkjnheikimpliaaHistA
import Derived.Deep.WholeRow
namespace Go.Proofs.Ytkjnheikimpliaa
set_option linter.unusedVariables false
set_option linter.unusedSimpArgs false
open Go.RowKit
attribute [local go_sem ↓] Go.wp_at_zero Go.wp_at_succ

set_option maxRecDepth 100000 in
theorem info37 : (Try.prog.info? 37).map (fun i => (i.zero, i.size)) = some (some (.agg (histA fun _ => 0)), 256) := by kernel_rfl
theorem zero37 (w : World) : (zeroValue 37).run Try.prog w = .ok (.agg (histA fun _ => 0)) w := (zero_of_info info37).1 w
theorem size37 (f : Nat → Int) : (Try.prog.info? 37).map (·.size) = some (histA f).size := by rw [histA_size]; exact (zero_of_info info37).2
theorem one37 (f : Nat → Int) : (histA f).all (·.oneCell') = true := all_oneCell_toArray fun v hv => by
  obtain ⟨i, -, rfl⟩ := List.mem_map.1 hv
  rfl
theorem sizes37 (f g : Nat → Int) : (histA f).size = (histA g).size := by rw [histA_size f, histA_size g]
theorem hload37 {w : World} {g : Nat} {f : Nat → Int} (h : Blk w g 37 (histA f)) : (loadVar 37 ⟨g, 0, none⟩).run Try.prog w = .ok (.agg (histA f)) w := run_loadVar_row w g 37 37 (histA f) (0, 0) _ h Try.underlying37 rfl (size37 f)


/-- The result's cells are stored: what was below stands. -/
theorem bsetRow {w v : World} {g : Nat} {old : Array Value} {t : TypeId} (h : Below w.heap.size w v) (hb : Blk v g t old) (hg : w.heap.size ≤ g) (cs : Array Value) : Below w.heap.size w (v.setRow g cs) ∧ Blk (v.setRow g cs) g t cs :=
  ⟨⟨h.os, h.tape, h.output, by simpa using h.size, fun k hk => (setRow_other v g k cs (by omega)).trans (h.block k hk)⟩, setRow_heap v g old cs t (0, 0) hb⟩

set_option maxRecDepth 100000 in
set_option maxHeartbeats 4000000 in
theorem hist_no {x y : Int} {n : Nat} (h : ¬ rightI x y n) (A : Option Addr) (cap : Nat) (ch : Int) (w : World) :
    Calls Try.prog 35 #[imgV x y A n cap, .int .i64 ch] w fun e w' => e = .returned (.tuple #[.agg (histA fun _ => 0), .int .i64 11]) ∧ Below w.heap.size w w' := by
  have K1 := hide (right_no h A cap)
  have hz37 := zero37
  clear h
  go_enter Try.func35, Try.ntmps35
  go_wp2_with (first | (go_at_call 94; (with_reducible refine (K1.out _).mono ?_); rintro e w1 ⟨rfl, hb1⟩; obtain ⟨B1, B2, B3, B4, hz, HW⟩ := own4 hb1; clear hb1) | (refine wpList_load_row rfl 37 _ rfl (w.heap.size + 1 + 1 + 1) rfl 37 _ (0, 0) _ B4 Try.underlying37 rfl (size37 _) ?_) | (refine wpList_store_row rfl 37 _ _ rfl (w.heap.size + 1 + 1) _ rfl rfl 37 _ B3 (size37 _) (sizes37 _ _) (one37 _) ?_))
  obtain ⟨hW3, hB3⟩ := bsetRow HW B3 (by omega) (histA fun _ => 0)
  have hl := hload37 hB3
  refine bodyPost_ret (v := .tuple #[.agg (histA fun _ => 0), .int .i64 11]) ?_ rfl ⟨rfl, hW3⟩
  simp [results, Try.results35, asAddr, hl]

set_option maxRecDepth 100000 in
set_option maxHeartbeats 4000000 in
theorem hist_range {x y : Int} {n : Nat} (h : rightI x y n) (A : Option Addr) (cap : Nat) (ch : Int) (hch : ch < 0 ∨ 3 < ch) (w : World) :
    Calls Try.prog 35 #[imgV x y A n cap, .int .i64 ch] w fun e w' => e = .returned (.tuple #[.agg (histA fun _ => 0), .int .i64 2]) ∧ Below w.heap.size w w' := by
  have K1 := hide (right_yes h A cap)
  have hz37 := zero37
  clear h
  have hch' : ch < 0 ∨ (0 ≤ ch ∧ 3 < ch) := by omega
  clear hch
  rcases hch' with h1 | ⟨h1, h2⟩
  all_goals
    go_enter Try.func35, Try.ntmps35
    go_wp2_with (first | (go_at_call 94; (with_reducible refine (K1.out _).mono ?_); rintro e w1 ⟨rfl, hb1⟩; obtain ⟨B1, B2, B3, B4, hz, HW⟩ := own4 hb1; have c0 := B2.cell 0; simp only [List.getElem?_toArray, List.getElem?_cons_zero] at c0; clear hb1) | (refine wpList_load_row rfl 37 _ rfl (w.heap.size + 1 + 1 + 1) rfl 37 _ (0, 0) _ B4 Try.underlying37 rfl (size37 _) ?_) | (refine wpList_store_row rfl 37 _ _ rfl (w.heap.size + 1 + 1) _ rfl rfl 37 _ B3 (size37 _) (sizes37 _ _) (one37 _) ?_))
    obtain ⟨hW3, hB3⟩ := bsetRow HW B3 (by omega) (histA fun _ => 0)
    have hl := hload37 hB3
    refine bodyPost_ret (v := .tuple #[.agg (histA fun _ => 0), .int .i64 2]) ?_ rfl ⟨rfl, hW3⟩
    simp [results, Try.results35, asAddr, hl]

/-- The histogram of the first pixels. -/
def hF (l : List Int) (ch : Nat) : Nat → Nat → Int
  | 0 => fun _ => 0
  | k + 1 => bump (hF l ch k) (chV (pix l k) ch).toNat
theorem hF_le (l : List Int) (ch : Nat) : ∀ k v, 0 ≤ hF l ch k v ∧ hF l ch k v ≤ k
  | 0, v => ⟨Int.le_refl _, Int.le_refl _⟩
  | k + 1, v => by
    have := hF_le l ch k v
    unfold hF bump
    split <;> omega
theorem hist_one (ch : Nat) (hch : ch < 4) (w : World) (g gc : Nat) (f : Nat → Int) (c : Col) (hc : c.ok) (hf : ∀ v, 0 ≤ f v ∧ f v ≤ 1073741824) (x y : Int) (hg : Blk w g 37 (histA f)) (hgc : Blk w gc 3 #[.int .i64 (ch : Nat)]) (hne : ¬ g = gc) :
    Calls Try.prog 96 #[.int .i64 x, .int .i64 y, colV c, .pointer (some ⟨g, 0, none⟩), .pointer (some ⟨gc, 0, none⟩)] w fun e w' => e = .returned (.tuple #[]) ∧ Blk w' g 37 (histA (bump f (chV c ch).toNat)) ∧ w.grownBy w' (some g) := by
  obtain ⟨r, gn, bl, al⟩ := c
  obtain ⟨h0, h1, h2, h3⟩ := hc
  simp only at h0 h1 h2 h3
  match ch, hch, hgc with
  | 0, _, hgc => exact hist_one0 w g gc f r gn bl al hf x y r.toNat (by omega) (by omega) hg hgc hne
  | 1, _, hgc => exact hist_one1 w g gc f r gn bl al hf x y gn.toNat (by omega) (by omega) hg hgc hne
  | 2, _, hgc => exact hist_one2 w g gc f r gn bl al hf x y bl.toNat (by omega) (by omega) hg hgc hne
  | 3, _, hgc => exact hist_one3 w g gc f r gn bl al hf x y al.toNat (by omega) (by omega) hg hgc hne
/-- What Histogram's rounds keep. -/
structure HistI (w : World) (X Y : Int) (A : Option Addr) (n cap ch : Nat) (f : Nat → Int) (v : World) : Prop where
  below : Below w.heap.size w v
  m : Blk v w.heap.size 34 #[.int .i64 X, .int .i64 Y, .slice A n cap]
  c : Blk v (w.heap.size + 1) 3 #[.int .i64 (ch : Nat)]
  r : Blk v (w.heap.size + 1 + 1) 37 (histA fun _ => 0)
  h : Blk v (w.heap.size + 1 + 1 + 1) 37 (histA f)
theorem HistI.keep {w v v' : World} {X Y : Int} {A : Option Addr} {n cap ch B : Nat} {f : Nat → Int} (h : HistI w X Y A n cap ch f v) (hB : w.heap.size + 1 + 1 + 1 < B) (hb : Below B v v') : HistI w X Y A n cap ch f v' :=
  ⟨h.below.trans (hb.mono (by omega)), h.m.below hb (by omega), h.c.below hb (by omega), h.r.below hb (by omega), h.h.below hb hB⟩
theorem enters96 (args : Array Value) (w : World) : (callFunc 96 args).run Try.prog w = .ok (.enter 96 args) w := enters_of Try.func96 (by kernel_rfl) rfl args w

set_option maxRecDepth 100000 in
set_option maxHeartbeats 4000000 in
theorem hist_yes (W H : Nat) (A : Option Addr) (l : List Int) (cap : Nat) (ch : Nat) (hch : ch < 4) (w : World) (hR : rightI W H l.length) (hr : RowAt w w.heap.size .u8 A l) (hcap : l.length ≤ cap) (hu : U8s l) :
    Calls Try.prog 35 #[imgV W H A l.length cap, .int .i64 (ch : Nat)] w fun e w' => e = .returned (.tuple #[.agg (histA (hF l ch (W * H))), .int .i64 0]) ∧ Below w.heap.size w w' := by
  have K1 := hide (right_yes hR A cap)
  have hz37 := zero37
  have hWH : W * H ≤ 268435456 := by
    have h1 := hR.1.2
    have h2 := hR.2.1.2
    exact Nat.le_trans (Nat.mul_le_mul (show W ≤ 16384 by omega) (show H ≤ 16384 by omega)) (by decide)
  have KE := hide fun (v : World) (hv : HistI w W H A l.length cap ch (hF l ch 0) v) =>
    each_yes 96 enters96 #[.pointer (some ⟨w.heap.size + 1 + 1 + 1, 0, none⟩), .pointer (some ⟨w.heap.size + 1, 0, none⟩)] W H A l cap v hR hcap (fun n v' => HistI w W H A l.length cap ch (hF l ch n) v') hv
      (fun n v1 v2 hi hbl => hi.keep hv.h.lt hbl)
      (fun n v1 hi => (hr.below hi.below (Nat.le_refl _)).more hv.below.size)
      (fun x y v1 hx hy hs hi => by
        have hlt : y * W + x < W * H := by
          have : y * W + W ≤ H * W := by rw [← Nat.succ_mul]; exact Nat.mul_le_mul_right W hy
          rw [Nat.mul_comm W H]; omega
        refine (hist_one ch hch v1 (w.heap.size + 1 + 1 + 1) (w.heap.size + 1) (hF l ch (y * W + x)) (pix l (y * W + x)) (pix_ok hu _) (fun u => by have := hF_le l ch (y * W + x) u; omega) x y hi.h hi.c (by omega)).mono ?_
        rintro e v2 ⟨rfl, hB, hg⟩
        have hzv := hv.h.lt
        exact ⟨rfl, ⟨hi.below.grown hg hi.below.size (fun j hj => by injection hj with hj; omega), hi.m.grown hg (by simp only [ne_eq, Option.some.injEq]; omega), hi.c.grown hg (by simp only [ne_eq, Option.some.injEq]; omega), hi.r.grown hg (by simp only [ne_eq, Option.some.injEq]; omega), hB⟩, ⟨hg.size, fun j hj1 hj2 => hg.block j hj2 (by simp; omega)⟩⟩)
  have d1 : decide ((ch : Int) < 0) = false := by simp
  have d2 : decide ((3 : Int) < (ch : Int)) = false := by simp; omega
  clear hR hr hcap hu
  generalize hf : hF l ch (W * H) = f at KE ⊢
  clear hf
  go_enter Try.func35, Try.ntmps35
  go_wp2_with (first | (go_at_call 94; (with_reducible refine (K1.out _).mono ?_); rintro e w1 ⟨rfl, hb1⟩; obtain ⟨B1, B2, B3, B4, hz, HW⟩ := own4 hb1; have c0 := B2.cell 0; simp only [List.getElem?_toArray, List.getElem?_cons_zero] at c0; obtain ⟨m0, m1, m2, -⟩ := blk3 B1; have HI0 := hide (⟨HW, B1, B2, B3, B4⟩ : HistI w W H A l.length cap ch (hF l ch 0) w1); clear hb1 HW B1 B2 B3 B4) | (go_at_call 95; (with_reducible refine (KE.out _ HI0.out).mono ?_); rintro e w2 ⟨rfl, hI, hs⟩; have B4 := hI.h; have B3 := hI.r; have HW := hI.below; clear hI c0 m0 m1 m2) | (refine wpList_load_row rfl 37 _ rfl (w.heap.size + 1 + 1 + 1) rfl 37 _ (0, 0) _ B4 Try.underlying37 rfl (size37 _) ?_) | (refine wpList_store_row rfl 37 _ _ rfl (w.heap.size + 1 + 1) _ rfl rfl 37 _ B3 (size37 _) (sizes37 _ _) (one37 _) ?_))
  obtain ⟨hW3, hB3⟩ := bsetRow HW B3 (by omega) (histA f)
  have hl := hload37 hB3
  refine bodyPost_ret (v := .tuple #[.agg (histA f), .int .i64 0]) ?_ rfl ⟨rfl, hW3⟩
  simp [results, Try.results35, asAddr, hl]
end Go.Proofs.Ytkjnheikimpliaa
