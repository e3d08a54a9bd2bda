/- Images held against each other; clones; the laws' own small helpers. -/
import Derived.Test.YtkjnheikimpliaaBuild
namespace Go.Proofs.Ytkjnheikimpliaa
set_option linter.unusedVariables false
set_option linter.unusedSimpArgs false
open Go.RowKit
attribute [local go_sem ↓] Go.wp_at_zero Go.wp_at_succ

set_option maxRecDepth 100000 in
set_option maxHeartbeats 1000000 in
theorem build_no (F : Value) (x y : Int) (h : x < 1 ∨ 16384 < x ∨ y < 1 ∨ 16384 < y) (w : World) :
    Calls Try.prog 104 #[.int .i64 x, .int .i64 y, F] w fun e w' => e = .returned (.tuple #[imgV 0 0 none 0 0, .int .i64 11]) ∧ Below w.heap.size w w' := by
  cases h1 : sideB x
  · clear h
    go_enter Try.func104, Try.ntmps104
    go_wp2_with (go_at_call 137; (with_reducible refine (oside_any _ _).mono ?_); rintro e w1 ⟨rfl, rfl⟩)
    exact bodyPost_ret (v := .tuple #[imgV 0 0 none 0 0, .int .i64 11]) (by simp [results, Try.results104, go_sem]) rfl ⟨rfl, by repeat (first | (with_reducible exact Below.refl _ _) | (with_reducible refine bset ?_ _ _ (by omega) _) | (with_reducible refine balloc ?_ _))⟩
  · have h2 : sideB y = false := sideB_not (by have := sideB_true h1; omega)
    clear h
    go_enter Try.func104, Try.ntmps104
    go_wp2_with (go_at_call 137; (with_reducible refine (oside_any _ _).mono ?_); rintro e w1 ⟨rfl, rfl⟩)
    exact bodyPost_ret (v := .tuple #[imgV 0 0 none 0 0, .int .i64 11]) (by simp [results, Try.results104, go_sem]) rfl ⟨rfl, by repeat (first | (with_reducible exact Below.refl _ _) | (with_reducible refine bset ?_ _ _ (by omega) _) | (with_reducible refine balloc ?_ _))⟩

/-- build with a function value that keeps no state. -/
theorem build_pure (g : FuncId) (eg : ∀ args w, (callFunc g args).run Try.prog w = .ok (.enter g args) w) (caps : Array Value) (px : Nat → Nat → Col) (W H : Nat) (hW : 1 ≤ W ∧ W ≤ 16384) (hH : 1 ≤ H ∧ H ≤ 16384) (w : World)
    (hg : ∀ (x y : Nat) (w1 : World), x < W → y < H → Below w.heap.size w w1 →
      Calls Try.prog g (#[.int .i64 (x : Int), .int .i64 (y : Int)] ++ caps) w1 fun e w2 => e = .returned (colV (px x y)) ∧ Below w1.heap.size w1 w2) :
    Calls Try.prog 104 #[.int .i64 (W : Int), .int .i64 (H : Int), .func (.func g) #[] caps] w fun e w' =>
      ∃ A cap, e = .returned (.tuple #[imgV W H A (bytesL (pxs px W (W * H))).length cap, .int .i64 0]) ∧ ImgNew w' w.heap.size A cap (bytesL (pxs px W (W * H))) ∧ Below w.heap.size w w' := by
  refine (build_yes g eg caps px W H hW hH w (fun _ w1 => Below w.heap.size w w1) (Below.refl _ _) (fun _ _ _ h k => h.trans k) (fun x y w1 hx hy hs hb => (hg x y w1 hx hy hb).mono fun e w2 ⟨h1, h2⟩ => ⟨h1, bstep hb h2, Keeps.of_below h2⟩)).mono ?_
  rintro e w' ⟨A, cap, rfl, hb, hr, hc, _⟩
  have hl : (bytesL (pxs px W (W * H))).length = 4 * (W * H) := by rw [bytesL_len, pxs_len]
  exact ⟨A, cap, by rw [hl], ⟨hr, by rw [hl]; exact hc⟩, hb⟩

set_option maxRecDepth 100000 in
theorem conv_row {w : World} {B : Nat} {A : Option Addr} {l : List Int} (cap : Nat) (hr : RowAt w B .u8 A l) : (convert 32 9 (.slice A l.length cap)).run Try.prog w = .ok (.string (strOfNums l)) w := by
  cases l with
  | nil =>
    cases A with
    | none => exact run_convert_bytes_nil w 32 5 Try.underlying32 Try.underlying5 _ _ 9 Try.underlying9
    | some a =>
      show (convert 32 9 (.slice (some a) 0 cap)).run Try.prog w = _
      rw [run_convert_bytes_string w 32 9 5 _ 0 cap Try.underlying32 Try.underlying5 Try.underlying9]
      have h0 : (loadCells a 0).run Try.prog w = .ok (([] : List Int).map (Value.int .u8)).toArray w := by
        have := run_loadCells_list (P := Try.prog) w a [] (fun j v hj => by simp at hj)
        simpa using this
      rw [run_bytesToString w a 0 cap [] h0]
      rfl
  | cons z l =>
    obtain ⟨b, off, rfl, _, _⟩ := hr 0 (by simp)
    refine run_convert_bytes_arg w 32 5 Try.underlying32 Try.underlying5 b off _ cap (z :: l) rfl (fun i hi => ?_) 9 Try.underlying9
    obtain ⟨b', off', e1, _, c⟩ := hr i hi
    injection e1 with e1; injection e1 with e1 e2; subst e1 e2
    exact c

theorem strOfNums_inj {l k : List Int} (hl : U8s l) (hk : U8s k) (h : (strOfNums l).toList = (strOfNums k).toList) : l = k := by
  have h' : (l.map fun n => UInt8.ofNat n.toNat) = k.map fun n => UInt8.ofNat n.toNat := by
    rw [← strOfNums_data, ← strOfNums_data, ← ByteArray.toList_eq, ← ByteArray.toList_eq, h]
  clear h
  induction l generalizing k with
  | nil => cases k with
    | nil => rfl
    | cons b k => simp at h'
  | cons a l ih => cases k with
    | nil => simp at h'
    | cons b k =>
      simp only [List.map_cons, List.cons.injEq] at h'
      have ha := hl a (by simp)
      have hb := hk b (by simp)
      have e : a = b := by
        have := congrArg UInt8.toNat h'.1
        simp at this
        omega
      rw [e, ih (fun z hz => hl z (by simp [hz])) (fun z hz => hk z (by simp [hz])) h'.2]

/-- Are two images one? -/
noncomputable def sameB (x1 y1 : Int) (l1 : List Int) (x2 y2 : Int) (l2 : List Int) : Bool := decide (x1 = x2 ∧ y1 = y2 ∧ l1 = l2)
theorem sameB_mk {x1 y1 : Int} {l1 : List Int} {x2 y2 : Int} {l2 : List Int} (h : x1 = x2 ∧ y1 = y2 ∧ l1 = l2) : sameB x1 y1 l1 x2 y2 l2 = true := decide_eq_true h
theorem sameB_not {x1 y1 : Int} {l1 : List Int} {x2 y2 : Int} {l2 : List Int} (h : ¬ (x1 = x2 ∧ y1 = y2 ∧ l1 = l2)) : sameB x1 y1 l1 x2 y2 l2 = false := decide_eq_false h

set_option maxHeartbeats 1000000 in
theorem same_any (x1 y1 : Int) (A1 : Option Addr) (l1 : List Int) (c1 : Nat) (x2 y2 : Int) (A2 : Option Addr) (l2 : List Int) (c2 : Nat) (w : World) (r1 : RowAt w w.heap.size .u8 A1 l1) (r2 : RowAt w w.heap.size .u8 A2 l2) (u1 : U8s l1) (u2 : U8s l2) :
    Calls Try.prog 45 #[imgV x1 y1 A1 l1.length c1, imgV x2 y2 A2 l2.length c2] w fun e w' => e = .returned (.bool (sameB x1 y1 l1 x2 y2 l2)) ∧ Below w.heap.size w w' := by
  have k1 : ∀ o1 o2, (convert 32 9 (.slice A1 l1.length c1)).run Try.prog ((w.alloc o1).alloc o2) = .ok (.string (strOfNums l1)) ((w.alloc o1).alloc o2) := fun o1 o2 => conv_row c1 (r1.below (balloc (below_alloc w o1) o2) (Nat.le_refl _))
  have k2 : ∀ o1 o2, (convert 32 9 (.slice A2 l2.length c2)).run Try.prog ((w.alloc o1).alloc o2) = .ok (.string (strOfNums l2)) ((w.alloc o1).alloc o2) := fun o1 o2 => conv_row c2 (r2.below (balloc (below_alloc w o1) o2) (Nat.le_refl _))
  clear r1 r2
  by_cases hx : x1 = x2
  · by_cases hy : y1 = y2
    · by_cases hl : l1 = l2
      · have hf := hide (sameB_mk ⟨hx, hy, hl⟩)
        have hb1 : (x1 == x2) = true := by simpa using hx
        have hb2 : (y1 == y2) = true := by simpa using hy
        have hs : ((strOfNums l1).toList == (strOfNums l2).toList) = true := by rw [hl]; exact beq_self_eq_true _
        clear hx hy hl
        go_enter Try.func45, Try.ntmps45
        go_wp2
        go_ret
        exact ⟨ret_bool hf.out.symm, balloc (below_alloc w _) _⟩
      · have hf := hide (sameB_not (x1 := x1) (x2 := x2) (y1 := y1) (y2 := y2) fun h => hl h.2.2)
        have hb1 : (x1 == x2) = true := by simpa using hx
        have hb2 : (y1 == y2) = true := by simpa using hy
        have hs : ((strOfNums l1).toList == (strOfNums l2).toList) = false := by
          rw [beq_eq_false_iff_ne]; exact fun h => hl (strOfNums_inj u1 u2 h)
        clear hx hy hl
        go_enter Try.func45, Try.ntmps45
        go_wp2
        go_ret
        exact ⟨ret_bool hf.out.symm, balloc (below_alloc w _) _⟩
    · have hf := hide (sameB_not (x1 := x1) (x2 := x2) (l1 := l1) (l2 := l2) fun h => hy h.2.1)
      have hb1 : (x1 == x2) = true := by simpa using hx
      have hb2 : (y1 == y2) = false := by simpa using hy
      clear hx hy
      go_enter Try.func45, Try.ntmps45
      go_wp2
      go_ret
      exact ⟨ret_bool hf.out.symm, balloc (below_alloc w _) _⟩
  · have hf := hide (sameB_not (y1 := y1) (y2 := y2) (l1 := l1) (l2 := l2) fun h => hx h.1)
    have hb1 : (x1 == x2) = false := by simpa using hx
    clear hx
    go_enter Try.func45, Try.ntmps45
    go_wp2
    go_ret
    exact ⟨ret_bool hf.out.symm, balloc (below_alloc w _) _⟩
theorem blk3 {w : World} {g : Nat} {t : TypeId} {a b c : Value} (h : Blk w g t #[a, b, c]) : w.cell? ⟨g, 0, none⟩ = some a ∧ w.cell? ⟨g, 1, none⟩ = some b ∧ w.cell? ⟨g, 2, none⟩ = some c ∧ w.frozen? ⟨g, 0, none⟩ = false ∧ w.frozen? ⟨g, 1, none⟩ = false ∧ w.frozen? ⟨g, 2, none⟩ = false :=
  ⟨h.cell 0, h.cell 1, h.cell 2, h.frozen 0, h.frozen 1, h.frozen 2⟩
theorem blk4 {w : World} {g : Nat} {t : TypeId} {a b c d : Value} (h : Blk w g t #[a, b, c, d]) : w.cell? ⟨g, 0, none⟩ = some a ∧ w.cell? ⟨g, 1, none⟩ = some b ∧ w.cell? ⟨g, 2, none⟩ = some c ∧ w.cell? ⟨g, 3, none⟩ = some d ∧ w.frozen? ⟨g, 0, none⟩ = false ∧ w.frozen? ⟨g, 1, none⟩ = false ∧ w.frozen? ⟨g, 2, none⟩ = false ∧ w.frozen? ⟨g, 3, none⟩ = false :=
  ⟨h.cell 0, h.cell 1, h.cell 2, h.cell 3, h.frozen 0, h.frozen 1, h.frozen 2, h.frozen 3⟩
theorem blk1 {w : World} {g : Nat} {t : TypeId} {a : Value} (h : Blk w g t #[a]) : w.cell? ⟨g, 0, none⟩ = some a ∧ w.frozen? ⟨g, 0, none⟩ = false := ⟨h.cell 0, h.frozen 0⟩
theorem Blk.new' (w : World) (t : TypeId) (cs : Array Value) (g : Nat) (hg : g = w.heap.size) : Blk (w.alloc (.cells cs t)) g t cs := by subst hg; exact Blk.new w t cs

set_option maxHeartbeats 1000000 in
theorem none_true (k : Int) (w : World) :
    Calls Try.prog 53 #[imgV 0 0 none 0 0, .int .i64 k, .int .i64 k] w fun e w' => e = .returned (.bool true) ∧ Below w.heap.size w w' := by
  have K := hide (show ∀ w' : World, Calls Try.prog 45 #[imgV 0 0 none 0 0, imgV 0 0 none 0 0] w' fun e w'' => e = .returned (.bool true) ∧ Below w'.heap.size w' w'' from fun (w' : World) => (same_any 0 0 none [] 0 0 0 none [] 0 w' (fun i hi => absurd hi (by simp)) (fun i hi => absurd hi (by simp)) (fun z hz => absurd hz (by simp)) (fun z hz => absurd hz (by simp))).mono (R' := fun e w'' => e = .returned (.bool true) ∧ Below w'.heap.size w' w'') (by rintro e w' ⟨rfl, hb⟩; rw [sameB_mk ⟨rfl, rfl, rfl⟩]; exact ⟨rfl, hb⟩))
  go_enter Try.func53, Try.ntmps53
  go_wp2_with (go_at_call 45; (with_reducible refine (K.out _).mono ?_); rintro e w1 ⟨rfl, hb1⟩)
  go_ret
  exact ⟨rfl, bstep (below_alloc w _) hb1⟩

set_option maxHeartbeats 1000000 in
theorem is_true (x y : Int) (A1 : Option Addr) (l : List Int) (c1 : Nat) (A2 : Option Addr) (c2 : Nat) (w : World) (r1 : RowAt w w.heap.size .u8 A1 l) (r2 : RowAt w w.heap.size .u8 A2 l) (u1 : U8s l) :
    Calls Try.prog 54 #[imgV x y A1 l.length c1, .int .i64 0, imgV x y A2 l.length c2] w fun e w' => e = .returned (.bool true) ∧ Below w.heap.size w w' := by
  have K := hide fun (w' : World) (hb : Below w.heap.size w w') => (same_any x y A1 l c1 x y A2 l c2 w' ((r1.below hb (Nat.le_refl _)).more hb.size) ((r2.below hb (Nat.le_refl _)).more hb.size) u1 u1).mono (R' := fun e w'' => e = .returned (.bool true) ∧ Below w'.heap.size w' w'') (by rintro e w' ⟨rfl, hb⟩; rw [sameB_mk ⟨rfl, rfl, rfl⟩]; exact ⟨rfl, hb⟩)
  clear r1 r2
  have hb := hide (balloc (below_alloc w (.cells #[.int .i64 x, .int .i64 y, .slice A1 l.length c1] 34)) (.cells #[.int .i64 x, .int .i64 y, .slice A2 l.length c2] 34))
  go_enter Try.func54, Try.ntmps54
  go_wp2_with (go_at_call 45; (with_reducible refine (K.out _ hb.out).mono ?_); rintro e w1 ⟨rfl, hb1⟩)
  go_ret
  exact ⟨rfl, bstep hb.out hb1⟩

set_option maxHeartbeats 400000 in
theorem big_any (x y : Int) (A : Option Addr) (n c : Nat) (w : World) :
    Calls Try.prog 50 #[imgV x y A n c] w fun e w' => e = .returned (.bool (decide (600 < n))) ∧ Below w.heap.size w w' := by
  by_cases h : 600 < n
  · have h' : (600 : Int) < (n : Int) := by omega
    go_enter Try.func50, Try.ntmps50
    go_wp2
    go_ret
    exact ⟨ret_bool (by simp [h]), below_alloc w _⟩
  · have h' : ¬ ((600 : Int) < (n : Int)) := by omega
    go_enter Try.func50, Try.ntmps50
    go_wp2
    go_ret
    exact ⟨ret_bool (by simp [h]), below_alloc w _⟩

theorem row_own {w : World} {base n : Nat} {v : Value} {l : List Int} (h : w.ownsRow base 5 1 v n (l.map (Value.int .u8))) (hn : v ≠ .slice none 0 0) : ∃ g c, v = .slice (some ⟨g, 0, none⟩) l.length c ∧ ImgNew w base (some ⟨g, 0, none⟩) c l := by
  have h1 := h.1
  rcases h.2 with ⟨h2, _⟩ | ⟨g, cap, cur, rfl, hb, hh, hc, _⟩
  · exact absurd h2 hn
  · have hn : n = l.length := by simp at h1; omega
    subst hn
    refine ⟨g, cap, rfl, fun i hi => ⟨g, 0, rfl, hb, Blk.lt (t := 5) (cs := cur) hh, ?_⟩, hc⟩
    have hx : (l.map (Value.int .u8))[i]? = some (.int .u8 (l.getD i 0)) := by
      rw [List.getElem?_map, List.getElem?_eq_getElem hi]; simp [List.getD, hi]
    simpa using owns_cell h i _ hx

theorem bytesClone_any (A : Option Addr) (l : List Int) (cap : Nat) (w : World) (hr : RowAt w w.heap.size .u8 A l) (hm : l.length ≤ 140737488355328) :
    Calls Try.prog 100 #[.slice A l.length cap] w fun e w' => ∃ A' cap', e = .returned (.slice A' l.length cap') ∧ ImgNew w' w.heap.size A' cap' l ∧ Below w.heap.size w w' := by
  cases A with
  | none =>
    have hl : l = [] := by
      cases l with
      | nil => rfl
      | cons z l => obtain ⟨b, off, h, _⟩ := hr 0 (by simp); cases h
    subst hl
    refine (Try.bytes_Clone_nil 0 cap w).mono ?_
    rintro e w' ⟨rfl, rfl⟩
    exact ⟨none, 0, rfl, ⟨fun i hi => absurd hi (by simp), by simp⟩, Below.refl _ _⟩
  | some a =>
    refine (Try.bytes_Clone_at a l.length cap l w rfl hm (fun i hi => ?_)).mono ?_
    · obtain ⟨b, off, h, _, hc⟩ := hr i hi
      injection h with h
      subst h
      have e : (⟨b, off, none⟩ : Addr).add i = ⟨b, off + i, none⟩ := by
        rw [Addr.add]; split
        · rename_i e; simp [e]
        · rfl
      rw [e]; exact hc
    · rintro e w' ⟨v', rfl, ho, hn, hb⟩
      obtain ⟨g, c, rfl, hi⟩ := row_own ho hn
      exact ⟨_, c, rfl, hi, hb⟩

set_option maxHeartbeats 1000000 in
theorem clone_any (x y : Int) (A : Option Addr) (l : List Int) (cap : Nat) (w : World) (hr : RowAt w w.heap.size .u8 A l) (hm : l.length ≤ 140737488355328) :
    Calls Try.prog 44 #[imgV x y A l.length cap] w fun e w' => ∃ A' cap', e = .returned (imgV x y A' l.length cap') ∧ ImgNew w' w.heap.size A' cap' l ∧ Below w.heap.size w w' := by
  have K := hide fun (w' : World) (hb : Below w.heap.size w w') => bytesClone_any A l cap w' ((hr.below hb (Nat.le_refl _)).more hb.size) hm
  clear hr hm
  have hb := hide (balloc (below_alloc w (.cells #[.int .i64 x, .int .i64 y, .slice A l.length cap] 34)) (.cells #[.int .i64 0, .int .i64 0, .slice none 0 0] 34))
  go_enter Try.func44, Try.ntmps44
  go_wp2_with (go_at_call 100; (with_reducible refine (K.out _ hb.out).mono ?_); rintro e w1 ⟨A', cap', rfl, hi, hb1⟩; obtain ⟨m0, m1, m2, f0, f1, f2⟩ := blk3 (((Blk.new w _ _).alloc _).below hb1 (by simp; omega)); obtain ⟨r0, r1, r2, g0, g1, g2⟩ := blk3 ((Blk.new' (w.alloc _) 34 _ (w.heap.size + 1) (by simp)).below hb1 (by simp)); have hz : w.heap.size + 1 < w1.heap.size := (by have := hb1.size; simp at this; omega); have HI := hide hi; have HB1 := hide hb1; clear hi hb1)
  refine bodyPost_ret (v := imgV x y A' l.length cap') (by simp [results, Try.results44, go_sem, r0, r1, r2, hz]) rfl ⟨A', cap', rfl, ?_, ?_⟩
  · have hi := HI.out
    simp at hi
    exact ((((hi.set _ _ (by omega) _).set _ _ (by omega) _).set _ _ (by omega) _).set _ _ (by omega) _).less (by omega)
  · exact bset (bset (bset (bset (bstep hb.out HB1.out) _ _ (by omega) _) _ _ (by omega) _) _ _ (by omega) _) _ _ (by omega) _
end Go.Proofs.Ytkjnheikimpliaa
