/- The law CmpDigests. -/
import Derived.Test.YtkjnheikimpliaaCmpD
import Derived.Test.YtkjnheikimpliaaDigB
import Derived.Test.YtkjnheikimpliaaTurnA
namespace Go.Proofs.Ytkjnheikimpliaa
set_option linter.unusedVariables false
set_option linter.unusedSimpArgs false
open Go.RowKit
attribute [local go_sem ↓] Go.wp_at_zero Go.wp_at_succ

theorem two_below {w w' : World} {p q : Nat} {x y x1 y1 : Int} {A A1 : Option Addr} {l l1 : List Int} {c c1 : Nat} (h : Pic w p x y A l c ∧ Pic w q x1 y1 A1 l1 c1) (hb : Below w.heap.size w w') : Pic w' p x y A l c ∧ Pic w' q x1 y1 A1 l1 c1 := ⟨h.1.below hb, h.2.below hb⟩
/-- A digest. -/
noncomputable def digI (x y : Int) (l : List Int) : Int := digL (digS y (digS x 14695981039346656037 4) 4) l

set_option maxHeartbeats 2000000 in
theorem digests_big (x1 y1 : Int) (A1 : Option Addr) (n1 c1 : Nat) (x2 y2 : Int) (A2 : Option Addr) (n2 c2 : Nat) (w : World) (h : 600 < n1 ∨ (¬ 600 < n1 ∧ 600 < n2)) :
    Calls Try.prog 8 #[imgV x1 y1 A1 n1 c1, imgV x2 y2 A2 n2 c2] w fun e w' => e = .returned (.bool true) ∧ Below w.heap.size w w' := by
  rcases h with h | ⟨h, h'⟩
  all_goals
    go_enter Try.func8, Try.ntmps8
    go_wp2_with (go_at_call 34; (with_reducible refine (awake35 _).mono ?_); rintro e w1 ⟨rfl, hb1⟩)
    go_ret
    exact ⟨rfl, bstep (balloc (below_alloc w _) _) hb1⟩

set_option maxRecDepth 100000 in
set_option maxHeartbeats 8000000 in
theorem digests_same (x1 y1 : Int) (A1 : Option Addr) (l1 : List Int) (c1 : Nat) (x2 y2 : Int) (A2 : Option Addr) (l2 : List Int) (c2 : Nat) (w : World) (h1 : ¬ 600 < l1.length) (h2 : ¬ 600 < l2.length) (r1 : RowAt w w.heap.size .u8 A1 l1) (r2 : RowAt w w.heap.size .u8 A2 l2) (u1 : U8s l1) (u2 : U8s l2) (hS : x1 = x2 ∧ y1 = y2 ∧ l1 = l2) :
    Calls Try.prog 8 #[imgV x1 y1 A1 l1.length c1, imgV x2 y2 A2 l2.length c2] w fun e w' => e = .returned (.bool true) ∧ Below w.heap.size w w' := by
  have hm1 : l1.length ≤ maxLen := by unfold maxLen; omega
  have hm2 : l2.length ≤ maxLen := by unfold maxLen; omega
  have K5 := hide fun (w' : World) (hr : RowAt w' w'.heap.size .u8 A2 l2) => digest_any x2 y2 A2 l2 c2 w' hr hm2
  have eD : digL (digS y2 (digS x2 14695981039346656037 4) 4) l2 = digL (digS y1 (digS x1 14695981039346656037 4) 4) l1 := by rw [hS.1, hS.2.1, hS.2.2]
  rw [eD] at K5
  have K1 := hide fun (A : Option Addr) (c : Nat) (w' : World) (hr : RowAt w' w'.heap.size .u8 A l1) => digest_any x1 y1 A l1 c w' hr hm1
  have K2 := hide fun (w' : World) (hr : RowAt w' w'.heap.size .u8 A1 l1) => refDigest_any x1 y1 A1 l1 c1 w' hr (by omega)
  have K3 := hide fun (w' : World) (hr : RowAt w' w'.heap.size .u8 A1 l1) => clone_any x1 y1 A1 l1 c1 w' hr (by omega)
  have K4 := hide fun (w' : World) (hr1 : RowAt w' w'.heap.size .u8 A1 l1) (hr2 : RowAt w' w'.heap.size .u8 A2 l2) => (same_any x1 y1 A1 l1 c1 x2 y2 A2 l2 c2 w' hr1 hr2 u1 u2)
  rw [sameB_mk hS] at K4
  obtain ⟨D, hD⟩ : ∃ D, D = digL (digS y1 (digS x1 14695981039346656037 4) 4) l1 := ⟨_, rfl⟩
  rw [← hD] at K1 K2 K5
  have P0 : Pic ((w.alloc (.cells #[.int .i64 x1, .int .i64 y1, .slice A1 l1.length c1] 34)).alloc (.cells #[.int .i64 x2, .int .i64 y2, .slice A2 l2.length c2] 34)) w.heap.size x1 y1 A1 l1 c1 ∧ Pic ((w.alloc (.cells #[.int .i64 x1, .int .i64 y1, .slice A1 l1.length c1] 34)).alloc (.cells #[.int .i64 x2, .int .i64 y2, .slice A2 l2.length c2] 34)) (w.heap.size + 1) x2 y2 A2 l2 c2 :=
    ⟨(Pic.new r1).alloc _, by
      have := Pic.new (x := x2) (y := y2) (cap := c2) ((r2.below (below_alloc w (.cells #[.int .i64 x1, .int .i64 y1, .slice A1 l1.length c1] 34)) (Nat.le_refl _)).more (by simp) : RowAt (w.alloc (.cells #[.int .i64 x1, .int .i64 y1, .slice A1 l1.length c1] 34)) (w.alloc (.cells #[.int .i64 x1, .int .i64 y1, .slice A1 l1.length c1] 34)).heap.size _ _ _)
      simpa using this⟩
  have HP0 := hide P0
  clear hS r1 r2 u1 u2 eD hD P0 hm1 hm2
  go_enter Try.func8, Try.ntmps8
  go_wp2_with fail
  have P1 := HP0.out
  have hV := balloc (below_alloc w (.cells #[.int .i64 x1, .int .i64 y1, .slice A1 l1.length c1] 34)) (.cells #[.int .i64 x2, .int .i64 y2, .slice A2 l2.length c2] 34)
  generalize (w.alloc (.cells #[.int .i64 x1, .int .i64 y1, .slice A1 l1.length c1] 34)).alloc (.cells #[.int .i64 x2, .int .i64 y2, .slice A2 l2.length c2] 34) = V at P1 hV HP0 ⊢
  obtain ⟨a0, a1, a2⟩ := P1.1.cells
  obtain ⟨b0, b1, b2⟩ := P1.2.cells
  have P := two_below P1 (Below.refl V.heap.size V).drew
  have hV := hV.drew
  clear P1
  go_region_held3 (fun w' => w'.cell? ⟨w.heap.size, 0, none⟩ = some (.int .i64 x1) ∧ w'.cell? ⟨w.heap.size, 1, none⟩ = some (.int .i64 y1) ∧ w'.cell? ⟨w.heap.size, 2, none⟩ = some (.slice A1 l1.length c1) ∧ w'.cell? ⟨w.heap.size + 1, 0, none⟩ = some (.int .i64 x2) ∧ w'.cell? ⟨w.heap.size + 1, 1, none⟩ = some (.int .i64 y2) ∧ w'.cell? ⟨w.heap.size + 1, 2, none⟩ = some (.slice A2 l2.length c2)) (go_keep) (first | (go_at_call 42; (with_reducible refine (K1.out _ _ V.drew P.1.row).mono ?_); rintro e v1 ⟨rfl, hv1⟩; have P := two_below P hv1; obtain ⟨a0, a1, a2⟩ := P.1.cells; obtain ⟨b0, b1, b2⟩ := P.2.cells; have e1 := bstep hV hv1) | (go_at_call 43; (with_reducible refine (K2.out _ P.1.row).mono ?_); rintro e v2 ⟨rfl, hv2⟩; have P := two_below P hv2; obtain ⟨a0, a1, a2⟩ := P.1.cells; obtain ⟨b0, b1, b2⟩ := P.2.cells; have e2 := bstep e1 hv2) | (go_at_call 44; (with_reducible refine (K3.out _ P.1.row).mono ?_); rintro e v3 ⟨A', cap', rfl, him, hv3⟩; have P := two_below P hv3; obtain ⟨a0, a1, a2⟩ := P.1.cells; obtain ⟨b0, b1, b2⟩ := P.2.cells; have e3 := bstep e2 hv3; have RC := him.row; clear him e1) | (go_at_call 42; (with_reducible refine (K1.out A' cap' _ RC).mono ?_); rintro e v4 ⟨rfl, hv4⟩; have P := two_below P hv4; obtain ⟨a0, a1, a2⟩ := P.1.cells; obtain ⟨b0, b1, b2⟩ := P.2.cells; have e4 := bstep e3 hv4; clear e3 RC) | (go_at_call 42; (with_reducible refine (K1.out A1 c1 _ P.1.row).mono ?_); rintro e v5 ⟨rfl, hv5⟩; have P := two_below P hv5; obtain ⟨a0, a1, a2⟩ := P.1.cells; obtain ⟨b0, b1, b2⟩ := P.2.cells; have e5 := bstep e4 hv5; clear e4) | (go_at_call 45; (with_reducible refine (K4.out _ P.1.row P.2.row).mono ?_); rintro e v6 ⟨rfl, hv6⟩; have P := two_below P hv6; obtain ⟨a0, a1, a2⟩ := P.1.cells; obtain ⟨b0, b1, b2⟩ := P.2.cells; have e6 := bstep e5 hv6) | (go_at_call 42; (with_reducible refine (K1.out A1 c1 _ P.1.row).mono ?_); rintro e v7 ⟨rfl, hv7⟩; have P := two_below P hv7; obtain ⟨a0, a1, a2⟩ := P.1.cells; obtain ⟨b0, b1, b2⟩ := P.2.cells; have e7 := bstep e6 hv7; clear e6) | (go_at_call 42; (with_reducible refine (K5.out _ P.2.row).mono ?_); rintro e v8 ⟨rfl, hv8⟩; have P := two_below P hv8; obtain ⟨a0, a1, a2⟩ := P.1.cells; obtain ⟨b0, b1, b2⟩ := P.2.cells; have e8 := bstep e7 hv8) | (go_at_call 34; (with_reducible refine (awake35 _).mono ?_); rintro e v9 ⟨rfl, hv9⟩; have P := two_below P hv9; obtain ⟨a0, a1, a2⟩ := P.1.cells; obtain ⟨b0, b1, b2⟩ := P.2.cells))
  go_wp2
  go_ret
  exact ⟨rfl, bstep e8 hv9⟩

set_option maxRecDepth 100000 in
set_option maxHeartbeats 8000000 in
theorem digests_other (x1 y1 : Int) (A1 : Option Addr) (l1 : List Int) (c1 : Nat) (x2 y2 : Int) (A2 : Option Addr) (l2 : List Int) (c2 : Nat) (w : World) (h1 : ¬ 600 < l1.length) (h2 : ¬ 600 < l2.length) (r1 : RowAt w w.heap.size .u8 A1 l1) (r2 : RowAt w w.heap.size .u8 A2 l2) (u1 : U8s l1) (u2 : U8s l2) (hS : ¬ (x1 = x2 ∧ y1 = y2 ∧ l1 = l2)) :
    Calls Try.prog 8 #[imgV x1 y1 A1 l1.length c1, imgV x2 y2 A2 l2.length c2] w fun e w' => e = .returned (.bool true) ∧ Below w.heap.size w w' := by
  have hm1 : l1.length ≤ maxLen := by unfold maxLen; omega
  have hm2 : l2.length ≤ maxLen := by unfold maxLen; omega
  have K1 := hide fun (A : Option Addr) (c : Nat) (w' : World) (hr : RowAt w' w'.heap.size .u8 A l1) => digest_any x1 y1 A l1 c w' hr hm1
  have K2 := hide fun (w' : World) (hr : RowAt w' w'.heap.size .u8 A1 l1) => refDigest_any x1 y1 A1 l1 c1 w' hr (by omega)
  have K3 := hide fun (w' : World) (hr : RowAt w' w'.heap.size .u8 A1 l1) => clone_any x1 y1 A1 l1 c1 w' hr (by omega)
  have K4 := hide fun (w' : World) (hr1 : RowAt w' w'.heap.size .u8 A1 l1) (hr2 : RowAt w' w'.heap.size .u8 A2 l2) => (same_any x1 y1 A1 l1 c1 x2 y2 A2 l2 c2 w' hr1 hr2 u1 u2)
  rw [sameB_not hS] at K4
  obtain ⟨D, hD⟩ : ∃ D, D = digL (digS y1 (digS x1 14695981039346656037 4) 4) l1 := ⟨_, rfl⟩
  rw [← hD] at K1 K2
  have P0 : Pic ((w.alloc (.cells #[.int .i64 x1, .int .i64 y1, .slice A1 l1.length c1] 34)).alloc (.cells #[.int .i64 x2, .int .i64 y2, .slice A2 l2.length c2] 34)) w.heap.size x1 y1 A1 l1 c1 ∧ Pic ((w.alloc (.cells #[.int .i64 x1, .int .i64 y1, .slice A1 l1.length c1] 34)).alloc (.cells #[.int .i64 x2, .int .i64 y2, .slice A2 l2.length c2] 34)) (w.heap.size + 1) x2 y2 A2 l2 c2 :=
    ⟨(Pic.new r1).alloc _, by
      have := Pic.new (x := x2) (y := y2) (cap := c2) ((r2.below (below_alloc w (.cells #[.int .i64 x1, .int .i64 y1, .slice A1 l1.length c1] 34)) (Nat.le_refl _)).more (by simp) : RowAt (w.alloc (.cells #[.int .i64 x1, .int .i64 y1, .slice A1 l1.length c1] 34)) (w.alloc (.cells #[.int .i64 x1, .int .i64 y1, .slice A1 l1.length c1] 34)).heap.size _ _ _)
      simpa using this⟩
  have HP0 := hide P0
  clear hS r1 r2 u1 u2 hD P0 hm1 hm2
  go_enter Try.func8, Try.ntmps8
  go_wp2_with fail
  have P1 := HP0.out
  have hV := balloc (below_alloc w (.cells #[.int .i64 x1, .int .i64 y1, .slice A1 l1.length c1] 34)) (.cells #[.int .i64 x2, .int .i64 y2, .slice A2 l2.length c2] 34)
  generalize (w.alloc (.cells #[.int .i64 x1, .int .i64 y1, .slice A1 l1.length c1] 34)).alloc (.cells #[.int .i64 x2, .int .i64 y2, .slice A2 l2.length c2] 34) = V at P1 hV HP0 ⊢
  obtain ⟨a0, a1, a2⟩ := P1.1.cells
  obtain ⟨b0, b1, b2⟩ := P1.2.cells
  have P := two_below P1 (Below.refl V.heap.size V).drew
  have hV := hV.drew
  clear P1
  -- MANUAL
  refine wp_region_noPanic ?_
  refine wp_region_held_drew (S := (fun w' => w'.cell? ⟨w.heap.size, 0, none⟩ = some (.int .i64 x1) ∧ w'.cell? ⟨w.heap.size, 1, none⟩ = some (.int .i64 y1) ∧ w'.cell? ⟨w.heap.size, 2, none⟩ = some (.slice A1 l1.length c1) ∧ w'.cell? ⟨w.heap.size + 1, 0, none⟩ = some (.int .i64 x2) ∧ w'.cell? ⟨w.heap.size + 1, 1, none⟩ = some (.int .i64 y2) ∧ w'.cell? ⟨w.heap.size + 1, 2, none⟩ = some (.slice A2 l2.length c2))) (by kernel_rfl) ?_ (fun hHeld => ?_)
  · ((try dsimp only); go_keep)
  refine wpAnyH_take (i := 0) (v := ?v0) rfl (by kernel_rfl) (by kernel_rfl) (by kernel_rfl) (fun _ _ _ h => h) (Or.inl ⟨by rfl, ?hy0⟩) (by assumption) ?rest0
  case hy0 => (intro w hSw; (try dsimp only at hSw); go_simp; try with_reducible rfl)
  try simp only [Act.put, List.setIfInBounds_toArray, List.set_cons_zero, List.set_cons_succ, List.getElem_toArray, List.getElem_cons_succ, List.getElem_cons_zero]
  refine wpAnyH_take (i := 2) (v := ?v2) rfl (by kernel_rfl) (by kernel_rfl) (by kernel_rfl) (fun _ _ _ h => h) (Or.inl ⟨by rfl, ?hy2⟩) (by assumption) ?rest2
  case hy2 => (intro w hSw; (try dsimp only at hSw); go_simp; try with_reducible rfl)
  try simp only [Act.put, List.setIfInBounds_toArray, List.set_cons_zero, List.set_cons_succ, List.getElem_toArray, List.getElem_cons_succ, List.getElem_cons_zero]
  refine wpAnyH_ready (rs := [1]) (by kernel_rfl) (by simp) ?_
  refine AllReadyH.cons rfl (fun K hK => ?_) AllReadyH.nil
  go_simp
  refine (K1.out _ _ V.drew P.1.row).mono ?_
  rintro e v1 ⟨rfl, hv1⟩
  have P := two_below P hv1
  obtain ⟨a0, a1, a2⟩ := P.1.cells
  obtain ⟨b0, b1, b2⟩ := P.2.cells
  have e1 := bstep hV hv1
  go_simp
  refine hK.out _ _ ?_ (fun hHeld => ?_)
  · ((try dsimp only); go_keep)
  clear hK K
  try simp only [Act.put, List.setIfInBounds_toArray, List.set_cons_zero, List.set_cons_succ, List.getElem_toArray, List.getElem_cons_succ, List.getElem_cons_zero]
  refine wpAnyH_ready (rs := [3]) (by kernel_rfl) (by simp) ?_
  refine AllReadyH.cons rfl (fun K hK => ?_) AllReadyH.nil
  go_simp
  refine (K2.out _ P.1.row).mono ?_
  rintro e v2 ⟨rfl, hv2⟩
  have P := two_below P hv2
  obtain ⟨a0, a1, a2⟩ := P.1.cells
  obtain ⟨b0, b1, b2⟩ := P.2.cells
  have e2 := bstep e1 hv2
  go_simp
  refine hK.out _ _ ?_ (fun hHeld => ?_)
  · ((try dsimp only); go_keep)
  clear hK K
  try simp only [Act.put, List.setIfInBounds_toArray, List.set_cons_zero, List.set_cons_succ, List.getElem_toArray, List.getElem_cons_succ, List.getElem_cons_zero]
  refine wpAnyH_take (i := 4) (v := ?v4) rfl (by kernel_rfl) (by kernel_rfl) (by kernel_rfl) (fun _ _ _ h => h) (Or.inl ⟨by rfl, ?hy4⟩) (by assumption) ?rest4
  case hy4 => (intro w hSw; (try dsimp only at hSw); go_simp; try with_reducible rfl)
  try simp only [Act.put, List.setIfInBounds_toArray, List.set_cons_zero, List.set_cons_succ, List.getElem_toArray, List.getElem_cons_succ, List.getElem_cons_zero]
  refine wpAnyH_take (i := 5) (v := ?v5) rfl (by kernel_rfl) (by kernel_rfl) (by kernel_rfl) (fun _ _ _ h => h) (Or.inl ⟨by rfl, ?hy5⟩) (by assumption) ?rest5
  case hy5 => (intro w hSw; (try dsimp only at hSw); go_simp; try with_reducible rfl)
  try simp only [Act.put, List.setIfInBounds_toArray, List.set_cons_zero, List.set_cons_succ, List.getElem_toArray, List.getElem_cons_succ, List.getElem_cons_zero]
  refine wpAnyH_take (i := 6) (v := ?v6) rfl (by kernel_rfl) (by kernel_rfl) (by kernel_rfl) (fun _ _ _ h => h) (Or.inl ⟨by rfl, ?hy6⟩) (by assumption) ?rest6
  case hy6 => (intro w hSw; (try dsimp only at hSw); go_simp; try with_reducible rfl)
  try simp only [Act.put, List.setIfInBounds_toArray, List.set_cons_zero, List.set_cons_succ, List.getElem_toArray, List.getElem_cons_succ, List.getElem_cons_zero]
  refine wpAnyH_take (i := 9) (v := ?v9) rfl (by kernel_rfl) (by kernel_rfl) (by kernel_rfl) (fun _ _ _ h => h) (Or.inl ⟨by rfl, ?hy9⟩) (by assumption) ?rest9
  case hy9 => (intro w hSw; (try dsimp only at hSw); go_simp; try with_reducible rfl)
  try simp only [Act.put, List.setIfInBounds_toArray, List.set_cons_zero, List.set_cons_succ, List.getElem_toArray, List.getElem_cons_succ, List.getElem_cons_zero]
  refine wpAnyH_ready (rs := [7]) (by kernel_rfl) (by simp) ?_
  refine AllReadyH.cons rfl (fun K hK => ?_) AllReadyH.nil
  go_simp
  refine (K3.out _ P.1.row).mono ?_
  rintro e v3 ⟨A', cap', rfl, him, hv3⟩
  have P := two_below P hv3
  obtain ⟨a0, a1, a2⟩ := P.1.cells
  obtain ⟨b0, b1, b2⟩ := P.2.cells
  have e3 := bstep e2 hv3
  have RC := him.row
  clear him e1
  go_simp
  refine hK.out _ _ ?_ (fun hHeld => ?_)
  · ((try dsimp only); go_keep)
  clear hK K
  try simp only [Act.put, List.setIfInBounds_toArray, List.set_cons_zero, List.set_cons_succ, List.getElem_toArray, List.getElem_cons_succ, List.getElem_cons_zero]
  refine wpAnyH_ready (rs := [8]) (by kernel_rfl) (by simp) ?_
  refine AllReadyH.cons rfl (fun K hK => ?_) AllReadyH.nil
  go_simp
  refine (K1.out A' cap' _ RC).mono ?_
  rintro e v4 ⟨rfl, hv4⟩
  have P := two_below P hv4
  obtain ⟨a0, a1, a2⟩ := P.1.cells
  obtain ⟨b0, b1, b2⟩ := P.2.cells
  have e4 := bstep e3 hv4
  clear e3 RC
  go_simp
  refine hK.out _ _ ?_ (fun hHeld => ?_)
  · ((try dsimp only); go_keep)
  clear hK K
  try simp only [Act.put, List.setIfInBounds_toArray, List.set_cons_zero, List.set_cons_succ, List.getElem_toArray, List.getElem_cons_succ, List.getElem_cons_zero]
  refine wpAnyH_ready (rs := [10]) (by kernel_rfl) (by simp) ?_
  refine AllReadyH.cons rfl (fun K hK => ?_) AllReadyH.nil
  go_simp
  refine (K1.out A1 c1 _ P.1.row).mono ?_
  rintro e v5 ⟨rfl, hv5⟩
  have P := two_below P hv5
  obtain ⟨a0, a1, a2⟩ := P.1.cells
  obtain ⟨b0, b1, b2⟩ := P.2.cells
  have e5 := bstep e4 hv5
  clear e4
  go_simp
  refine hK.out _ _ ?_ (fun hHeld => ?_)
  · ((try dsimp only); go_keep)
  clear hK K
  try simp only [Act.put, List.setIfInBounds_toArray, List.set_cons_zero, List.set_cons_succ, List.getElem_toArray, List.getElem_cons_succ, List.getElem_cons_zero]
  refine wpAnyH_take (i := 11) (v := ?v11) rfl (by kernel_rfl) (by kernel_rfl) (by kernel_rfl) (fun _ _ _ h => h) (Or.inl ⟨by rfl, ?hy11⟩) (by assumption) ?rest11
  case hy11 => (intro w hSw; (try dsimp only at hSw); go_simp; try with_reducible rfl)
  try simp only [Act.put, List.setIfInBounds_toArray, List.set_cons_zero, List.set_cons_succ, List.getElem_toArray, List.getElem_cons_succ, List.getElem_cons_zero]
  refine wpAnyH_take (i := 12) (v := ?v12) rfl (by kernel_rfl) (by kernel_rfl) (by kernel_rfl) (fun _ _ _ h => h) (Or.inl ⟨by rfl, ?hy12⟩) (by assumption) ?rest12
  case hy12 => (intro w hSw; (try dsimp only at hSw); go_simp; try with_reducible rfl)
  try simp only [Act.put, List.setIfInBounds_toArray, List.set_cons_zero, List.set_cons_succ, List.getElem_toArray, List.getElem_cons_succ, List.getElem_cons_zero]
  refine wpAnyH_take (i := 13) (v := ?v13) rfl (by kernel_rfl) (by kernel_rfl) (by kernel_rfl) (fun _ _ _ h => h) (Or.inl ⟨by rfl, ?hy13⟩) (by assumption) ?rest13
  case hy13 => (intro w hSw; (try dsimp only at hSw); go_simp; try with_reducible rfl)
  try simp only [Act.put, List.setIfInBounds_toArray, List.set_cons_zero, List.set_cons_succ, List.getElem_toArray, List.getElem_cons_succ, List.getElem_cons_zero]
  refine wpAnyH_take (i := 14) (v := ?v14) rfl (by kernel_rfl) (by kernel_rfl) (by kernel_rfl) (fun _ _ _ h => h) (Or.inl ⟨by rfl, ?hy14⟩) (by assumption) ?rest14
  case hy14 => (intro w hSw; (try dsimp only at hSw); go_simp; try with_reducible rfl)
  try simp only [Act.put, List.setIfInBounds_toArray, List.set_cons_zero, List.set_cons_succ, List.getElem_toArray, List.getElem_cons_succ, List.getElem_cons_zero]
  refine wpAnyH_take (i := 15) (v := ?v15) rfl (by kernel_rfl) (by kernel_rfl) (by kernel_rfl) (fun _ _ _ h => h) (Or.inl ⟨by rfl, ?hy15⟩) (by assumption) ?rest15
  case hy15 => (intro w hSw; (try dsimp only at hSw); go_simp; try with_reducible rfl)
  try simp only [Act.put, List.setIfInBounds_toArray, List.set_cons_zero, List.set_cons_succ, List.getElem_toArray, List.getElem_cons_succ, List.getElem_cons_zero]
  refine wpAnyH_ready (rs := [16]) (by kernel_rfl) (by simp) ?_
  refine AllReadyH.cons rfl (fun K hK => ?_) AllReadyH.nil
  go_simp
  refine (K4.out _ P.1.row P.2.row).mono ?_
  rintro e v6 ⟨rfl, hv6⟩
  have P := two_below P hv6
  obtain ⟨a0, a1, a2⟩ := P.1.cells
  obtain ⟨b0, b1, b2⟩ := P.2.cells
  have e6 := bstep e5 hv6
  go_simp
  refine hK.out _ _ ?_ (fun hHeld => ?_)
  · ((try dsimp only); go_keep)
  clear hK K
  try simp only [Act.put, List.setIfInBounds_toArray, List.set_cons_zero, List.set_cons_succ, List.getElem_toArray, List.getElem_cons_succ, List.getElem_cons_zero]
  refine wpAnyH_take (i := 17) (v := ?v17) rfl (by kernel_rfl) (by kernel_rfl) (by kernel_rfl) (fun _ _ _ h => h) (Or.inl ⟨by rfl, ?hy17⟩) (by assumption) ?rest17
  case hy17 => (intro w hSw; (try dsimp only at hSw); go_simp; try with_reducible rfl)
  try simp only [Act.put, List.setIfInBounds_toArray, List.set_cons_zero, List.set_cons_succ, List.getElem_toArray, List.getElem_cons_succ, List.getElem_cons_zero]
  refine wpAnyH_take (i := 18) (v := ?v18) rfl (by kernel_rfl) (by kernel_rfl) (by kernel_rfl) (fun _ _ _ h => h) (Or.inl ⟨by rfl, ?hy18⟩) (by assumption) ?rest18
  case hy18 => (intro w hSw; (try dsimp only at hSw); go_simp; try with_reducible rfl)
  try simp only [Act.put, List.setIfInBounds_toArray, List.set_cons_zero, List.set_cons_succ, List.getElem_toArray, List.getElem_cons_succ, List.getElem_cons_zero]
  refine wpAnyH_take (i := 19) (v := undef) rfl (by kernel_rfl) (by kernel_rfl) (by kernel_rfl) (fun _ _ _ h => h) (Or.inr ⟨by rfl, rfl⟩) (by assumption) ?_
  try simp only [Act.put, List.setIfInBounds_toArray, List.set_cons_zero, List.set_cons_succ, List.getElem_toArray, List.getElem_cons_succ, List.getElem_cons_zero]
  refine wpAnyH_take (i := 21) (v := undef) rfl (by kernel_rfl) (by kernel_rfl) (by kernel_rfl) (fun _ _ _ h => h) (Or.inr ⟨by rfl, rfl⟩) (by assumption) ?_
  try simp only [Act.put, List.setIfInBounds_toArray, List.set_cons_zero, List.set_cons_succ, List.getElem_toArray, List.getElem_cons_succ, List.getElem_cons_zero]
  refine wpAnyH_ready (rs := [20]) (by kernel_rfl) (by simp) ?_
  refine AllReadyH.cons rfl (fun K hK => ?_) AllReadyH.nil
  go_simp
  refine hK.out _ _ ?_ (fun hHeld => ?_)
  · ((try dsimp only); go_keep)
  clear hK K
  try simp only [Act.put, List.setIfInBounds_toArray, List.set_cons_zero, List.set_cons_succ, List.getElem_toArray, List.getElem_cons_succ, List.getElem_cons_zero]
  refine wpAnyH_ready (rs := [22]) (by kernel_rfl) (by simp) ?_
  refine AllReadyH.cons rfl (fun K hK => ?_) AllReadyH.nil
  go_simp
  refine hK.out _ _ ?_ (fun hHeld => ?_)
  · ((try dsimp only); go_keep)
  clear hK K
  try simp only [Act.put, List.setIfInBounds_toArray, List.set_cons_zero, List.set_cons_succ, List.getElem_toArray, List.getElem_cons_succ, List.getElem_cons_zero]
  refine wpAnyH_take (i := 23) (v := undef) rfl (by kernel_rfl) (by kernel_rfl) (by kernel_rfl) (fun _ _ _ h => h) (Or.inr ⟨by rfl, rfl⟩) (by assumption) ?_
  try simp only [Act.put, List.setIfInBounds_toArray, List.set_cons_zero, List.set_cons_succ, List.getElem_toArray, List.getElem_cons_succ, List.getElem_cons_zero]
  refine wpAnyH_take (i := 24) (v := ?v24) rfl (by kernel_rfl) (by kernel_rfl) (by kernel_rfl) (fun _ _ _ h => h) (Or.inl ⟨by rfl, ?hy24⟩) (by assumption) ?rest24
  case hy24 => (intro w hSw; (try dsimp only at hSw); go_simp; try with_reducible rfl)
  try simp only [Act.put, List.setIfInBounds_toArray, List.set_cons_zero, List.set_cons_succ, List.getElem_toArray, List.getElem_cons_succ, List.getElem_cons_zero]
  refine wpAnyH_take (i := 25) (v := ?v25) rfl (by kernel_rfl) (by kernel_rfl) (by kernel_rfl) (fun _ _ _ h => h) (Or.inl ⟨by rfl, ?hy25⟩) (by assumption) ?rest25
  case hy25 => (intro w hSw; (try dsimp only at hSw); go_simp; try with_reducible rfl)
  try simp only [Act.put, List.setIfInBounds_toArray, List.set_cons_zero, List.set_cons_succ, List.getElem_toArray, List.getElem_cons_succ, List.getElem_cons_zero]
  refine wpAnyH_take (i := 26) (v := ?v26) rfl (by kernel_rfl) (by kernel_rfl) (by kernel_rfl) (fun _ _ _ h => h) (Or.inl ⟨by rfl, ?hy26⟩) (by assumption) ?rest26
  case hy26 => (intro w hSw; (try dsimp only at hSw); go_simp; try with_reducible rfl)
  try simp only [Act.put, List.setIfInBounds_toArray, List.set_cons_zero, List.set_cons_succ, List.getElem_toArray, List.getElem_cons_succ, List.getElem_cons_zero]
  refine wpAnyH_ready (rs := [27]) (by kernel_rfl) (by simp) ?_
  refine AllReadyH.cons rfl (fun K hK => ?_) AllReadyH.nil
  go_simp
  refine (awake35 _).mono ?_
  rintro e v9 ⟨rfl, hv9⟩
  have P := two_below P hv9
  obtain ⟨a0, a1, a2⟩ := P.1.cells
  obtain ⟨b0, b1, b2⟩ := P.2.cells
  skip
  go_simp
  refine hK.out _ _ ?_ (fun hHeld => ?_)
  · ((try dsimp only); go_keep)
  clear hK K
  try simp only [Act.put, List.setIfInBounds_toArray, List.set_cons_zero, List.set_cons_succ, List.getElem_toArray, List.getElem_cons_succ, List.getElem_cons_zero]
  refine wpAnyH_take (i := 28) (v := ?v28) rfl (by kernel_rfl) (by kernel_rfl) (by kernel_rfl) (fun _ _ _ h => h) (Or.inl ⟨by rfl, ?hy28⟩) (by assumption) ?rest28
  case hy28 => (intro w hSw; (try dsimp only at hSw); go_simp; try with_reducible rfl)
  try simp only [Act.put, List.setIfInBounds_toArray, List.set_cons_zero, List.set_cons_succ, List.getElem_toArray, List.getElem_cons_succ, List.getElem_cons_zero]
  refine wpAnyH_take (i := 29) (v := ?v29) rfl (by kernel_rfl) (by kernel_rfl) (by kernel_rfl) (fun _ _ _ h => h) (Or.inl ⟨by rfl, ?hy29⟩) (by assumption) ?rest29
  case hy29 => (intro w hSw; (try dsimp only at hSw); go_simp; try with_reducible rfl)
  try simp only [Act.put, List.setIfInBounds_toArray, List.set_cons_zero, List.set_cons_succ, List.getElem_toArray, List.getElem_cons_succ, List.getElem_cons_zero]
  refine wpAnyH_done (by kernel_rfl) ?_ _
  refine NoPanic.normal ?_
  go_wp2
  go_ret
  exact ⟨rfl, bstep e6 hv9⟩

theorem cmpDigests_law (w : World) (x1 y1 : Int) (A1 : Option Addr) (l1 : List Int) (c1 : Nat) (_ : I64 x1) (_ : I64 y1) (r1 : RowAt w w.heap.size .u8 A1 l1) (u1 : U8s l1) (hm1 : l1.length ≤ maxLen) (hc1 : l1.length ≤ c1)
    (x2 y2 : Int) (A2 : Option Addr) (l2 : List Int) (c2 : Nat) (_ : I64 x2) (_ : I64 y2) (r2 : RowAt w w.heap.size .u8 A2 l2) (u2 : U8s l2) (hm2 : l2.length ≤ maxLen) (hc2 : l2.length ≤ c2) :
    Calls Try.prog 8 #[imgV x1 y1 A1 l1.length c1, imgV x2 y2 A2 l2.length c2] w fun e w' => e = .returned (.bool true) ∧ Below w.heap.size w w' := by
  by_cases h1 : 600 < l1.length
  · exact digests_big x1 y1 A1 _ c1 x2 y2 A2 _ c2 w (.inl h1)
  by_cases h2 : 600 < l2.length
  · exact digests_big x1 y1 A1 _ c1 x2 y2 A2 _ c2 w (.inr ⟨h1, h2⟩)
  by_cases hS : x1 = x2 ∧ y1 = y2 ∧ l1 = l2
  · exact digests_same x1 y1 A1 l1 c1 x2 y2 A2 l2 c2 w h1 h2 r1 r2 u1 u2 hS
  · exact digests_other x1 y1 A1 l1 c1 x2 y2 A2 l2 c2 w h1 h2 r1 r2 u1 u2 hS
end Go.Proofs.Ytkjnheikimpliaa
