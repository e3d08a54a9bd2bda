/- The reference's Gaps; cmp.Show's own function: walked. -/
import Derived.Test.YtkjnheikimpliaaCmpD
import Derived.Test.YtkjnheikimpliaaDithB
import Derived.Test.YtkjnheikimpliaaLawDithB
import Derived.Test.YtkjnheikimpliaaFrameA
namespace Go.Proofs.Ytkjnheikimpliaa
set_option linter.unusedVariables false
set_option linter.unusedSimpArgs false
open Go.RowKit
attribute [local go_sem ↓] Go.wp_at_zero Go.wp_at_succ

theorem gap_any (a b : Int) (ha : 0 ≤ a ∧ a ≤ 255) (hb : 0 ≤ b ∧ b ≤ 255) (w : World) : Calls Try.prog 129 #[.int .u8 a, .int .u8 b] w fun e w' => e = .returned (.int .i64 (gapN a b)) ∧ w = w' := by
  by_cases h : a < b
  · have hg : gapN a b = -(a - b) := by unfold gapN; omega
    rw [hg]
    have h1 : a - b < 0 := by omega
    go_enter Try.func129, Try.ntmps129
    go_wp2
    go_ret
    exact ⟨rfl, rfl⟩
  · have hg : gapN a b = a - b := by unfold gapN; omega
    rw [hg]
    have h1 : ¬ a - b < 0 := by omega
    go_enter Try.func129, Try.ntmps129
    go_wp2
    go_ret
    exact ⟨rfl, rfl⟩
theorem gapN_bd {a b : Int} (ha : 0 ≤ a ∧ a ≤ 255) (hb : 0 ≤ b ∧ b ≤ 255) : 0 ≤ gapN a b ∧ gapN a b ≤ 255 := by unfold gapN; omega

abbrev gapCells (c o : Col) : Array Value := #[.int .i64 (gapN c.r o.r), .int .i64 (gapN c.g o.g), .int .i64 (gapN c.b o.b), .int .i64 (gapN c.a o.a)]
set_option maxHeartbeats 2000000 in
theorem gaps_any (c o : Col) (hc : c.ok) (ho : o.ok) (w : World) : Calls Try.prog 79 #[colV c, colV o] w fun e w' => ∃ g, e = .returned (.slice (some ⟨g, 0, none⟩) 4 4) ∧ w.heap.size ≤ g ∧ Blk w' g 3 #[.int .i64 (gapN c.r o.r), .int .i64 (gapN c.g o.g), .int .i64 (gapN c.b o.b), .int .i64 (gapN c.a o.a)] ∧ Below w.heap.size w w' := by
  have KR := hide (gap_any c.r o.r hc.1 ho.1)
  have KG := hide (gap_any c.g o.g hc.2.1 ho.2.1)
  have KB := hide (gap_any c.b o.b hc.2.2.1 ho.2.2.1)
  have KA := hide (gap_any c.a o.a hc.2.2.2 ho.2.2.2)
  obtain ⟨n0, h0⟩ : ∃ n, n = gapN c.r o.r := ⟨_, rfl⟩
  obtain ⟨n1, h1⟩ : ∃ n, n = gapN c.g o.g := ⟨_, rfl⟩
  obtain ⟨n2, h2⟩ : ∃ n, n = gapN c.b o.b := ⟨_, rfl⟩
  obtain ⟨n3, h3⟩ : ∃ n, n = gapN c.a o.a := ⟨_, rfl⟩
  rw [← h0] at KR ⊢
  rw [← h1] at KG ⊢
  rw [← h2] at KB ⊢
  rw [← h3] at KA ⊢
  clear h0 h1 h2 h3 hc ho
  obtain ⟨y0, y1, y2, y3⟩ := c
  obtain ⟨z0, z1, z2, z3⟩ := o
  have hbv : Below w.heap.size w ((w.alloc (.cells #[.int .u8 y0, .int .u8 y1, .int .u8 y2, .int .u8 y3] 36)).alloc (.cells #[.int .u8 z0, .int .u8 z1, .int .u8 z2, .int .u8 z3] 36)) := balloc (below_alloc w _) _
  have hC : Blk ((w.alloc (.cells #[.int .u8 y0, .int .u8 y1, .int .u8 y2, .int .u8 y3] 36)).alloc (.cells #[.int .u8 z0, .int .u8 z1, .int .u8 z2, .int .u8 z3] 36)) w.heap.size 36 #[.int .u8 y0, .int .u8 y1, .int .u8 y2, .int .u8 y3] := (Blk.new _ _ _).alloc _
  have hO : Blk ((w.alloc (.cells #[.int .u8 y0, .int .u8 y1, .int .u8 y2, .int .u8 y3] 36)).alloc (.cells #[.int .u8 z0, .int .u8 z1, .int .u8 z2, .int .u8 z3] 36)) (w.heap.size + 1) 36 #[.int .u8 z0, .int .u8 z1, .int .u8 z2, .int .u8 z3] := Blk.new' _ _ _ _ (by simp)
  go_enter Try.func79, Try.ntmps79
  go_wp2_with fail
  have hz : ((w.alloc (.cells #[.int .u8 y0, .int .u8 y1, .int .u8 y2, .int .u8 y3] 36)).alloc (.cells #[.int .u8 z0, .int .u8 z1, .int .u8 z2, .int .u8 z3] 36)).heap.size = w.heap.size + 1 + 1 := by simp
  generalize (w.alloc (.cells #[.int .u8 y0, .int .u8 y1, .int .u8 y2, .int .u8 y3] 36)).alloc (.cells #[.int .u8 z0, .int .u8 z1, .int .u8 z2, .int .u8 z3] 36) = V at hbv hC hO hz ⊢
  obtain ⟨c0, c1, c2, c3, -⟩ := blk4 hC
  obtain ⟨o0, o1, o2, o3, -⟩ := blk4 hO
  have HBV := hide hbv
  clear hC hO hbv
  first | (go_region_held3 (fun w' => w'.cell? ⟨w.heap.size, 0, none⟩ = some (.int .u8 y0) ∧ w'.cell? ⟨w.heap.size, 1, none⟩ = some (.int .u8 y1) ∧ w'.cell? ⟨w.heap.size, 2, none⟩ = some (.int .u8 y2) ∧ w'.cell? ⟨w.heap.size, 3, none⟩ = some (.int .u8 y3) ∧ w'.cell? ⟨w.heap.size + 1, 0, none⟩ = some (.int .u8 z0) ∧ w'.cell? ⟨w.heap.size + 1, 1, none⟩ = some (.int .u8 z1) ∧ w'.cell? ⟨w.heap.size + 1, 2, none⟩ = some (.int .u8 z2) ∧ w'.cell? ⟨w.heap.size + 1, 3, none⟩ = some (.int .u8 z3)) (go_keep) (first | (go_at_call 129; (with_reducible refine (KR.out _).mono ?_); rintro e w1 ⟨rfl, rfl⟩) | (go_at_call 129; (with_reducible refine (KG.out _).mono ?_); rintro e w1 ⟨rfl, rfl⟩) | (go_at_call 129; (with_reducible refine (KB.out _).mono ?_); rintro e w1 ⟨rfl, rfl⟩) | (go_at_call 129; (with_reducible refine (KA.out _).mono ?_); rintro e w1 ⟨rfl, rfl⟩))) | fail
  all_goals
    go_wp2_with fail
    go_ret
    exact ⟨_, rfl, by omega, Blk.new' _ _ _ _ (by first | rfl | exact hz.symm | exact hz), balloc HBV.out.drew _⟩

/-- A pixel of the differences' image. -/
def showC (c o : Col) : Col := ⟨gapN c.r o.r, gapN c.g o.g, gapN c.b o.b, 255⟩
theorem enters128 (args : Array Value) (w : World) : (callFunc 128 args).run Try.prog w = .ok (.enter 128 args) w := enters_of Try.func128 (by kernel_rfl) rfl args w

set_option maxHeartbeats 4000000 in
theorem show1_any (c : Col) (hc : c.ok) (W H : Nat) (A1 : Option Addr) (n1 cap1 : Nat) (A : Option Addr) (l : List Int) (cap : Nat) (gb gk ga : Nat) (x y : Nat) (v : World) (hR : rightI W H l.length) (hr : RowAt v v.heap.size .u8 A l) (hcap : l.length ≤ cap) (hu : U8s l) (hx : x < W) (hy : y < H)
    (hk : Blk v gk 3 #[.int .i64 ((y * W + x : Nat) : Int)]) (hm : Blk v ga 34 #[.int .i64 W, .int .i64 H, .slice A1 n1 cap1]) (hb : Blk v gb 34 #[.int .i64 W, .int .i64 H, .slice A l.length cap]) (hne : gk ≠ ga) (hne2 : gk ≠ gb) :
    Calls Try.prog 128 #[colV c, .pointer (some ⟨gb, 0, none⟩), .pointer (some ⟨gk, 0, none⟩), .pointer (some ⟨ga, 0, none⟩)] v fun e v' =>
      e = .returned (colV (showC c (imgPx l W x y))) ∧ Blk v' gk 3 #[.int .i64 ((y * W + x + 1 : Nat) : Int)] ∧ v.heap.size ≤ v'.heap.size ∧ (∀ k, k < v.heap.size → k ≠ gk → v'.heap[k]? = v.heap[k]?) ∧ ∀ B, B ≤ gk → Below B v v' := by
  have KP := hide fun (w' : World) (hr : RowAt w' w'.heap.size .u8 A l) => (pixel_yes W H A l cap x y w' hR hr hcap (by omega) (by omega)).mono (R' := fun e w'' => e = .returned (.tuple #[colV (imgPx l W x y), .bool true]) ∧ Below w'.heap.size w' w'') (by
    rintro e w'' ⟨rfl, hb⟩
    refine ⟨?_, hb⟩
    unfold imgPx
    rw [nat_idx])
  have ho : (imgPx l W x y).ok := imgPx_ok hu _ _ _
  obtain ⟨o, heo⟩ : ∃ o, o = imgPx l W x y := ⟨_, rfl⟩
  rw [← heo] at KP ho ⊢
  have hW2 := hR.1.2
  have hH2 := hR.2.1.2
  have hn : y * W + x ≤ 268435456 := by
    have h1 : (y + 1) * W ≤ 16384 * 16384 := Nat.mul_le_mul (by omega) (by omega)
    rw [Nat.add_mul] at h1
    omega
  have em : ((y * W + x : Nat) : Int).tmod (W : Int) = (x : Int) := by rw [tmod_nat, at_mod W x y hx]
  have ed : ((y * W + x : Nat) : Int).tdiv (W : Int) = (y : Int) := by rw [tdiv_nat, at_div W x y hx]
  have ey : IntKind.i64.wrap (y : Int) = (y : Int) := IntWalk.i64_in _ (by omega)
  generalize y * W + x = n at hk hn em ed ⊢
  have hW0 : ¬ ((W : Int) = 0) := by omega
  have hW1 : ¬ (W = 0) := by omega
  have lk := hk.lt
  have lm := hm.lt
  have lb := hb.lt
  have KA := hide fun (w' : World) => (apart_any c o w' hc ho).mono (R' := fun e w'' => e = .returned (.agg #[.int .i64 (gapN c.r o.r), .int .i64 (gapN c.g o.g), .int .i64 (gapN c.b o.b), .int .i64 (gapN c.a o.a)]) ∧ Below w'.heap.size w' w'') (fun _ _ h => h)
  have b0 := gapN_bd hc.1 ho.1
  have b1 := gapN_bd hc.2.1 ho.2.1
  have b2 := gapN_bd hc.2.2.1 ho.2.2.1
  have hsc : showC c o = ⟨gapN c.r o.r, gapN c.g o.g, gapN c.b o.b, 255⟩ := rfl
  rw [hsc]
  obtain ⟨g0, h0⟩ : ∃ n, n = gapN c.r o.r := ⟨_, rfl⟩
  obtain ⟨g1, h1⟩ : ∃ n, n = gapN c.g o.g := ⟨_, rfl⟩
  obtain ⟨g2, h2⟩ : ∃ n, n = gapN c.b o.b := ⟨_, rfl⟩
  obtain ⟨g3, h3⟩ : ∃ n, n = gapN c.a o.a := ⟨_, rfl⟩
  rw [← h0] at KA b0 ⊢
  rw [← h1] at KA b1 ⊢
  rw [← h2] at KA b2 ⊢
  rw [← h3] at KA
  have f0 : IntKind.u8.wrap g0 = g0 := by simp [IntKind.wrap, IntKind.bits, IntKind.signed]; omega
  have f1 : IntKind.u8.wrap g1 = g1 := by simp [IntKind.wrap, IntKind.bits, IntKind.signed]; omega
  have f2 : IntKind.u8.wrap g2 = g2 := by simp [IntKind.wrap, IntKind.bits, IntKind.signed]; omega
  have hb2 : Below v.heap.size v ((v.alloc (.cells (col4 c) 36)).alloc (.cells #[.int .u8 0, .int .u8 0, .int .u8 0, .int .u8 0] 36)) := balloc (below_alloc v _) _
  have hC : Blk ((v.alloc (.cells (col4 c) 36)).alloc (.cells #[.int .u8 0, .int .u8 0, .int .u8 0, .int .u8 0] 36)) v.heap.size 36 (col4 c) := (Blk.new _ _ _).alloc _
  have hO : Blk ((v.alloc (.cells (col4 c) 36)).alloc (.cells #[.int .u8 0, .int .u8 0, .int .u8 0, .int .u8 0] 36)) (v.heap.size + 1) 36 #[.int .u8 0, .int .u8 0, .int .u8 0, .int .u8 0] := Blk.new' _ _ _ _ (by simp)
  have hk1 := hk.below hb2 lk
  have hm1 := hm.below hb2 lm
  have hb1 := hb.below hb2 lb
  have hr1 := (hr.below hb2 (Nat.le_refl _)).more hb2.size
  clear hR hr hcap hu heo hk hm hb h0 h1 h2 h3 hsc hc ho
  go_enter Try.func128, Try.ntmps128
  go_wp2_with fail
  generalize (v.alloc (.cells (col4 c) 36)).alloc (.cells #[.int .u8 0, .int .u8 0, .int .u8 0, .int .u8 0] 36) = V at hb2 hC hO hk1 hm1 hb1 hr1 ⊢
  have k0 := hk1.cell 0
  simp only [List.getElem?_toArray, List.getElem?_cons_succ, List.getElem?_cons_zero] at k0
  obtain ⟨m0, m1, m2, -⟩ := blk3 hm1
  obtain ⟨p0, p1, p2, -⟩ := blk3 hb1
  have KX := hide fun (w' : World) (hb : Below V.heap.size V w') => (KP.out w' ((hr1.below hb (Nat.le_refl _)).more hb.size)).mono (R' := fun e w'' => e = .returned (.tuple #[colV o, .bool true]) ∧ Below w'.heap.size w' w'' ∧ Below V.heap.size V w'') (fun e w'' h => ⟨h.1, h.2, bstep' hb h.2 hb.size⟩)
  have HC := hide hC
  have HO := hide hO
  have HK := hide hk1
  have HM := hide hm1
  have HB := hide hb1
  have HBV := hide hb2
  have lk1 := hk1.lt
  have lm1 := hm1.lt
  have lb1 := hb1.lt
  clear hC hO hk1 hm1 hb1 hr1 hb2
  go_cut [6] (fun s wx => ∃ P, s = .pointer (some ⟨P, 0, none⟩) ∧ V.heap.size ≤ P ∧ Below V.heap.size V wx ∧ Cl4 wx P o)
  case first =>
    clear HC HO HBV KA KP
    have n4 : ¬ gk = V.heap.size := by omega
    have n5 : ¬ ga = V.heap.size := by omega
    have n6 : ¬ gb = V.heap.size := by omega
    have n7 : ¬ V.heap.size = gk := by omega
    have n8 : ¬ V.heap.size = ga := by omega
    have n9 : ¬ V.heap.size = gb := by omega
    (go_region_held3 (fun w' => w'.cell? ⟨gk, 0, none⟩ = some (.int .i64 (n : Int)) ∧ w'.cell? ⟨ga, 0, none⟩ = some (.int .i64 (W : Int)) ∧ w'.cell? ⟨gb, 0, none⟩ = some (.int .i64 (W : Int)) ∧ w'.cell? ⟨gb, 1, none⟩ = some (.int .i64 (H : Int)) ∧ w'.cell? ⟨gb, 2, none⟩ = some (.slice A l.length cap)) (simp (maxDischargeDepth := 20) [*, World.cell?_alloc_some, World.cell?_setCell_far]) (first | (go_at_call 120; (with_reducible refine (KX.out _ (by (repeat (first | (with_reducible exact Below.refl _ _) | (with_reducible apply Below.drew) | (with_reducible refine balloc ?_ _))))).mono ?_); rintro e w1 ⟨rfl, hb1, hd⟩; have hq : Blk w1 V.heap.size 36 #[.int .u8 0, .int .u8 0, .int .u8 0, .int .u8 0] := Blk.below (by first | exact Blk.new V 36 _ | exact Blk.same (Blk.new V 36 _) rfl | exact Blk.new' V.drew 36 _ _ rfl) hb1 (by simp [World.drew]); have HQ2 := hide ((((hq.set_ 0 (.int .u8 o.r)).set_ 1 (.int .u8 o.g)).set_ 2 (.int .u8 o.b)).set_ 3 (.int .u8 o.a)); obtain ⟨v0, v1, v2, v3, z0, z1, z2, z3⟩ := blk4 hq; have hz := hd.size; have k0 : w1.cell? ⟨gk, 0, none⟩ = some (.int .i64 (n : Int)) := (HK.out.below hd lk1).cell 0; obtain ⟨m0, m1, m2, -⟩ := blk3 (HM.out.below hd lm1); obtain ⟨p0, p1, p2, -⟩ := blk3 (HB.out.below hd lb1); have n1 : ¬ gk = w1.heap.size := (by omega); have n2 : ¬ ga = w1.heap.size := (by omega); have n3 : ¬ gb = w1.heap.size := (by omega); have lq : V.heap.size < w1.heap.size := hq.lt) | (go_at_call 120; (with_reducible refine (KX.out _ (by (repeat (first | (with_reducible exact Below.refl _ _) | (with_reducible apply Below.drew) | (with_reducible refine balloc ?_ _))))).mono ?_); rintro e w1 ⟨rfl, hb1, hd⟩; have hz := hd.size; have k0 : w1.cell? ⟨gk, 0, none⟩ = some (.int .i64 (n : Int)) := (HK.out.below hd lk1).cell 0; obtain ⟨m0, m1, m2, -⟩ := blk3 (HM.out.below hd lm1); obtain ⟨p0, p1, p2, -⟩ := blk3 (HB.out.below hd lb1); have n1 : ¬ gk = w1.heap.size := (by omega); have n2 : ¬ ga = w1.heap.size := (by omega); have n3 : ¬ gb = w1.heap.size := (by omega))))
    all_goals
      go_wp2_with fail
      go_meet
      clear KX
      first
        | (refine ⟨_, rfl, Nat.le_refl _, ?_, ⟨by first | exact lq | (simp; exact lq), HQ2.out.cell 0, HQ2.out.cell 1, HQ2.out.cell 2, HQ2.out.cell 3⟩⟩
           repeat (first | (with_reducible exact hd) | (with_reducible apply Below.drew) | (with_reducible refine bset ?_ _ _ (Nat.le_refl _) _) | (with_reducible refine balloc ?_ _)))
        | (refine ⟨_, rfl, hd.size, ?_, ⟨?_, ?_, ?_, ?_, ?_⟩⟩
           · repeat (first | (with_reducible exact hd) | (with_reducible apply Below.drew) | (with_reducible refine balloc ?_ _))
           all_goals first | (simp (maxDischargeDepth := 20) [World.cell?_alloc_some, World.cell?_alloc_at]; done) | (simp; omega))
  case rest =>
    obtain ⟨P, rfl, hP, hV, hP4⟩ := hcut
    have hK := HK.out.below hV lk1
    have hC := HC.out.below hV HC.out.lt
    have hO := HO.out.below hV HO.out.lt
    have hbw := bstep HBV.out hV
    have hvz := HBV.out.size
    have lC := HC.out.lt
    have lO := HO.out.lt
    clear k0 m0 m1 m2 p0 p1 p2 HK HM HB HBV HC HO KX KP em ed ey
    obtain ⟨k0, q0⟩ : wc.cell? ⟨gk, 0, none⟩ = some (.int .i64 (n : Int)) ∧ wc.frozen? ⟨gk, 0, none⟩ = false := ⟨hK.cell 0, hK.frozen 0⟩
    have nC : v.heap.size ≠ gk := by omega
    have nO : v.heap.size + 1 ≠ gk := by omega
    have nP : P ≠ gk := by omega
    have hC4 := hC.far (p := ⟨gk, 0, none⟩) nC (.int .i64 ((n : Int) + 1))
    have hO4 := hO.far (p := ⟨gk, 0, none⟩) nO (.int .i64 ((n : Int) + 1))
    have hK4 : Blk (wc.setCell ⟨gk, 0, none⟩ (.int .i64 ((n : Int) + 1))) gk 3 #[.int .i64 ((n + 1 : Nat) : Int)] := by simpa using hK.set_ 0 (.int .i64 ((n : Int) + 1))
    have h4 : ∀ k, k ≠ gk → (wc.setCell ⟨gk, 0, none⟩ (.int .i64 ((n : Int) + 1))).heap[k]? = wc.heap[k]? := fun k hk => Below.heap_setCell _ _ _ _ hk
    have hz4 : (wc.setCell ⟨gk, 0, none⟩ (.int .i64 ((n : Int) + 1))).heap.size = wc.heap.size := by simp [World.setCell]
    have hB4 : ∀ B, B ≤ gk → Below B wc (wc.setCell ⟨gk, 0, none⟩ (.int .i64 ((n : Int) + 1))) := fun B hB => (Below.refl B wc).setCell (p := ⟨gk, 0, none⟩) hB _
    have hvc := hV.size
    go_upto_region 3 with fail
    generalize wc.setCell ⟨gk, 0, none⟩ (.int .i64 ((n : Int) + 1)) = V1 at hC4 hO4 hK4 h4 hz4 hB4 ⊢
    obtain ⟨c0, c1, c2, c3, -⟩ := blk4 hC4
    have e4 : ∀ j, V1.cell? ⟨P, j, none⟩ = wc.cell? ⟨P, j, none⟩ := fun j => World.cell?_of_block (a := ⟨P, j, none⟩) (h4 P nP)
    have o0 := (e4 0).trans hP4.c0
    have o1 := (e4 1).trans hP4.c1
    have o2 := (e4 2).trans hP4.c2
    have o3 := (e4 3).trans hP4.c3
    have HO4 := hide hO4
    have HK4 := hide hK4
    have HBW := hide hbw
    have HH4 := hide h4
    have HB4 := hide hB4
    clear hC4 hO4 hK4 hK hC hO k0 q0 e4 hbw h4 hB4 hP4
    go_wp2_with (go_at_call 126; (with_reducible refine (KA.out _).mono ?_); rintro e w3 ⟨rfl, hb3⟩; have hO5 := HO4.out.below hb3 HO4.out.lt; obtain ⟨r0, r1, r2, r3, s0, s1, s2, s3⟩ := blk4 hO5; obtain ⟨t0, t1, t2, t3, u0, u1, u2, u3⟩ := blk4f' hO5; have lO5 := hO5.lt; have n1 : ¬ v.heap.size + 1 = w3.heap.size := (by omega); have n2 : ¬ w3.heap.size = v.heap.size + 1 := (by omega))
    have hz3 := hb3.size
    refine bodyPost_ret (v := colV ⟨g0, g1, g2, 255⟩) (by simp [results, Try.results128, go_sem, lO5, r0, r1, r2, r3, t0, t1, t2, t3]) rfl ⟨rfl, ?_, ?_, fun k hk1 hk2 => ?_, fun B hB => ?_⟩
    · exact (((((HK4.out.below hb3 HK4.out.lt).far (p := ⟨v.heap.size + 1, 0, none⟩) (by show gk ≠ v.heap.size + 1; omega) _).far (p := ⟨v.heap.size + 1, 1, none⟩) (by show gk ≠ v.heap.size + 1; omega) _).far (p := ⟨v.heap.size + 1, 2, none⟩) (by show gk ≠ v.heap.size + 1; omega) _).far (p := ⟨v.heap.size + 1, 3, none⟩) (by show gk ≠ v.heap.size + 1; omega) _).alloc _
    · simp only [World.setCell]
      simp
      omega
    · have n5 : k ≠ v.heap.size + 1 := by omega
      rw [Below.heap_alloc _ _ _ (by simp [World.setCell]; omega), Below.heap_setCell _ _ _ _ n5, Below.heap_setCell _ _ _ _ n5, Below.heap_setCell _ _ _ _ n5, Below.heap_setCell _ _ _ _ n5, hb3.block k (by omega), HH4.out k hk2, HBW.out.block k hk1]
    · have hx1 := ((HBW.out.mono (show B ≤ v.heap.size by omega)).trans (HB4.out B hB)).trans (hb3.mono (show B ≤ V1.heap.size by omega))
      exact ((((hx1.setCell (p := ⟨v.heap.size + 1, 0, none⟩) (by show B ≤ v.heap.size + 1; omega) _).setCell (p := ⟨v.heap.size + 1, 1, none⟩) (by show B ≤ v.heap.size + 1; omega) _).setCell (p := ⟨v.heap.size + 1, 2, none⟩) (by show B ≤ v.heap.size + 1; omega) _).setCell (p := ⟨v.heap.size + 1, 3, none⟩) (by show B ≤ v.heap.size + 1; omega) _).alloc (by simp [World.setCell]; omega) _
end Go.Proofs.Ytkjnheikimpliaa
