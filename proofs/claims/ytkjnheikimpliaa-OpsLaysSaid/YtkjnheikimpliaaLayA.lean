/- ops.lay, Paste, Over: walked. -/
import Derived.Test.YtkjnheikimpliaaFrameB
import Derived.Test.YtkjnheikimpliaaColB
namespace Go.Proofs.Ytkjnheikimpliaa
set_option linter.unusedVariables false
set_option linter.unusedSimpArgs false
open Go.RowKit
attribute [local go_sem ↓] Go.wp_at_zero Go.wp_at_succ

theorem far_no (x : Int) (h : -16384 < x ∧ x < 16384) (w : World) : Calls Try.prog 138 #[.int .i64 x] w fun e w' => e = .returned (.bool false) ∧ w = w' := by
  have h1 : decide (x ≤ -16384) = false := by simp; omega
  have h2 : decide (16384 ≤ x) = false := by simp; omega
  go_enter Try.func138, Try.ntmps138
  go_wp2
  go_ret
  exact ⟨rfl, rfl⟩
theorem far_yes (x : Int) (h : x ≤ -16384 ∨ 16384 ≤ x) (w : World) : Calls Try.prog 138 #[.int .i64 x] w fun e w' => e = .returned (.bool true) ∧ w = w' := by
  rcases h with h | h
  · have h1 : decide (x ≤ -16384) = true := by simp; omega
    go_enter Try.func138, Try.ntmps138
    go_wp2
    go_ret
    exact ⟨rfl, rfl⟩
  · have h1 : decide (x ≤ -16384) = false := by simp; omega
    have h2 : decide (16384 ≤ x) = true := by simp; omega
    go_enter Try.func138, Try.ntmps138
    go_wp2
    go_ret
    exact ⟨rfl, rfl⟩
theorem paste1_any (c u : Col) (w : World) : Calls Try.prog 122 #[colV c, colV u] w fun e w' => e = .returned (colV c) ∧ Below w.heap.size w w' := by
  obtain ⟨y0, y1, y2, y3⟩ := c
  go_enter Try.func122, Try.ntmps122
  go_wp2
  exact bodyPost_ret (v := colV ⟨y0, y1, y2, y3⟩) (by simp [results, Try.results122, go_sem]) rfl ⟨rfl, by repeat (first | (with_reducible exact Below.refl _ _) | (with_reducible refine bset ?_ _ _ (by omega) _) | (with_reducible refine balloc ?_ _))⟩

theorem enters139 (args : Array Value) (w : World) : (callFunc 139 args).run Try.prog w = .ok (.enter 139 args) w := enters_of Try.func139 (by kernel_rfl) rfl args w
theorem enters122 (args : Array Value) (w : World) : (callFunc 122 args).run Try.prog w = .ok (.enter 122 args) w := enters_of Try.func122 (by kernel_rfl) rfl args w
theorem enters68 (args : Array Value) (w : World) : (callFunc 68 args).run Try.prog w = .ok (.enter 68 args) w := enters_of Try.func68 (by kernel_rfl) rfl args w
/-- Is a place in the part that begins at x, y? -/
abbrev inPart (x y : Int) (PW PH a b : Nat) : Prop := (x ≤ a ∧ (a : Int) < x + PW) ∧ y ≤ b ∧ (b : Int) < y + PH
/-- The pixels of an image with a part laid on it. -/
def layPx (f : Col → Col → Col) (l lp : List Int) (W PW PH : Nat) (x y : Int) (a b : Nat) : Col :=
  if inPart x y PW PH a b then f (imgPx lp PW ((a : Int) - x).toNat ((b : Int) - y).toNat) (imgPx l W a b) else imgPx l W a b

/-- What lay's own function finds. -/
structure LayB (v : World) (gm gp gx gy gf : Nat) (W H PW PH : Nat) (A Ap : Option Addr) (n np cap capp : Nat) (x y : Int) (F : Value) : Prop where
  m : Blk v gm 34 #[.int .i64 W, .int .i64 H, .slice A n cap]
  p : Blk v gp 34 #[.int .i64 PW, .int .i64 PH, .slice Ap np capp]
  x : Blk v gx 3 #[.int .i64 x]
  y : Blk v gy 3 #[.int .i64 y]
  f : Blk v gf 73 #[F]
theorem LayB.below {v v' : World} {gm gp gx gy gf W H PW PH : Nat} {A Ap : Option Addr} {n np cap capp : Nat} {x y : Int} {F : Value} (h : LayB v gm gp gx gy gf W H PW PH A Ap n np cap capp x y F) (hb : Below v.heap.size v v') : LayB v' gm gp gx gy gf W H PW PH A Ap n np cap capp x y F :=
  ⟨h.m.below hb h.m.lt, h.p.below hb h.p.lt, h.x.below hb h.x.lt, h.y.below hb h.y.lt, h.f.below hb h.f.lt⟩
theorem LayB.cells {v : World} {gm gp gx gy gf W H PW PH : Nat} {A Ap : Option Addr} {n np cap capp : Nat} {x y : Int} {F : Value} (h : LayB v gm gp gx gy gf W H PW PH A Ap n np cap capp x y F) :
    (∀ o, (v.alloc o).cell? ⟨gm, 0, none⟩ = some (.int .i64 W)) ∧ (∀ o, (v.alloc o).cell? ⟨gm, 1, none⟩ = some (.int .i64 H)) ∧ (∀ o, (v.alloc o).cell? ⟨gm, 2, none⟩ = some (.slice A n cap)) ∧
    (∀ o, (v.alloc o).cell? ⟨gp, 0, none⟩ = some (.int .i64 PW)) ∧ (∀ o, (v.alloc o).cell? ⟨gp, 1, none⟩ = some (.int .i64 PH)) ∧ (∀ o, (v.alloc o).cell? ⟨gp, 2, none⟩ = some (.slice Ap np capp)) ∧
    (∀ o, (v.alloc o).cell? ⟨gx, 0, none⟩ = some (.int .i64 x)) ∧ (∀ o, (v.alloc o).cell? ⟨gy, 0, none⟩ = some (.int .i64 y)) ∧ (∀ o, (v.alloc o).cell? ⟨gf, 0, none⟩ = some F) :=
  ⟨fun o => (h.m.alloc o).cell 0, fun o => (h.m.alloc o).cell 1, fun o => (h.m.alloc o).cell 2, fun o => (h.p.alloc o).cell 0, fun o => (h.p.alloc o).cell 1, fun o => (h.p.alloc o).cell 2, fun o => (h.x.alloc o).cell 0, fun o => (h.y.alloc o).cell 0, fun o => (h.f.alloc o).cell 0⟩

set_option maxHeartbeats 4000000 in
theorem lay2_any (g : FuncId) (eg : ∀ args w, (callFunc g args).run Try.prog w = .ok (.enter g args) w) (f : Col → Col → Col) (HG : Hid (∀ (c u : Col) (w : World), c.ok → u.ok → Calls Try.prog g #[colV c, colV u] w fun e w' => e = .returned (colV (f c u)) ∧ Below w.heap.size w w'))
    (W H PW PH : Nat) (A Ap : Option Addr) (l lp : List Int) (cap capp : Nat) (x y : Int) (a b : Nat) (gm gp gx gy gf : Nat) (v : World) (hR : rightI W H l.length) (hR2 : rightI PW PH lp.length) (hr : RowAt v v.heap.size .u8 A l) (hr2 : RowAt v v.heap.size .u8 Ap lp) (hcap : l.length ≤ cap) (hcap2 : lp.length ≤ capp) (hu : U8s l) (hu2 : U8s lp)
    (hx : -16384 ≤ x ∧ x ≤ 16384) (hy : -16384 ≤ y ∧ y ≤ 16384) (ha : a < W) (hb : b < H) (hB : LayB v gm gp gx gy gf W H PW PH A Ap l.length lp.length cap capp x y (.func (.func g) #[] #[])) :
    Calls Try.prog 139 #[.int .i64 (a : Int), .int .i64 (b : Int), .pointer (some ⟨gm, 0, none⟩), .pointer (some ⟨gp, 0, none⟩), .pointer (some ⟨gx, 0, none⟩), .pointer (some ⟨gy, 0, none⟩), .pointer (some ⟨gf, 0, none⟩)] v fun e v' => e = .returned (colV (layPx f l lp W PW PH x y a b)) ∧ Below v.heap.size v v' := by
  have hW2 := hR.1.2
  have hH2 := hR.2.1.2
  have hb0 := below_alloc v (.cells #[.int .u8 0, .int .u8 0, .int .u8 0, .int .u8 0] 36)
  have KA := hide fun (w' : World) (hw : Below v.heap.size v w') => (at_any W H A l cap a b w' hR ((hr.below hw (Nat.le_refl _)).more hw.size) hcap (by omega) (by omega)).mono (R' := fun e w'' => e = .returned (colV (imgPx l W a b)) ∧ Below w'.heap.size w' w'') (by
    rintro e w'' ⟨rfl, hb⟩
    refine ⟨?_, hb⟩
    rw [nat_idx]; rfl)
  have huo : (imgPx l W a b).ok := imgPx_ok hu _ _ _
  have hB0 := hB.below hb0
  have hO0 := Blk.new v 36 #[.int .u8 0, .int .u8 0, .int .u8 0, .int .u8 0]
  have hB0m := hB0.m.cell 0
  have hB1m := hB0.m.cell 1
  have hB2m := hB0.m.cell 2
  simp only [List.getElem?_toArray, List.getElem?_cons_succ, List.getElem?_cons_zero] at hB0m hB1m hB2m
  by_cases hin : inPart x y PW PH a b
  · obtain ⟨i, hi⟩ : ∃ i : Nat, (a : Int) - x = (i : Int) := ⟨((a : Int) - x).toNat, by omega⟩
    obtain ⟨j, hj⟩ : ∃ j : Nat, (b : Int) - y = (j : Int) := ⟨((b : Int) - y).toNat, by omega⟩
    have hpx : layPx f l lp W PW PH x y a b = f (imgPx lp PW i j) (imgPx l W a b) := by
      unfold layPx; rw [if_pos hin, hi, hj]; rfl
    have hco : (imgPx lp PW i j).ok := imgPx_ok hu2 _ _ _
    have KP := hide fun (w' : World) (hw : Below v.heap.size v w') => (pixel_yes PW PH Ap lp capp ((a : Int) - x) ((b : Int) - y) w' hR2 ((hr2.below hw (Nat.le_refl _)).more hw.size) hcap2 (by omega) (by omega)).mono (R' := fun e w'' => e = .returned (.tuple #[colV (imgPx lp PW i j), .bool true]) ∧ Below w'.heap.size w' w'') (by
      rintro e w'' ⟨rfl, hb⟩
      refine ⟨?_, hb⟩
      unfold imgPx
      rw [hi, hj, nat_idx])
    rw [hpx]
    obtain ⟨u, hue⟩ : ∃ u, u = imgPx l W a b := ⟨_, rfl⟩
    obtain ⟨c, hce⟩ : ∃ c, c = imgPx lp PW i j := ⟨_, rfl⟩
    rw [← hue] at KA huo ⊢
    rw [← hce] at KP hco ⊢
    obtain ⟨d, hd⟩ : ∃ d, d = f c u := ⟨_, rfl⟩
    have KF := hide fun (w' : World) => (HG.out c u w' hco huo).mono (R' := fun e w'' => e = .returned (colV d) ∧ Below w'.heap.size w' w'') (by rintro e w'' ⟨rfl, hb⟩; rw [hd]; exact ⟨rfl, hb⟩)
    rw [← hd]
    have HB := hide hB0
    have HO := hide hO0
    obtain ⟨d0, d1, d2, d3⟩ := d
    clear hR hR2 hr hr2 hcap hcap2 hu hu2 hB hpx hue hce hd hB0 hO0 hco huo HG hi hj
    go_enter Try.func139, Try.ntmps139
    go_wp2_with (go_at_call 106; (with_reducible refine (KA.out _ hb0).mono ?_); rintro e w1 ⟨rfl, hb1⟩; have hbw1 := bstep hb0 hb1; have B1 := HB.out.below hb1; have O1 := HO.out.below hb1 HO.out.lt; have U1 := Blk.new w1 36 #[.int .u8 u.r, .int .u8 u.g, .int .u8 u.b, .int .u8 u.a]; obtain ⟨m0, m1, m2, p0, p1, p2, x0, y0, f0⟩ := B1.cells)
    refine (KP.out _ (balloc hbw1 _)).mono ?_
    rintro e w2 ⟨rfl, hb2⟩
    have hbw2 := bstep (balloc hbw1 _) hb2
    have B2 := (LayB.below B1 (below_alloc w1 _)).below hb2
    have O2 := (O1.alloc _).below hb2 (O1.alloc _).lt
    have U2 := U1.below hb2 U1.lt
    obtain ⟨m0, m1, m2, p0, p1, p2, x0, y0, f0⟩ := B2.cells
    obtain ⟨q0, q1, q2, q3, -⟩ := blk4f' U2
    have n1 : ¬ w1.heap.size = w2.heap.size := (by have := U2.lt; omega)
    have n2 : ¬ w2.heap.size = w1.heap.size := (by have := U2.lt; omega)
    go_wp2_with fail
    refine (KF.out _).mono ?_
    rintro e w3 ⟨rfl, hb3⟩
    have hbw3 := bstep (balloc hbw2 _) hb3
    have O3 := (O2.alloc _).below hb3 (O2.alloc _).lt
    have lO := O3.lt
    obtain ⟨r0, r1, r2, r3, g0, g1, g2, g3⟩ := blk4 O3
    clear m0 m1 m2 p0 p1 p2 x0 y0 f0 q0 q1 q2 q3 B1 B2 O1 O2 U1 U2 O3 hb1 hb2 hb3 hbw1 hbw2 hB0m hB1m hB2m
    go_wp2_with fail
    refine bodyPost_ret (v := colV ⟨d0, d1, d2, d3⟩) (by simp [results, Try.results139, go_sem, lO, r0, r1, r2, r3]) rfl ⟨rfl, ?_⟩
    exact bset (bset (bset (bset hbw3 _ _ (Nat.le_refl _) _) _ _ (Nat.le_refl _) _) _ _ (Nat.le_refl _) _) _ _ (Nat.le_refl _) _
  · have hpx : layPx f l lp W PW PH x y a b = imgPx l W a b := by unfold layPx; rw [if_neg hin]
    have KP := hide fun (w' : World) => pixel_no PW PH Ap lp capp ((a : Int) - x) ((b : Int) - y) w' hR2 (by omega)
    rw [hpx]
    obtain ⟨u, hue⟩ : ∃ u, u = imgPx l W a b := ⟨_, rfl⟩
    rw [← hue] at KA huo ⊢
    have HB := hide hB0
    have HO := hide hO0
    obtain ⟨d0, d1, d2, d3⟩ := u
    clear hR hR2 hr hr2 hcap hcap2 hu hu2 hB hpx hue hB0 hO0 huo HG
    go_enter Try.func139, Try.ntmps139
    go_wp2_with (go_at_call 106; (with_reducible refine (KA.out _ hb0).mono ?_); rintro e w1 ⟨rfl, hb1⟩; have hbw1 := bstep hb0 hb1; have B1 := HB.out.below hb1; have O1 := HO.out.below hb1 HO.out.lt; have U1 := Blk.new w1 36 #[.int .u8 d0, .int .u8 d1, .int .u8 d2, .int .u8 d3]; obtain ⟨m0, m1, m2, p0, p1, p2, x0, y0, f0⟩ := B1.cells)
    refine (KP.out _).mono ?_
    rintro e w2 ⟨rfl, hb2⟩
    have hbw2 := bstep (balloc hbw1 _) hb2
    have O2 := (O1.alloc _).below hb2 (O1.alloc _).lt
    have U2 := U1.below hb2 U1.lt
    obtain ⟨q0, q1, q2, q3, -⟩ := blk4f' U2
    obtain ⟨r0, r1, r2, r3, g0, g1, g2, g3⟩ := blk4 O2
    obtain ⟨s0, s1, s2, s3, t0, t1, t2, t3⟩ := blk4f' O2
    have lO := O2.lt
    have n1 : ¬ w1.heap.size = w2.heap.size := (by have := U2.lt; omega)
    have n2 : ¬ w2.heap.size = w1.heap.size := (by have := U2.lt; omega)
    have n3 : ¬ v.heap.size = w2.heap.size := (by omega)
    have n4 : ¬ w2.heap.size = v.heap.size := (by omega)
    go_wp2_with fail
    refine bodyPost_ret (v := colV ⟨d0, d1, d2, d3⟩) (by simp [results, Try.results139, go_sem, lO, r0, r1, r2, r3, s0, s1, s2, s3]) rfl ⟨rfl, ?_⟩
    repeat (first | (with_reducible exact hbw2) | (with_reducible refine bset ?_ _ _ (by omega) _) | (with_reducible refine balloc ?_ _) | (with_reducible apply Below.drew))
end Go.Proofs.Ytkjnheikimpliaa
