/- cmp.Of, walked; the chapter's example. -/
import Derived.Test.YtkjnheikimpliaaCmpC
namespace Go.Proofs.Ytkjnheikimpliaa
set_option linter.unusedVariables false
set_option linter.unusedSimpArgs false
open Go.RowKit
attribute [local go_sem ↓] Go.wp_at_zero Go.wp_at_succ

/-- A box's place and sides. -/
def Bx.sd (b : Bx) : Int × Int × Int × Int := if b.some then (b.l, b.t, wrap64 (wrap64 (b.r - b.l) + 1), wrap64 (wrap64 (b.b - b.t) + 1)) else (0, 0, 0, 0)
theorem sides_is (g : Nat) (b : Bx) (w : World) (hB : Blk w g 124 b.cells) :
    Calls Try.prog 127 #[.pointer (some ⟨g, 0, none⟩)] w fun e w' => e = .returned (.tuple #[.int .i64 b.sd.1, .int .i64 b.sd.2.1, .int .i64 b.sd.2.2.1, .int .i64 b.sd.2.2.2]) ∧ Below w.heap.size w w' :=
  (sides_any g b w hB).mono (by
    rintro e w' ⟨rfl, hb⟩
    refine ⟨?_, hb⟩
    unfold Bx.sd
    cases b.some <;> rfl)
/-- What a difference has been reckoned to, after so many pixels. -/
def stN (W : Nat) (l1 l2 : List Int) : Nat → DSt
  | 0 => ⟨0, 0, 0, ⟨0, 0, 0, 0, false⟩⟩
  | k + 1 => (stN W l1 l2 k).step ((k % W : Nat) : Int) ((k / W : Nat) : Int) (imgPx l1 W (k % W) (k / W)) (imgPx l2 W (k % W) (k / W))
theorem stN_at (W : Nat) (l1 l2 : List Int) (x y : Nat) (hx : x < W) : stN W l1 l2 (y * W + x + 1) = (stN W l1 l2 (y * W + x)).step (x : Int) (y : Int) (imgPx l1 W x y) (imgPx l2 W x y) := by
  have e1 : (y * W + x) % W = x := by rw [Nat.mul_comm, Nat.mul_add_mod, Nat.mod_eq_of_lt hx]
  have e2 : (y * W + x) / W = y := by rw [Nat.mul_comm, Nat.mul_add_div (by omega), Nat.div_eq_of_lt hx, Nat.add_zero]
  show (stN W l1 l2 (y * W + x)).step _ _ _ _ = _
  rw [e1, e2]
/-- A difference, as a value. -/
abbrev DSt.val (d : DSt) : Value := .agg #[.int .i64 d.p, .int .i64 d.m, .int .i64 d.s, .int .i64 d.b.sd.1, .int .i64 d.b.sd.2.1, .int .i64 d.b.sd.2.2.1, .int .i64 d.b.sd.2.2.2]
abbrev zero82 : Array Value := #[.int .i64 0, .int .i64 0, .int .i64 0, .int .i64 0, .int .i64 0, .int .i64 0, .int .i64 0]
theorem enters124 (args : Array Value) (w : World) : (callFunc 124 args).run Try.prog w = .ok (.enter 124 args) w := enters_of Try.func124 (by kernel_rfl) rfl args w

theorem blk7b {w : World} {g : Nat} {t : TypeId} {a b c d e f h : Value} (k : Blk w g t #[a, b, c, d, e, f, h]) :
    (w.cell? ⟨g, 0, none⟩ = some a ∧ w.cell? ⟨g, 1, none⟩ = some b ∧ w.cell? ⟨g, 2, none⟩ = some c ∧ w.cell? ⟨g, 3, none⟩ = some d ∧ w.cell? ⟨g, 4, none⟩ = some e ∧ w.cell? ⟨g, 5, none⟩ = some f ∧ w.cell? ⟨g, 6, none⟩ = some h) ∧
    w.frozen? ⟨g, 0, none⟩ = false ∧ w.frozen? ⟨g, 1, none⟩ = false ∧ w.frozen? ⟨g, 2, none⟩ = false ∧ w.frozen? ⟨g, 3, none⟩ = false ∧ w.frozen? ⟨g, 4, none⟩ = false ∧ w.frozen? ⟨g, 5, none⟩ = false ∧ w.frozen? ⟨g, 6, none⟩ = false :=
  ⟨⟨k.cell 0, k.cell 1, k.cell 2, k.cell 3, k.cell 4, k.cell 5, k.cell 6⟩, k.frozen 0, k.frozen 1, k.frozen 2, k.frozen 3, k.frozen 4, k.frozen 5, k.frozen 6⟩

theorem blk3xx {w : World} {g : Nat} {t : TypeId} {a b c : Value} (h : Blk w g t #[a, b, c]) : (∀ o p, ((w.alloc o).alloc p).cell? ⟨g, 0, none⟩ = some a) ∧ (∀ o p, ((w.alloc o).alloc p).cell? ⟨g, 1, none⟩ = some b) ∧ (∀ o p, ((w.alloc o).alloc p).cell? ⟨g, 2, none⟩ = some c) :=
  ⟨fun o p => ((h.alloc o).alloc p).cell 0, fun o p => ((h.alloc o).alloc p).cell 1, fun o p => ((h.alloc o).alloc p).cell 2⟩
set_option maxHeartbeats 2000000 in
theorem of_no {x1 y1 x2 y2 : Int} {n1 n2 : Nat} (h : ¬ (rightI x1 y1 n1 ∧ rightI x2 y2 n2 ∧ x1 = x2 ∧ y1 = y2)) (A1 A2 : Option Addr) (c1 c2 : Nat) (w : World) :
    Calls Try.prog 77 #[imgV x1 y1 A1 n1 c1, imgV x2 y2 A2 n2 c2] w fun e w' => e = .returned (.tuple #[.agg zero82, .int .i64 11]) ∧ Below w.heap.size w w' := by
  have K1 := hide (alike_no h A1 A2 c1 c2)
  clear h
  go_enter Try.func77, Try.ntmps77
  go_wp2_with (go_at_call 123; (with_reducible refine (K1.out _).mono ?_); rintro e w1 ⟨rfl, hb1⟩; obtain ⟨B1, B2, B3, hz, HW⟩ := own3 hb1; obtain ⟨⟨m0, m1, m2, m3, m4, m5, m6⟩, f0, f1, f2, f3, f4, f5, f6⟩ := blk7b B3; clear hb1)
  refine bodyPost_ret (v := .tuple #[.agg zero82, .int .i64 11]) (by simp [results, Try.results77, go_sem, hz, m0, m1, m2, m3, m4, m5, m6]) rfl ⟨rfl, ?_⟩
  repeat (first | (with_reducible exact HW) | (with_reducible refine bset ?_ _ _ (by omega) _))

/-- What Of's rounds keep. -/
structure OfI (w : World) (X Y : Int) (A1 A2 : Option Addr) (n1 n2 c1 c2 gd : Nat) (st : DSt) (v : World) : Prop where
  below : Below w.heap.size w v
  a : Blk v w.heap.size 34 #[.int .i64 X, .int .i64 Y, .slice A1 n1 c1]
  b : Blk v (w.heap.size + 1) 34 #[.int .i64 X, .int .i64 Y, .slice A2 n2 c2]
  r : Blk v (w.heap.size + 1 + 1) 82 zero82
  d : Blk v gd 82 st.cells
  x : Blk v (gd + 1) 124 st.b.cells
theorem OfI.keep {w v v' : World} {X Y : Int} {A1 A2 : Option Addr} {n1 n2 c1 c2 gd B : Nat} {st : DSt} (h : OfI w X Y A1 A2 n1 n2 c1 c2 gd st v) (hg : w.heap.size + 1 + 1 < gd) (hB : gd + 1 < B) (hb : Below B v v') : OfI w X Y A1 A2 n1 n2 c1 c2 gd st v' :=
  ⟨h.below.trans (hb.mono (by omega)), h.a.below hb (by omega), h.b.below hb (by omega), h.r.below hb (by omega), h.d.below hb (by omega), h.x.below hb (by omega)⟩

set_option maxHeartbeats 4000000 in
theorem of_yes (W H : Nat) (A1 A2 : Option Addr) (l1 l2 : List Int) (c1 c2 : Nat) (w : World) (hR1 : rightI W H l1.length) (hR2 : rightI W H l2.length) (r1 : RowAt w w.heap.size .u8 A1 l1) (r2 : RowAt w w.heap.size .u8 A2 l2) (hc1 : l1.length ≤ c1) (hc2 : l2.length ≤ c2) (u1 : U8s l1) (u2 : U8s l2) :
    Calls Try.prog 77 #[imgV W H A1 l1.length c1, imgV W H A2 l2.length c2] w fun e w' => e = .returned (.tuple #[(stN W l1 l2 (W * H)).val, .int .i64 0]) ∧ Below w.heap.size w w' := by
  have K1 := hide (alike_yes hR1 hR2 A1 A2 c1 c2)
  have hW := hR1.1
  have KE := hide fun (gd : Nat) (v : World) (hg : w.heap.size + 1 + 1 < gd) (hv : gd + 1 < v.heap.size) (h0 : OfI w W H A1 A2 l1.length l2.length c1 c2 gd (stN W l1 l2 0) v) =>
    each_yes 124 enters124 #[.pointer (some ⟨w.heap.size + 1, 0, none⟩), .pointer (some ⟨gd, 0, none⟩), .pointer (some ⟨gd + 1, 0, none⟩)] W H A1 l1 c1 v hR1 hc1 (fun n v' => OfI w W H A1 A2 l1.length l2.length c1 c2 gd (stN W l1 l2 n) v') h0 (fun n v1 v2 hi hb => hi.keep hg hv hb)
      (fun n v1 hi => (r1.below hi.below (Nat.le_refl _)).more (by omega)) (fun x y v1 hx hy hs hi => (of1_any W H A2 l2 c2 (w.heap.size + 1) gd (gd + 1) (stN W l1 l2 (y * W + x)) x y (imgPx l1 W x y) v1 hR2 ((r2.below hi.below (Nat.le_refl _)).more hi.below.size) hc2 hx hy (imgPx_ok u1 _ _ _) u2 hi.b hi.d hi.x (by omega) (by omega) (by omega)).mono (by
        rintro e v2 ⟨rfl, hd, ha, hz, hk, hb⟩
        rw [← stN_at W l1 l2 x y hx] at hd ha
        exact ⟨rfl, ⟨hi.below.trans (hb _ (by omega) (by omega)), hi.a.same (hk _ (by omega) (by omega) (by omega)), hi.b.same (hk _ (by omega) (by omega) (by omega)), hi.r.same (hk _ (by omega) (by omega) (by omega)), hd, ha⟩, ⟨hz, fun k h1 h2 => hk k h2 (by omega) (by omega)⟩⟩))
  obtain ⟨st, hst⟩ : ∃ st, st = stN W l1 l2 (W * H) := ⟨_, rfl⟩
  rw [← hst]
  have HST := hide hst
  clear hR1 hR2 r1 r2 hc1 hc2 u1 u2 hW hst
  go_enter Try.func77, Try.ntmps77
  go_wp2_with (go_at_call 123; (with_reducible refine (K1.out _).mono ?_); rintro e w1 ⟨rfl, hb1⟩; obtain ⟨B1, B2, B3, hz, HW⟩ := own3 hb1; obtain ⟨m0, m1, m2⟩ := blk3xx B1; obtain ⟨m3, m4, m5, -⟩ := blk3 B1; obtain ⟨m6, m7, m8, -⟩ := blk3 B2; clear hb1)
  have h0 : OfI w W H A1 A2 l1.length l2.length c1 c2 w1.heap.size (stN W l1 l2 0) ((w1.alloc (.cells zero82 82)).alloc (.cells #[.int .i64 0, .int .i64 0, .int .i64 0, .int .i64 0, .bool false] 124)) :=
    ⟨balloc (balloc HW _) _, (B1.alloc _).alloc _, (B2.alloc _).alloc _, (B3.alloc _).alloc _, (Blk.new _ _ _).alloc _, Blk.new' _ _ _ _ (by simp)⟩
  refine (KE.out w1.heap.size _ hz (by simp) h0).mono ?_
  rintro e v ⟨rfl, hI, hv⟩
  rw [← HST.out] at hI
  simp only [World.size_alloc] at hv
  have HX := hI.x
  have HI := hide hI
  obtain ⟨⟨d0, d1, d2, d3, d4, d5, d6⟩, f0, f1, f2, f3, f4, f5, f6⟩ := blk7b hI.d
  have HS := hide hI.below.size
  clear h0 B1 B2 B3 m0 m1 m2 m3 m4 m5 m6 m7 m8 hI HST
  go_wp2_with (go_at_call 127; (with_reducible refine (sides_is _ _ _ HX).mono ?_); rintro e v2 ⟨rfl, hv2⟩; have hd := HI.out.d.below hv2 HI.out.d.lt; obtain ⟨⟨d0, d1, d2, d3, d4, d5, d6⟩, f0, f1, f2, f3, f4, f5, f6⟩ := blk7b hd; have hr := HI.out.r.below hv2 HI.out.r.lt; obtain ⟨⟨r0, r1, r2, r3, r4, r5, r6⟩, g0, g1, g2, g3, g4, g5, g6⟩ := blk7b hr; have n1 : ¬ w1.heap.size = w.heap.size + 1 + 1 := (by omega); have n2 : ¬ w.heap.size + 1 + 1 = w1.heap.size := (by omega); have lr := hr.lt; have ld := hd.lt)
  have hbb := bstep HI.out.below hv2
  refine bodyPost_ret (v := .tuple #[st.val, .int .i64 0]) (by simp [results, Try.results77, go_sem, lr, r0, r1, r2, r3, r4, r5, r6]) rfl ⟨rfl, ?_⟩
  repeat (first | (with_reducible exact hbb) | (with_reducible refine bset ?_ _ _ (by omega) _))

theorem stN_ex : (stN 1 [1, 2, 3, 4] [1, 2, 5, 4] (1 * 1)).val = .agg #[.int .i64 1, .int .i64 2, .int .i64 4, .int .i64 0, .int .i64 0, .int .i64 1, .int .i64 1] := by kernel_rfl
theorem row4 (w : World) (a b c d : Int) (t : TypeId) (g : Nat) (hg : g = w.heap.size) : RowAt (w.alloc (.cells #[.int .u8 a, .int .u8 b, .int .u8 c, .int .u8 d] t)) (w.heap.size + 1) .u8 (some ⟨g, 0, none⟩) [a, b, c, d] := by
  subst hg
  intro i hi
  refine ⟨_, 0, rfl, by omega, ?_⟩
  have hb := Blk.new w t #[.int .u8 a, .int .u8 b, .int .u8 c, .int .u8 d]
  rw [Nat.zero_add, hb.cell i]
  match i, hi with
  | 0, _ => rfl
  | 1, _ => rfl
  | 2, _ => rfl
  | 3, _ => rfl
theorem awake35 (w : World) : Calls Try.prog 34 #[] w fun e w' => e = .returned (.bool true) ∧ Below w.heap.size w w' := by
  have K0 : ∀ (w' : World) (g1 g2 : Nat) (r1 : RowAt w' w'.heap.size .u8 (some ⟨g1, 0, none⟩) [1, 2, 3, 4]) (r2 : RowAt w' w'.heap.size .u8 (some ⟨g2, 0, none⟩) [1, 2, 5, 4]),
      Calls Try.prog 77 #[imgV 1 1 (some ⟨g1, 0, none⟩) 4 4, imgV 1 1 (some ⟨g2, 0, none⟩) 4 4] w' fun e w'' => e = .returned (.tuple #[.agg #[.int .i64 1, .int .i64 2, .int .i64 4, .int .i64 0, .int .i64 0, .int .i64 1, .int .i64 1], .int .i64 0]) ∧ Below w'.heap.size w' w'' := fun w' g1 g2 r1 r2 =>
    (of_yes 1 1 (some ⟨g1, 0, none⟩) (some ⟨g2, 0, none⟩) [1, 2, 3, 4] [1, 2, 5, 4] 4 4 w' (by unfold rightI; decide) (by unfold rightI; decide) r1 r2 (by decide) (by decide) (by unfold U8s; decide) (by unfold U8s; decide)).mono (by
      rintro e w'' ⟨rfl, hb⟩
      rw [stN_ex]
      exact ⟨rfl, hb⟩)
  have K := hide K0
  clear K0
  have r1 := hide ((row4 w 1 2 3 4 5 w.heap.size rfl).below (below_alloc (w.alloc (.cells #[.int .u8 1, .int .u8 2, .int .u8 3, .int .u8 4] 5)) (.cells #[.int .u8 1, .int .u8 2, .int .u8 5, .int .u8 4] 5)) (by simp) |>.more (by simp) : RowAt _ ((w.alloc (.cells #[.int .u8 1, .int .u8 2, .int .u8 3, .int .u8 4] 5)).alloc (.cells #[.int .u8 1, .int .u8 2, .int .u8 5, .int .u8 4] 5)).heap.size _ _ _)
  have r2 := hide ((row4 (w.alloc (.cells #[.int .u8 1, .int .u8 2, .int .u8 3, .int .u8 4] 5)) 1 2 5 4 5 (w.heap.size + 1) (by simp)).more (by simp) : RowAt _ ((w.alloc (.cells #[.int .u8 1, .int .u8 2, .int .u8 3, .int .u8 4] 5)).alloc (.cells #[.int .u8 1, .int .u8 2, .int .u8 5, .int .u8 4] 5)).heap.size _ _ _)
  go_enter Try.func34, Try.ntmps34
  go_wp2_with (go_at_call 77; (with_reducible refine (K.out _ _ _ r1.out r2.out).mono ?_); rintro e w1 ⟨rfl, hb1⟩)
  go_ret
  exact ⟨rfl, balloc (bstep (balloc (below_alloc w _) _) hb1) _⟩
end Go.Proofs.Ytkjnheikimpliaa
