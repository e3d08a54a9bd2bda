/- cmp.Show: walked; a difference step by step: plain. -/
import Derived.Test.YtkjnheikimpliaaDiffA
import Derived.Test.YtkjnheikimpliaaBoxA
namespace Go.Proofs.Ytkjnheikimpliaa
set_option linter.unusedVariables false
set_option linter.unusedSimpArgs false
open Go.RowKit
attribute [local go_sem ↓] Go.wp_at_zero Go.wp_at_succ

def showPx (l1 l2 : List Int) (W : Nat) (x y : Nat) : Col := showC (imgPx l1 W x y) (imgPx l2 W x y)
structure ShI (w : World) (gk : Nat) (X Y : Int) (A1 A2 : Option Addr) (n1 n2 c1 c2 : Nat) (k : Nat) (v : World) : Prop where
  below : Below w.heap.size w v
  a : Blk v w.heap.size 34 #[.int .i64 X, .int .i64 Y, .slice A1 n1 c1]
  b : Blk v (w.heap.size + 1) 34 #[.int .i64 X, .int .i64 Y, .slice A2 n2 c2]
  r : Blk v (w.heap.size + 1 + 1) 34 #[.int .i64 0, .int .i64 0, .slice none 0 0]
  k : Blk v gk 3 #[.int .i64 (k : Int)]
theorem ShI.keep {w v v' : World} {gk B : Nat} {X Y : Int} {A1 A2 : Option Addr} {n1 n2 c1 c2 k : Nat} (h : ShI w gk X Y A1 A2 n1 n2 c1 c2 k v) (hg : w.heap.size + 1 + 1 < gk) (hB : gk < B) (hb : Below B v v') : ShI w gk X Y A1 A2 n1 n2 c1 c2 k v' :=
  ⟨h.below.trans (hb.mono (by omega)), h.a.below hb (by omega), h.b.below hb (by omega), h.r.below hb (by omega), h.k.below hb hB⟩

set_option maxHeartbeats 1000000 in
theorem show_no {x1 y1 x2 y2 : Int} {n1 n2 : Nat} (h : ¬ (rightI x1 y1 n1 ∧ rightI x2 y2 n2 ∧ x1 = x2 ∧ y1 = y2)) (A1 A2 : Option Addr) (c1 c2 : Nat) (w : World) :
    Calls Try.prog 78 #[imgV x1 y1 A1 n1 c1, imgV x2 y2 A2 n2 c2] w (Refused w 11) := by
  have K1 := hide (alike_no h A1 A2 c1 c2)
  unfold Refused
  clear h
  go_enter Try.func78, Try.ntmps78
  go_wp2_with (go_at_call 123; (with_reducible refine (K1.out _).mono ?_); rintro e w1 ⟨rfl, hb1⟩; obtain ⟨B1, B2, B3, hz, HW⟩ := own3 hb1; obtain ⟨r0, r1, r2, f0, f1, f2⟩ := blk3 B3; clear hb1)
  exact bodyPost_ret (v := .tuple #[imgV 0 0 none 0 0, .int .i64 11]) (by simp [results, Try.results78, go_sem, hz, r0, r1, r2]) rfl ⟨rfl, bset (bset (bset HW _ _ (by omega) _) _ _ (by omega) _) _ _ (by omega) _⟩

set_option maxHeartbeats 2000000 in
theorem show_yes (W H : Nat) (A1 A2 : Option Addr) (l1 l2 : List Int) (c1 c2 : Nat) (w : World) (hR1 : rightI W H l1.length) (hR2 : rightI W H l2.length) (r1 : RowAt w w.heap.size .u8 A1 l1) (r2 : RowAt w w.heap.size .u8 A2 l2) (hc1 : l1.length ≤ c1) (hc2 : l2.length ≤ c2) (u1 : U8s l1) (u2 : U8s l2) :
    Calls Try.prog 78 #[imgV W H A1 l1.length c1, imgV W H A2 l2.length c2] w (Made w W H (showPx l1 l2 W)) := by
  have K1 := hide (alike_yes hR1 hR2 A1 A2 c1 c2)
  have KM := hide fun (gk : Nat) (v : World) (hg : w.heap.size + 1 + 1 < gk) (h0 : ShI w gk W H A1 A2 l1.length l2.length c1 c2 0 v) =>
    map_yes 128 enters128 #[.pointer (some ⟨w.heap.size + 1, 0, none⟩), .pointer (some ⟨gk, 0, none⟩), .pointer (some ⟨w.heap.size, 0, none⟩)] (showPx l1 l2 W) W H A1 l1 c1 v hR1 hc1 (fun n v' => ShI w gk W H A1 A2 l1.length l2.length c1 c2 n v') h0
      (fun n v1 v2 h hb => h.keep hg h0.k.lt hb)
      (fun n v1 h => (r1.below h.below (Nat.le_refl _)).more h0.below.size)
      (fun x y v1 hx hy hs h => (show1_any (imgPx l1 W x y) (imgPx_ok u1 W x y) W H A1 l1.length c1 A2 l2 c2 (w.heap.size + 1) gk w.heap.size x y v1 hR2 ((r2.below h.below (Nat.le_refl _)).more h.below.size) hc2 u2 hx hy h.k h.a h.b (by omega) (by omega)).mono (by
        rintro e v2 ⟨rfl, hk, hz2, hs2, hb2⟩
        have la := h.a.lt
        have lb := h.b.lt
        have lr := h.r.lt
        have lk := h0.k.lt
        exact ⟨rfl, ⟨h.below.trans (hb2 _ (by omega)), h.a.same (hs2 _ la (by omega)), h.b.same (hs2 _ lb (by omega)), h.r.same (hs2 _ lr (by omega)), hk⟩, ⟨hz2, fun b h1 h2 => hs2 b h2 (by omega)⟩⟩))
  unfold Made
  obtain ⟨bs, hbs⟩ : ∃ bs, bs = bytesL (pxs (showPx l1 l2 W) W (W * H)) := ⟨_, rfl⟩
  rw [← hbs] at KM ⊢
  clear hR1 hR2 r1 r2 hc1 hc2 u1 u2 hbs
  go_enter Try.func78, Try.ntmps78
  go_wp2_with (go_at_call 123; (with_reducible refine (K1.out _).mono ?_); rintro e w1 ⟨rfl, hb1⟩; obtain ⟨B1, B2, B3, hz, HW⟩ := own3 hb1; obtain ⟨m0, m1, m2⟩ := blk3xx B1; obtain ⟨m3, m4, m5, -⟩ := blk3 B1; obtain ⟨q0, q1, q2, -⟩ := blk3x B1; clear hb1)
  have H0 := hide (⟨balloc HW _, B1.alloc _, B2.alloc _, B3.alloc _, Blk.new _ _ _⟩ : ShI w w1.heap.size W H A1 A2 l1.length l2.length c1 c2 0 (w1.alloc (.cells #[.int .i64 0] 3)))
  clear B1 B2 B3 HW m0 m1 m2 m3 m4 m5 q0 q1 q2 K1
  refine (KM.out _ _ hz H0.out).mono ?_
  rintro e v ⟨A', cap', rfl, hI, hN, hs⟩
  obtain ⟨r0, r1, r2, f0, f1, f2⟩ := blk3 hI.r
  have lr := hI.r.lt
  have HI := hide hI
  have HN := hide hN
  clear hI hN
  go_wp2_with fail
  refine bodyPost_ret (v := .tuple #[imgV W H A' bs.length cap', .int .i64 0]) (by simp [results, Try.results78, go_sem, lr, r0, r1, r2]) rfl ⟨A', cap', rfl, ?_, ?_⟩
  · exact (((HN.out.set _ _ (by simp; omega) _).set _ _ (by simp; omega) _).set _ _ (by simp; omega) _).less (by simp; omega)
  · exact bset (bset (bset HI.out.below _ _ (by omega) _) _ _ (by omega) _) _ _ (by omega) _

/-! The law's own way to reckon a difference. -/
theorem gap_pos {a b : Int} (ha : 0 ≤ a ∧ a ≤ 255) (hb : 0 ≤ b ∧ b ≤ 255) : 0 < gapN a b ↔ a ≠ b := by unfold gapN; omega
/-- Is one of a list's numbers above nought? -/
def farL (l : List Int) : Bool := l.any fun n => decide (0 < n)
structure DGood (d : DSt) : Prop where
  m : 0 ≤ d.m
  s : wrap64 d.s = d.s
theorem wrap64_wrap64 (n : Int) : wrap64 (wrap64 n) = wrap64 n := by unfold wrap64; omega
theorem far_iff {c o : Col} (hc : c.ok) (ho : o.ok) : farL (apartV c o) = !decide (o = c) := by
  obtain ⟨h1, h2, h3, h4⟩ := hc
  obtain ⟨g1, g2, g3, g4⟩ := ho
  have e1 := gap_pos h1 g1
  have e2 := gap_pos h2 g2
  have e3 := gap_pos h3 g3
  have e4 := gap_pos h4 g4
  unfold farL apartV
  simp only [List.any_cons, List.any_nil, Bool.or_false]
  by_cases h : o = c
  · subst h
    simp [gapN]
  · have : c.r ≠ o.r ∨ c.g ≠ o.g ∨ c.b ≠ o.b ∨ c.a ≠ o.a := by
      rcases Decidable.em (c.r = o.r) with a1 | a1
      · rcases Decidable.em (c.g = o.g) with a2 | a2
        · rcases Decidable.em (c.b = o.b) with a3 | a3
          · rcases Decidable.em (c.a = o.a) with a4 | a4
            · exact absurd (by cases o; cases c; simp_all) h
            · exact .inr (.inr (.inr a4))
          · exact .inr (.inr (.inl a3))
        · exact .inr (.inl a2)
      · exact .inl a1
    simp only [h, decide_false, Bool.not_false]
    rcases this with a | a | a | a
    · simp [e1.2 a]
    · simp [e2.2 a]
    · simp [e3.2 a]
    · simp [e4.2 a]
theorem step_good (d : DSt) (x y : Int) {c o : Col} (hc : c.ok) (ho : o.ok) (hd : DGood d) : DGood (d.step x y c o) ∧ (d.step x y c o).p = (if farL (apartV c o) then wrap64 (d.p + 1) else d.p) ∧ (d.step x y c o).m = mostL (apartV c o) d.m ∧ (d.step x y c o).s = sumL (apartV c o) d.s ∧ (d.step x y c o).b = (if o = c then d.b else d.b.add x y) := by
  rw [far_iff hc ho]
  unfold DSt.step
  have hm : 0 ≤ mostL (apartV c o) d.m := by
    have := hd.m
    unfold mostL apartV
    simp only [List.foldl_cons, List.foldl_nil]
    omega
  have hs : wrap64 (sumL (apartV c o) d.s) = sumL (apartV c o) d.s := by
    unfold sumL apartV
    simp only [List.foldl_cons, List.foldl_nil]
    exact wrap64_wrap64 _
  by_cases h : o = c
  · subst h
    simp only [if_true, decide_true, Bool.not_true, Bool.false_eq_true, if_false]
    have hz : ∀ a : Int, gapN a a = 0 := fun a => by unfold gapN; omega
    refine ⟨hd, trivial, ?_, ?_, trivial⟩
    · unfold mostL apartV
      simp only [List.foldl_cons, List.foldl_nil, hz]
      have := hd.m
      omega
    · unfold sumL apartV
      simp only [List.foldl_cons, List.foldl_nil, hz, Int.mul_zero]
      have hw0 : wrap64 0 = 0 := by unfold wrap64; omega
      simp only [hw0, Int.add_zero, hd.s]
  · rw [if_neg h, if_neg h, decide_eq_false h]
    exact ⟨⟨hm, hs⟩, rfl, rfl, rfl, rfl⟩
/-- Which pixels differ. -/
def unlikeMk (l1 l2 : List Int) (W : Nat) (k : Nat) : Bool := !decide (imgPx l2 W (k % W) (k / W) = imgPx l1 W (k % W) (k / W))
theorem stN_good (W : Nat) (l1 l2 : List Int) (u1 : U8s l1) (u2 : U8s l2) : ∀ k, DGood (stN W l1 l2 k) ∧ (stN W l1 l2 k).b = markN W (unlikeMk l1 l2 W) k := by
  intro k
  induction k with
  | zero => exact ⟨⟨by show (0 : Int) ≤ 0; omega, by show wrap64 0 = 0; unfold wrap64; omega⟩, rfl⟩
  | succ k ih =>
    obtain ⟨h1, h2⟩ := ih
    obtain ⟨g1, -, -, -, g5⟩ := step_good (stN W l1 l2 k) ((k % W : Nat) : Int) ((k / W : Nat) : Int) (imgPx_ok u1 W (k % W) (k / W)) (imgPx_ok u2 W (k % W) (k / W)) h1
    refine ⟨g1, ?_⟩
    show (DSt.step _ _ _ _ _).b = (if unlikeMk l1 l2 W k then _ else _)
    rw [g5, h2]
    unfold unlikeMk
    by_cases h : imgPx l2 W (k % W) (k / W) = imgPx l1 W (k % W) (k / W)
    · simp [h]
    · simp [h]
/-- An image does not differ from itself. -/
theorem stN_self (W : Nat) (l : List Int) : ∀ k, (stN W l l k) = ⟨0, 0, 0, ⟨0, 0, 0, 0, false⟩⟩ := by
  intro k
  induction k with
  | zero => rfl
  | succ k ih =>
    show DSt.step _ _ _ _ _ = _
    unfold DSt.step
    rw [if_pos rfl, ih]
end Go.Proofs.Ytkjnheikimpliaa
