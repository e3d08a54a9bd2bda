/- ops.lay, the whole; Paste, Over: walked. -/
import Derived.Test.YtkjnheikimpliaaLayA
namespace Go.Proofs.Ytkjnheikimpliaa
set_option linter.unusedVariables false
set_option linter.unusedSimpArgs false
open Go.RowKit
attribute [local go_sem ↓] Go.wp_at_zero Go.wp_at_succ

set_option maxHeartbeats 4000000 in
theorem lay_no {x1 y1 x2 y2 : Int} {n1 n2 : Nat} (h : ¬ (rightI x1 y1 n1 ∧ rightI x2 y2 n2)) (A1 A2 : Option Addr) (c1 c2 : Nat) (x y : Int) (F : Value) (w : World) (hF : ∃ g, F = .func (.func g) #[] #[]) :
    Calls Try.prog 121 #[imgV x1 y1 A1 n1 c1, imgV x2 y2 A2 n2 c2, .int .i64 x, .int .i64 y, F] w (Refused w 11) := by
  unfold Refused
  obtain ⟨g, rfl⟩ := hF
  by_cases g1 : rightI x1 y1 n1
  · have K1 := hide (right_yes g1 A1 c1)
    have K2 := hide (right_no (fun g2 => h ⟨g1, g2⟩) A2 c2)
    clear h g1
    go_enter Try.func121, Try.ntmps121
    go_wp2_with (first | (go_at_call 94; (with_reducible refine (K1.out _).mono ?_); rintro e w1 ⟨rfl, hb1⟩; obtain ⟨B1, B2, B3, B4, B5, B6, hz, HW⟩ := own6 hb1; obtain ⟨m0, m1, m2, -⟩ := blk3 B2; clear hb1) | (go_at_call 94; (with_reducible refine (K2.out _).mono ?_); rintro e w2 ⟨rfl, hb2⟩; obtain ⟨r0, r1, r2, f0, f1, f2⟩ := blk3 (B6.below hb2 B6.lt); have hz2 := Nat.lt_of_lt_of_le hz hb2.size; have HW2 := bstep HW hb2; clear hb2))
    exact bodyPost_ret (v := .tuple #[imgV 0 0 none 0 0, .int .i64 11]) (by simp [results, Try.results121, go_sem, hz2, r0, r1, r2]) rfl ⟨rfl, bset (bset (bset HW2 _ _ (by omega) _) _ _ (by omega) _) _ _ (by omega) _⟩
  · have K1 := hide (right_no g1 A1 c1)
    clear h g1
    go_enter Try.func121, Try.ntmps121
    go_wp2_with (go_at_call 94; (with_reducible refine (K1.out _).mono ?_); rintro e w1 ⟨rfl, hb1⟩; obtain ⟨B1, B2, B3, B4, B5, B6, hz, HW⟩ := own6 hb1; obtain ⟨r0, r1, r2, f0, f1, f2⟩ := blk3 B6; clear hb1)
    exact bodyPost_ret (v := .tuple #[imgV 0 0 none 0 0, .int .i64 11]) (by simp [results, Try.results121, go_sem, hz, r0, r1, r2]) rfl ⟨rfl, bset (bset (bset HW _ _ (by omega) _) _ _ (by omega) _) _ _ (by omega) _⟩

set_option maxHeartbeats 4000000 in
theorem lay_far (W H PW PH : Nat) (A Ap : Option Addr) (l lp : List Int) (cap capp : Nat) (x y : Int) (g : FuncId) (w : World) (hR : rightI W H l.length) (hR2 : rightI PW PH lp.length) (hr : RowAt w w.heap.size .u8 A l)
    (h : (x ≤ -16384 ∨ 16384 ≤ x) ∨ ((-16384 < x ∧ x < 16384) ∧ (y ≤ -16384 ∨ 16384 ≤ y))) :
    Calls Try.prog 121 #[imgV W H A l.length cap, imgV PW PH Ap lp.length capp, .int .i64 x, .int .i64 y, .func (.func g) #[] #[]] w (MadeL w W H l) := by
  have hl := right_le hR
  have K1 := hide (right_yes hR A cap)
  have K2 := hide (right_yes hR2 Ap capp)
  have KC := hide fun (w' : World) (hw : Below w.heap.size w w') => clone_any W H A l cap w' ((hr.below hw (Nat.le_refl _)).more hw.size) (by omega)
  have KY := hide far_yes
  have KN := hide far_no
  unfold MadeL
  clear hR hR2 hr
  rcases h with h | ⟨h1, h2⟩
  all_goals
    go_enter Try.func121, Try.ntmps121
    go_wp2_with (first | (go_at_call 94; (with_reducible refine (K1.out _).mono ?_); rintro e w1 ⟨rfl, hb1⟩; obtain ⟨B1, B2, B3, B4, B5, B6, hz, HW⟩ := own6 hb1; obtain ⟨p0, p1, p2, -⟩ := blk3 B2; clear hb1) | (go_at_call 94; (with_reducible refine (K2.out _).mono ?_); rintro e w2 ⟨rfl, hb2⟩; have C1 := B1.below hb2 B1.lt; have C6 := B6.below hb2 B6.lt; obtain ⟨m0, m1, m2, -⟩ := blk3 C1; obtain ⟨x0, -⟩ := blk1 (B3.below hb2 B3.lt); obtain ⟨y0, -⟩ := blk1 (B4.below hb2 B4.lt); have hz2 := Nat.lt_of_lt_of_le hz hb2.size; have HW2 := bstep HW hb2; clear hb2 B1 B2 B3 B4 B5) | (go_at_call 138; (with_reducible refine (KY.out _ (by assumption) _).mono ?_); rintro e w7 ⟨rfl, rfl⟩) | (go_at_call 138; (with_reducible refine (KN.out _ (by assumption) _).mono ?_); rintro e w7 ⟨rfl, rfl⟩) | (go_at_call 44; (with_reducible refine (KC.out _ HW2).mono ?_); rintro e w3 ⟨A', cap', rfl, hi, hb3⟩; obtain ⟨r0, r1, r2, f0, f1, f2⟩ := blk3 (C6.below hb3 C6.lt); have hz3 := Nat.lt_of_lt_of_le hz2 hb3.size; have HW3 := bstep HW2 hb3; have HI := hide hi; clear hb3 hi))
    have hww := HW2.size
    refine bodyPost_ret (v := .tuple #[imgV W H A' l.length cap', .int .i64 0]) (by simp [results, Try.results121, go_sem, hz3, r0, r1, r2]) rfl ⟨A', cap', rfl, ?_, ?_⟩
    · exact (((HI.out.set _ _ (by omega) _).set _ _ (by omega) _).set _ _ (by omega) _).less (by omega)
    · exact bset (bset (bset HW3 _ _ (by omega) _) _ _ (by omega) _) _ _ (by omega) _

set_option maxHeartbeats 4000000 in
theorem lay_near (g : FuncId) (eg : ∀ args w, (callFunc g args).run Try.prog w = .ok (.enter g args) w) (f : Col → Col → Col) (HG : Hid (∀ (c u : Col) (w : World), c.ok → u.ok → Calls Try.prog g #[colV c, colV u] w fun e w' => e = .returned (colV (f c u)) ∧ Below w.heap.size w w'))
    (W H PW PH : Nat) (A Ap : Option Addr) (l lp : List Int) (cap capp : Nat) (x y : Int) (w : World) (hR : rightI W H l.length) (hR2 : rightI PW PH lp.length) (hr : RowAt w w.heap.size .u8 A l) (hr2 : RowAt w w.heap.size .u8 Ap lp) (hcap : l.length ≤ cap) (hcap2 : lp.length ≤ capp) (hu : U8s l) (hu2 : U8s lp)
    (hx : -16384 < x ∧ x < 16384) (hy : -16384 < y ∧ y < 16384) :
    Calls Try.prog 121 #[imgV W H A l.length cap, imgV PW PH Ap lp.length capp, .int .i64 x, .int .i64 y, .func (.func g) #[] #[]] w (Made w W H (layPx f l lp W PW PH x y)) := by
  have hX := hR.1
  have hY := hR.2.1
  have K1 := hide (right_yes hR A cap)
  have K2 := hide (right_yes hR2 Ap capp)
  have KN := hide far_no
  have KB := hide fun (v : World) (hv : Below w.heap.size w v) (hB : LayB v w.heap.size (w.heap.size + 1) (w.heap.size + 1 + 1) (w.heap.size + 1 + 1 + 1) (w.heap.size + 1 + 1 + 1 + 1) W H PW PH A Ap l.length lp.length cap capp x y (.func (.func g) #[] #[])) =>
    build_pure 139 enters139 #[.pointer (some ⟨w.heap.size, 0, none⟩), .pointer (some ⟨w.heap.size + 1, 0, none⟩), .pointer (some ⟨w.heap.size + 1 + 1, 0, none⟩), .pointer (some ⟨w.heap.size + 1 + 1 + 1, 0, none⟩), .pointer (some ⟨w.heap.size + 1 + 1 + 1 + 1, 0, none⟩)] (layPx f l lp W PW PH x y) W H (by omega) (by omega) v
      (fun a b w1 ha hb hbw => lay2_any g eg f HG W H PW PH A Ap l lp cap capp x y a b w.heap.size (w.heap.size + 1) (w.heap.size + 1 + 1) (w.heap.size + 1 + 1 + 1) (w.heap.size + 1 + 1 + 1 + 1) w1 hR hR2 ((hr.below (bstep hv hbw) (Nat.le_refl _)).more (bstep hv hbw).size) ((hr2.below (bstep hv hbw) (Nat.le_refl _)).more (bstep hv hbw).size) hcap hcap2 hu hu2 (by omega) (by omega) ha hb (hB.below hbw))
  unfold Made
  obtain ⟨bs, hbs⟩ : ∃ bs, bs = bytesL (pxs (layPx f l lp W PW PH x y) W (W * H)) := ⟨_, rfl⟩
  rw [← hbs] at KB ⊢
  clear hR hR2 hr hr2 hcap hcap2 hu hu2 hbs HG
  go_enter Try.func121, Try.ntmps121
  go_wp2_with (first | (go_at_call 94; (with_reducible refine (K1.out _).mono ?_); rintro e w1 ⟨rfl, hb1⟩; obtain ⟨B1, B2, B3, B4, B5, B6, hz, HW⟩ := own6 hb1; obtain ⟨p0, p1, p2, -⟩ := blk3 B2; clear hb1) | (go_at_call 94; (with_reducible refine (K2.out _).mono ?_); rintro e w2 ⟨rfl, hb2⟩; have C1 := B1.below hb2 B1.lt; have C6 := B6.below hb2 B6.lt; have HB := hide (⟨C1, B2.below hb2 B2.lt, B3.below hb2 B3.lt, B4.below hb2 B4.lt, B5.below hb2 B5.lt⟩ : LayB w2 w.heap.size (w.heap.size + 1) (w.heap.size + 1 + 1) (w.heap.size + 1 + 1 + 1) (w.heap.size + 1 + 1 + 1 + 1) W H PW PH A Ap l.length lp.length cap capp x y (.func (.func g) #[] #[])); obtain ⟨m0, m1, m2, -⟩ := blk3 C1; obtain ⟨x0, -⟩ := blk1 (B3.below hb2 B3.lt); obtain ⟨y0, -⟩ := blk1 (B4.below hb2 B4.lt); have hz2 := Nat.lt_of_lt_of_le hz hb2.size; have HW2 := bstep HW hb2; clear hb2 B1 B2 B3 B4 B5) | (go_at_call 138; (with_reducible refine (KN.out _ (by assumption) _).mono ?_); rintro e w7 ⟨rfl, rfl⟩) | (go_at_call 104; (with_reducible refine (KB.out _ HW2 HB.out).mono ?_); rintro e w3 ⟨A', cap', rfl, hi, hb3⟩; obtain ⟨r0, r1, r2, f0, f1, f2⟩ := blk3 (C6.below hb3 C6.lt); have hz3 := Nat.lt_of_lt_of_le hz2 hb3.size; have HW3 := bstep HW2 hb3; have HI := hide hi; clear hb3 hi))
  have hww := HW2.size
  refine bodyPost_ret (v := .tuple #[imgV W H A' bs.length cap', .int .i64 0]) (by simp [results, Try.results121, go_sem, hz3, r0, r1, r2]) rfl ⟨A', cap', rfl, ?_, ?_⟩
  · exact (((HI.out.set _ _ (by omega) _).set _ _ (by omega) _).set _ _ (by omega) _).less (by omega)
  · exact bset (bset (bset HW3 _ _ (by omega) _) _ _ (by omega) _) _ _ (by omega) _

/-- Where nothing of the part is there, the image is as it was. -/
theorem layPx_out (f : Col → Col → Col) {l lp : List Int} {W H PW PH : Nat} {x y : Int} (hR : rightI W H l.length) (hR2 : rightI PW PH lp.length) (h : (x ≤ -16384 ∨ 16384 ≤ x) ∨ (y ≤ -16384 ∨ 16384 ≤ y)) : bytesL (pxs (layPx f l lp W PW PH x y) W (W * H)) = l := by
  have hX := hR.1
  have hY := hR.2.1
  have hP := hR2.1
  have hQ := hR2.2.1
  rw [pxs_congr _ (imgPx l W) W H (by omega) (fun a b ha hb => ?_), bytes_img hR]
  unfold layPx
  rw [if_neg]
  intro hin
  omega
theorem lay_any (g : FuncId) (eg : ∀ args w, (callFunc g args).run Try.prog w = .ok (.enter g args) w) (f : Col → Col → Col) (HG : Hid (∀ (c u : Col) (w : World), c.ok → u.ok → Calls Try.prog g #[colV c, colV u] w fun e w' => e = .returned (colV (f c u)) ∧ Below w.heap.size w w'))
    (W H PW PH : Nat) (A Ap : Option Addr) (l lp : List Int) (cap capp : Nat) (x y : Int) (w : World) (hR : rightI W H l.length) (hR2 : rightI PW PH lp.length) (hr : RowAt w w.heap.size .u8 A l) (hr2 : RowAt w w.heap.size .u8 Ap lp) (hcap : l.length ≤ cap) (hcap2 : lp.length ≤ capp) (hu : U8s l) (hu2 : U8s lp) :
    Calls Try.prog 121 #[imgV W H A l.length cap, imgV PW PH Ap lp.length capp, .int .i64 x, .int .i64 y, .func (.func g) #[] #[]] w (MadeL w W H (bytesL (pxs (layPx f l lp W PW PH x y) W (W * H)))) := by
  by_cases h : (x ≤ -16384 ∨ 16384 ≤ x) ∨ (y ≤ -16384 ∨ 16384 ≤ y)
  · rw [layPx_out f hR hR2 h]
    exact lay_far W H PW PH A Ap l lp cap capp x y g w hR hR2 hr (by omega)
  · exact (lay_near g eg f HG W H PW PH A Ap l lp cap capp x y w hR hR2 hr hr2 hcap hcap2 hu hu2 (by omega) (by omega)).mono fun _ _ h => Made.toL h

theorem paste1_hid : Hid (∀ (c u : Col) (w : World), c.ok → u.ok → Calls Try.prog 122 #[colV c, colV u] w fun e w' => e = .returned (colV ((fun c _ => c) c u)) ∧ Below w.heap.size w w') := hide fun c u w _ _ => paste1_any c u w
theorem blend_hid : Hid (∀ (c u : Col) (w : World), c.ok → u.ok → Calls Try.prog 68 #[colV c, colV u] w fun e w' => e = .returned (colV (blendC c u)) ∧ Below w.heap.size w w') := hide fun c u w hc hu => blend_any c u hc hu w

set_option maxHeartbeats 2000000 in
theorem paste_no {x1 y1 x2 y2 : Int} {n1 n2 : Nat} (h : ¬ (rightI x1 y1 n1 ∧ rightI x2 y2 n2)) (A1 A2 : Option Addr) (c1 c2 : Nat) (x y : Int) (w : World) :
    Calls Try.prog 74 #[imgV x1 y1 A1 n1 c1, imgV x2 y2 A2 n2 c2, .int .i64 x, .int .i64 y] w (Refused w 11) := by
  have K1 := hide fun w' => lay_no h A1 A2 c1 c2 x y (.func (.func 122) #[] #[]) w' ⟨_, rfl⟩
  unfold Refused at *
  clear h
  go_enter Try.func74, Try.ntmps74
  go_wp2_with (go_at_call 121; (with_reducible refine (K1.out _).mono ?_); rintro e w1 ⟨rfl, hb1⟩; obtain ⟨B1, B2, B3, hz, HW⟩ := own3 hb1; obtain ⟨r0, r1, r2, f0, f1, f2⟩ := blk3 B3; clear hb1)
  exact bodyPost_ret (v := .tuple #[imgV 0 0 none 0 0, .int .i64 11]) (by simp [results, Try.results74, go_sem, hz, r0, r1, r2]) rfl ⟨rfl, bset (bset (bset HW _ _ (by omega) _) _ _ (by omega) _) _ _ (by omega) _⟩
set_option maxHeartbeats 2000000 in
theorem paste_yes (W H PW PH : Nat) (A Ap : Option Addr) (l lp : List Int) (cap capp : Nat) (x y : Int) (w : World) (hR : rightI W H l.length) (hR2 : rightI PW PH lp.length) (hr : RowAt w w.heap.size .u8 A l) (hr2 : RowAt w w.heap.size .u8 Ap lp) (hcap : l.length ≤ cap) (hcap2 : lp.length ≤ capp) (hu : U8s l) (hu2 : U8s lp) :
    Calls Try.prog 74 #[imgV W H A l.length cap, imgV PW PH Ap lp.length capp, .int .i64 x, .int .i64 y] w (MadeL w W H (bytesL (pxs (layPx (fun c _ => c) l lp W PW PH x y) W (W * H)))) := by
  have K1 := hide fun (w' : World) (hw : Below w.heap.size w w') => lay_any 122 enters122 (fun c _ => c) paste1_hid W H PW PH A Ap l lp cap capp x y w' hR hR2 ((hr.below hw (Nat.le_refl _)).more hw.size) ((hr2.below hw (Nat.le_refl _)).more hw.size) hcap hcap2 hu hu2
  obtain ⟨bs, hbs⟩ : ∃ bs, bs = bytesL (pxs (layPx (fun c _ => c) l lp W PW PH x y) W (W * H)) := ⟨_, rfl⟩
  rw [← hbs] at K1 ⊢
  unfold MadeL at *
  clear hR hR2 hr hr2 hcap hcap2 hu hu2 hbs
  go_enter Try.func74, Try.ntmps74
  go_wp2_with (go_at_call 121; (with_reducible refine (K1.out _ (balloc (balloc (below_alloc w _) _) _)).mono ?_); rintro e w1 ⟨A', cap', rfl, hi, hb1⟩; obtain ⟨B1, B2, B3, hz, HW⟩ := own3 hb1; obtain ⟨r0, r1, r2, f0, f1, f2⟩ := blk3 B3; have HI := hide hi; clear hb1 hi)
  refine bodyPost_ret (v := .tuple #[imgV W H A' bs.length cap', .int .i64 0]) (by simp [results, Try.results74, go_sem, hz, r0, r1, r2]) rfl ⟨A', cap', rfl, ?_, ?_⟩
  · exact (((HI.out.set _ _ (by simp) _).set _ _ (by simp) _).set _ _ (by simp) _).less (by simp; omega)
  · exact bset (bset (bset HW _ _ (by omega) _) _ _ (by omega) _) _ _ (by omega) _

set_option maxHeartbeats 2000000 in
theorem over_no {x1 y1 x2 y2 : Int} {n1 n2 : Nat} (h : ¬ (rightI x1 y1 n1 ∧ rightI x2 y2 n2)) (A1 A2 : Option Addr) (c1 c2 : Nat) (x y : Int) (w : World) :
    Calls Try.prog 75 #[imgV x1 y1 A1 n1 c1, imgV x2 y2 A2 n2 c2, .int .i64 x, .int .i64 y] w (Refused w 11) := by
  have K1 := hide fun w' => lay_no h A1 A2 c1 c2 x y (.func (.func 68) #[] #[]) w' ⟨_, rfl⟩
  unfold Refused at *
  clear h
  go_enter Try.func75, Try.ntmps75
  go_wp2_with (go_at_call 121; (with_reducible refine (K1.out _).mono ?_); rintro e w1 ⟨rfl, hb1⟩; obtain ⟨B1, B2, B3, hz, HW⟩ := own3 hb1; obtain ⟨r0, r1, r2, f0, f1, f2⟩ := blk3 B3; clear hb1)
  exact bodyPost_ret (v := .tuple #[imgV 0 0 none 0 0, .int .i64 11]) (by simp [results, Try.results75, go_sem, hz, r0, r1, r2]) rfl ⟨rfl, bset (bset (bset HW _ _ (by omega) _) _ _ (by omega) _) _ _ (by omega) _⟩
set_option maxHeartbeats 2000000 in
theorem over_yes (W H PW PH : Nat) (A Ap : Option Addr) (l lp : List Int) (cap capp : Nat) (x y : Int) (w : World) (hR : rightI W H l.length) (hR2 : rightI PW PH lp.length) (hr : RowAt w w.heap.size .u8 A l) (hr2 : RowAt w w.heap.size .u8 Ap lp) (hcap : l.length ≤ cap) (hcap2 : lp.length ≤ capp) (hu : U8s l) (hu2 : U8s lp) :
    Calls Try.prog 75 #[imgV W H A l.length cap, imgV PW PH Ap lp.length capp, .int .i64 x, .int .i64 y] w (MadeL w W H (bytesL (pxs (layPx blendC l lp W PW PH x y) W (W * H)))) := by
  have K1 := hide fun (w' : World) (hw : Below w.heap.size w w') => lay_any 68 enters68 blendC blend_hid W H PW PH A Ap l lp cap capp x y w' hR hR2 ((hr.below hw (Nat.le_refl _)).more hw.size) ((hr2.below hw (Nat.le_refl _)).more hw.size) hcap hcap2 hu hu2
  obtain ⟨bs, hbs⟩ : ∃ bs, bs = bytesL (pxs (layPx blendC l lp W PW PH x y) W (W * H)) := ⟨_, rfl⟩
  rw [← hbs] at K1 ⊢
  unfold MadeL at *
  clear hR hR2 hr hr2 hcap hcap2 hu hu2 hbs
  go_enter Try.func75, Try.ntmps75
  go_wp2_with (go_at_call 121; (with_reducible refine (K1.out _ (balloc (balloc (below_alloc w _) _) _)).mono ?_); rintro e w1 ⟨A', cap', rfl, hi, hb1⟩; obtain ⟨B1, B2, B3, hz, HW⟩ := own3 hb1; obtain ⟨r0, r1, r2, f0, f1, f2⟩ := blk3 B3; have HI := hide hi; clear hb1 hi)
  refine bodyPost_ret (v := .tuple #[imgV W H A' bs.length cap', .int .i64 0]) (by simp [results, Try.results75, go_sem, hz, r0, r1, r2]) rfl ⟨A', cap', rfl, ?_, ?_⟩
  · exact (((HI.out.set _ _ (by simp) _).set _ _ (by simp) _).set _ _ (by simp) _).less (by simp; omega)
  · exact bset (bset (bset HW _ _ (by omega) _) _ _ (by omega) _) _ _ (by omega) _
end Go.Proofs.Ytkjnheikimpliaa
