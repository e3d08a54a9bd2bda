/- ops.Frame: walked, the whole. -/
import Derived.Test.YtkjnheikimpliaaFrameA
namespace Go.Proofs.Ytkjnheikimpliaa
set_option linter.unusedVariables false
set_option linter.unusedSimpArgs false
open Go.RowKit
attribute [local go_sem ↓] Go.wp_at_zero Go.wp_at_succ

set_option maxRecDepth 100000 in
theorem index4 (a b c d : Int) : ∀ i : Nat, i < 4 → ∀ W, (Instr.index 119 (.agg #[.int .i64 a, .int .i64 b, .int .i64 c, .int .i64 d]) (.int .i64 (i : Int))).run Try.prog W = .ok (.int .i64 ([a, b, c, d].getD i 0)) W := fun i hi => by
  match i, hi with
  | 0, _ => exact fun _ => by kernel_rfl
  | 1, _ => exact fun _ => by kernel_rfl
  | 2, _ => exact fun _ => by kernel_rfl
  | 3, _ => exact fun _ => by kernel_rfl
theorem all4 {a b c d : Int} {p : Int → Prop} (ha : p a) (hb : p b) (hc : p c) (hd : p d) : ∀ i : Nat, i < 4 → p ([a, b, c, d].getD i 0) := fun i hi => by
  match i, hi with
  | 0, _ => exact ha
  | 1, _ => exact hb
  | 2, _ => exact hc
  | 3, _ => exact hd
structure FrB (w v : World) (x y : Int) (A : Option Addr) (n cap : Nat) (a b : Int) (c : Col) : Prop where
  below : Below w.heap.size w v
  m : Blk v w.heap.size 34 #[.int .i64 x, .int .i64 y, .slice A n cap]
  a : Blk v (w.heap.size + 1) 3 #[.int .i64 a]
  b : Blk v (w.heap.size + 1 + 1) 3 #[.int .i64 b]
  c : Blk v (w.heap.size + 1 + 1 + 1) 36 #[.int .u8 c.r, .int .u8 c.g, .int .u8 c.b, .int .u8 c.a]
  r : Blk v (w.heap.size + 1 + 1 + 1 + 1) 34 #[.int .i64 0, .int .i64 0, .slice none 0 0]
theorem FrB.next {w v v' : World} {x y : Int} {A : Option Addr} {n cap : Nat} {a b : Int} {c : Col} (h : FrB w v x y A n cap a b c) (hb : Below v.heap.size v v') : FrB w v' x y A n cap a b c :=
  ⟨bstep h.below hb, h.m.below hb h.m.lt, h.a.below hb h.a.lt, h.b.below hb h.b.lt, h.c.below hb h.c.lt, h.r.below hb h.r.lt⟩

set_option maxRecDepth 100000 in
set_option maxHeartbeats 4000000 in
theorem frame_yes (W H L T R B : Nat) (A : Option Addr) (l : List Int) (cap : Nat) (c : Col) (w : World) (hR : rightI W H l.length) (hr : RowAt w w.heap.size .u8 A l) (hcap : l.length ≤ cap) (hW : W ≤ 600) (hH : H ≤ 600) (hL : L ≤ 20) (hT : T ≤ 20) (hRR : R ≤ 20) (hB : B ≤ 20) :
    Calls Try.prog 73 #[imgV W H A l.length cap, .int .i64 (L : Int), .int .i64 (T : Int), .int .i64 (R : Int), .int .i64 (B : Int), colV c] w (Made w (L + W + R) (T + H + B) (framePx l W H L T c)) := by
  have hX := hR.1.1
  have hY := hR.2.1.1
  have K1 := hide (right_yes hR A cap)
  have KB := hide fun (v : World) (hv : FrB w v W H A l.length cap L T c) =>
    build_pure 119 enters119 #[.pointer (some ⟨w.heap.size, 0, none⟩), .pointer (some ⟨w.heap.size + 1, 0, none⟩), .pointer (some ⟨w.heap.size + 1 + 1, 0, none⟩), .pointer (some ⟨w.heap.size + 1 + 1 + 1, 0, none⟩)] (framePx l W H L T c) (L + W + R) (T + H + B) (by omega) (by omega) v
      (fun x y w1 hx hy hb => frame1_any W H L T A l cap c x y w.heap.size (w.heap.size + 1) (w.heap.size + 1 + 1) (w.heap.size + 1 + 1 + 1) w1 hR ((hr.below (hv.next hb).below (Nat.le_refl _)).more (hv.next hb).below.size) hcap (by omega) (by omega) (by omega) (by omega) (hv.next hb).m (hv.next hb).a (hv.next hb).b (hv.next hb).c)
  have hix := hide (index4 (L : Int) T R B)
  have hall := hide (all4 (a := (L : Int)) (b := T) (c := R) (d := B) (p := fun z => 0 ≤ z ∧ z ≤ 16384) (by omega) (by omega) (by omega) (by omega))
  unfold Made
  obtain ⟨bs, hbs⟩ : ∃ bs, bs = bytesL (pxs (framePx l W H L T c) (L + W + R) ((L + W + R) * (T + H + B))) := ⟨_, rfl⟩
  rw [← hbs] at KB ⊢
  have e1 : ((L + W + R : Nat) : Int) = (L : Int) + W + R := by omega
  have e2 : ((T + H + B : Nat) : Int) = (T : Int) + H + B := by omega
  rw [e1, e2] at KB ⊢
  obtain ⟨y0, y1, y2, y3⟩ := c
  clear hR hr hcap hbs
  go_enter Try.func73, Try.ntmps73
  go_wp2_with (go_at_call 94; (with_reducible refine (K1.out _).mono ?_); rintro e w1 ⟨rfl, hb1⟩; obtain ⟨B1, B2, B3, B4, B5, hz, HW⟩ := own5 hb1; have F0 : FrB w w1 W H A l.length cap L T ⟨y0, y1, y2, y3⟩ := ⟨HW, B1, B2, B3, B4, B5⟩; obtain ⟨m0, m1, m2, -⟩ := blk3 B1; have l0 := B2.cell 0; have t0 := B3.cell 0; simp only [List.getElem?_toArray, List.getElem?_cons_succ, List.getElem?_cons_zero] at l0 t0; have HF := hide F0; clear hb1 B1 B2 B3 B4 B5 HW F0)
  go_loopw [25] (fun s wr => ∃ i : Nat, i ≤ 4 ∧ s = .int .i64 i ∧ wr = w1) (fun s _ => 4 - (intOf s).toNat)
  case atStart => exact ⟨0, by omega, rfl, rfl⟩
  case round =>
    obtain ⟨i, hi, rfl, rfl⟩ := hrel
    by_cases hlt : i < 4
    · have hx := hix.out i hlt
      have hv := hall.out i hlt
      generalize ([(L : Int), T, R, B].getD i 0) = z at hx hv
      obtain ⟨hv1, hv2⟩ := hv
      go_wp2_with fail
      go_roundw
      case rel => exact ⟨i + 1, by omega, by go_num, trivial⟩
      case measure => simp [intOf]; omega
    · go_wp2_with (go_at_call 104; (with_reducible refine (KB.out _ HF.out).mono ?_); rintro e w2 ⟨A', cap', rfl, hn, hb2⟩; have hF2 := HF.out.next hb2; obtain ⟨r0, r1, r2, f0, f1, f2⟩ := blk3 hF2.r; have lr := hF2.r.lt; have HF2 := hide hF2; have HN := hide hn; clear hn hF2)
      have lw := HF.out.r.lt
      have hsz := HF.out.below.size
      refine bodyPost_ret (v := .tuple #[imgV ((L : Int) + W + R) ((T : Int) + H + B) A' bs.length cap', .int .i64 0]) (by simp [results, Try.results73, go_sem, lr, r0, r1, r2]) rfl ⟨A', cap', rfl, ?_, ?_⟩
      · exact (((HN.out.set _ _ lw _).set _ _ lw _).set _ _ lw _).less hsz
      · exact bset (bset (bset HF2.out.below _ _ (by omega) _) _ _ (by omega) _) _ _ (by omega) _

set_option maxRecDepth 100000 in
set_option maxHeartbeats 4000000 in
theorem frame_range {x y : Int} {n : Nat} (h : rightI x y n) (A : Option Addr) (cap : Nat) (a b c d : Int) (hbad : ¬ ((0 ≤ a ∧ a ≤ 16384) ∧ (0 ≤ b ∧ b ≤ 16384) ∧ (0 ≤ c ∧ c ≤ 16384) ∧ 0 ≤ d ∧ d ≤ 16384)) (u : Col) (w : World) :
    Calls Try.prog 73 #[imgV x y A n cap, .int .i64 a, .int .i64 b, .int .i64 c, .int .i64 d, colV u] w (Refused w 2) := by
  have K1 := hide (right_yes h A cap)
  have hix := hide (index4 a b c d)
  have hno : ¬ ∀ i : Nat, i < 4 → 0 ≤ [a, b, c, d].getD i 0 ∧ [a, b, c, d].getD i 0 ≤ 16384 := fun hh => hbad ⟨hh 0 (by decide), hh 1 (by decide), hh 2 (by decide), hh 3 (by decide)⟩
  have HNO := hide hno
  unfold Refused
  obtain ⟨y0, y1, y2, y3⟩ := u
  clear h hbad hno
  go_enter Try.func73, Try.ntmps73
  go_wp2_with (go_at_call 94; (with_reducible refine (K1.out _).mono ?_); rintro e w1 ⟨rfl, hb1⟩; obtain ⟨B1, B2, B3, B4, B5, hz, HW⟩ := own5 hb1; obtain ⟨m0, m1, m2, -⟩ := blk3 B1; have l0 := B2.cell 0; have t0 := B3.cell 0; simp only [List.getElem?_toArray, List.getElem?_cons_succ, List.getElem?_cons_zero] at l0 t0; obtain ⟨r0, r1, r2, f0, f1, f2⟩ := blk3 B5; clear hb1 B1 B2 B3 B4 B5)
  go_loopw [25] (fun s wr => ∃ i : Nat, i ≤ 4 ∧ s = .int .i64 i ∧ wr = w1 ∧ ∀ j : Nat, j < i → 0 ≤ [a, b, c, d].getD j 0 ∧ [a, b, c, d].getD j 0 ≤ 16384) (fun s _ => 4 - (intOf s).toNat)
  case atStart => exact ⟨0, by omega, rfl, rfl, fun j hj => absurd hj (by omega)⟩
  case round =>
    obtain ⟨i, hi, rfl, rfl, hall⟩ := hrel
    by_cases hlt : i < 4
    · have hx := hix.out i hlt
      by_cases hg : 0 ≤ [a, b, c, d].getD i 0 ∧ [a, b, c, d].getD i 0 ≤ 16384
      · have HALL := hide (show ∀ j : Nat, j < i + 1 → 0 ≤ [a, b, c, d].getD j 0 ∧ [a, b, c, d].getD j 0 ≤ 16384 from fun j hj => by
          by_cases hji : j = i
          · rw [hji]; exact hg
          · exact hall j (by omega))
        clear hall
        generalize ([a, b, c, d].getD i 0) = z at hx hg
        obtain ⟨hv1, hv2⟩ := hg
        go_wp2_with fail
        go_roundw
        case rel => exact ⟨i + 1, by omega, by go_num, trivial, HALL.out⟩
        case measure => simp [intOf]; omega
      · clear hall
        generalize ([a, b, c, d].getD i 0) = z at hx hg
        have hg' : z < 0 ∨ (0 ≤ z ∧ 16384 < z) := by omega
        clear hg
        rcases hg' with hg | ⟨hg, hg'⟩
        all_goals
          go_wp2_with fail
          exact bodyPost_ret (v := .tuple #[imgV 0 0 none 0 0, .int .i64 2]) (by simp [results, Try.results73, go_sem, hz, r0, r1, r2]) rfl ⟨rfl, bset (bset (bset HW _ _ (by omega) _) _ _ (by omega) _) _ _ (by omega) _⟩
    · exact absurd (fun j hj => hall j (by omega)) HNO.out
set_option maxHeartbeats 2000000 in
theorem frame_no {x y : Int} {n : Nat} (h : ¬ rightI x y n) (A : Option Addr) (cap : Nat) (a b c d : Int) (u : Col) (w : World) :
    Calls Try.prog 73 #[imgV x y A n cap, .int .i64 a, .int .i64 b, .int .i64 c, .int .i64 d, colV u] w (Refused w 11) := by
  have K1 := hide (right_no h A cap)
  unfold Refused
  obtain ⟨y0, y1, y2, y3⟩ := u
  clear h
  go_enter Try.func73, Try.ntmps73
  go_wp2_with (go_at_call 94; (with_reducible refine (K1.out _).mono ?_); rintro e w1 ⟨rfl, hb1⟩; obtain ⟨B1, B2, B3, B4, B5, hz, HW⟩ := own5 hb1; obtain ⟨r0, r1, r2, f0, f1, f2⟩ := blk3 B5; clear hb1)
  exact bodyPost_ret (v := .tuple #[imgV 0 0 none 0 0, .int .i64 11]) (by simp [results, Try.results73, go_sem, hz, r0, r1, r2]) rfl ⟨rfl, bset (bset (bset HW _ _ (by omega) _) _ _ (by omega) _) _ _ (by omega) _⟩
end Go.Proofs.Ytkjnheikimpliaa
