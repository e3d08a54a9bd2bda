/- The law QuantPopular. -/
import Derived.Test.YtkjnheikimpliaaPopX
import Derived.Test.YtkjnheikimpliaaLawDithB
namespace Go.Proofs.Ytkjnheikimpliaa
/-! The law QuantPopular: the short cases, and what of its images is plain. -/
section
set_option linter.unusedVariables false
set_option linter.unusedSimpArgs false
open Go.RowKit
attribute [local go_sem ↓] Go.wp_at_zero Go.wp_at_succ

/-! ### Plain -/
theorem rightN' {W H n : Nat} (h : rightI W H n) : 1 ≤ W ∧ 1 ≤ H ∧ W ≤ 16384 ∧ H ≤ 16384 ∧ n = 4 * (W * H) := by
  obtain ⟨⟨h1, h2⟩, ⟨h3, h4⟩, h5⟩ := h
  have e : 4 * (W : Int) * (H : Int) = ((4 * (W * H) : Nat) : Int) := by rw [Int.mul_assoc]; simp
  rw [e] at h5
  refine ⟨by omega, by omega, by omega, by omega, by omega⟩
theorem nearN_min (cs : List Col) (c : Col) : ∀ k i, i < k → farV (cs.getD (nearN cs c k) ⟨0, 0, 0, 0⟩) c ≤ farV (cs.getD i ⟨0, 0, 0, 0⟩) c := by
  intro k
  induction k with
  | zero => intro i h; omega
  | succ k ih =>
    intro i hi
    by_cases h : farV (cs.getD k ⟨0, 0, 0, 0⟩) c < farV (cs.getD (nearN cs c k) ⟨0, 0, 0, 0⟩) c
    · rw [nearN_yes h]
      rcases Nat.lt_or_ge i k with h1 | h1
      · have := ih i h1; omega
      · rw [show i = k by omega]; exact Int.le_refl _
    · rw [nearN_no h]
      rcases Nat.lt_or_ge i k with h1 | h1
      · exact ih i h1
      · rw [show i = k by omega]; omega
theorem sqdN_pos (a b : Int) : 0 ≤ sqdN a b ∧ (sqdN a b = 0 → a = b) := by
  unfold sqdN
  have h : ∀ d : Int, 0 ≤ d * d ∧ (d * d = 0 → d = 0) := fun d => by
    refine ⟨?_, fun h => ?_⟩
    · rcases Int.lt_or_le d 0 with h0 | h0
      · exact Int.le_of_lt (Int.mul_pos_of_neg_of_neg h0 h0)
      · exact Int.mul_nonneg h0 h0
    · rcases Int.mul_eq_zero.1 h with h | h <;> exact h
  refine ⟨(h _).1, fun h0 => ?_⟩
  have := (h _).2 h0
  omega
theorem farV_self (c : Col) : farV c c = 0 := by simp [farV, sqdN]
theorem farV_zero {c d : Col} (h : farV c d ≤ 0) : c = d := by
  have h1 := sqdN_pos c.r d.r
  have h2 := sqdN_pos c.g d.g
  have h3 := sqdN_pos c.b d.b
  have h4 := sqdN_pos c.a d.a
  unfold farV at h
  have e1 := h1.2 (by omega)
  have e2 := h2.2 (by omega)
  have e3 := h3.2 (by omega)
  have e4 := h4.2 (by omega)
  cases c; cases d
  simp at e1 e2 e3 e4
  simp [e1, e2, e3, e4]
/-- What is among the colours is its own nearest one. -/
theorem near_self {cs : List Col} {c : Col} (h : c ∈ cs) : cs.getD (nearN cs c cs.length) ⟨0, 0, 0, 0⟩ = c := by
  obtain ⟨i, hi, e⟩ := List.mem_iff_getElem.1 h
  have h1 := nearN_min cs c cs.length i hi
  have e2 : cs.getD i ⟨0, 0, 0, 0⟩ = c := by simp [List.getD, hi, e]
  rw [e2, farV_self] at h1
  exact farV_zero h1
theorem redL_len (l : List Int) (W : Nat) (cs : List Col) (N : Nat) : (redL l W cs N).length = 4 * N := by simp [redL, bytesL_len, numsI]
theorem red_right {l : List Int} {W H : Nat} (hR : rightI W H l.length) (cs : List Col) : rightI W H (redL l W cs (W * H)).length := by
  obtain ⟨h1, h2, h3, h4, h5⟩ := rightN' hR
  rw [redL_len, ← h5]; exact hR
/-- A pixel of the image of its nearest colours. -/
theorem red_px {l : List Int} {W H : Nat} (cs : List Col) {k : Nat} (hk : k < W * H) : imgPx (redL l W cs (W * H)) W (k % W) (k / W) = cs.getD (pxNear l W cs k) ⟨0, 0, 0, 0⟩ := by
  have e : k / W * W + k % W = k := by rw [Nat.mul_comm]; exact Nat.div_add_mod k W
  unfold imgPx
  rw [e]
  refine pix_bytesL _ _ _ ?_
  simp [numsI, hk, pickC]
/-- Where there are so few colours the image is as it was. -/
theorem red_same {l : List Int} {W H n : Nat} (hR : rightI W H l.length) (hn : dcN l (W * H) ≤ n) : redL l W ((popL l (W * H)).take n) (W * H) = l := by
  rw [List.take_of_length_le (by rw [popL_len]; exact hn)]
  conv => rhs; rw [← bytes_img hR]
  unfold redL
  congr 1
  unfold numsI pxs
  rw [List.map_map]
  refine List.map_congr_left fun k hk => ?_
  rw [List.mem_range] at hk
  show pickC (popL l (W * H)) (pxNear l W (popL l (W * H)) k : Int) = imgPx l W (k % W) (k / W)
  unfold pickC pxNear
  rw [Int.toNat_natCast]
  refine near_self ?_
  rw [popL_mem]
  have e : k / W * W + k % W = k := by rw [Nat.mul_comm]; exact Nat.div_add_mod k W
  unfold imgPx
  rw [e]
  have : ∀ N, k < N → cntN l (pix l k) N ≠ 0 := by
    intro N
    induction N with
    | zero => intro h; omega
    | succ N ih =>
      intro h
      show cntN l (pix l k) N + (if pix l N = pix l k then 1 else 0) ≠ 0
      rcases Nat.lt_or_ge k N with h1 | h1
      · have := ih h1; omega
      · rw [show N = k by omega, if_pos rfl]; omega
  exact this _ hk
theorem u8s_bytes {cs : List Col} (h : ∀ c ∈ cs, c.ok) : U8s (bytesL cs) := by
  intro z hz
  unfold bytesL at hz
  rw [List.mem_flatMap] at hz
  obtain ⟨c, hc, hz⟩ := hz
  obtain ⟨h1, h2, h3, h4⟩ := h c hc
  simp [colL] at hz
  rcases hz with rfl | rfl | rfl | rfl <;> assumption
theorem red_u8 {l : List Int} {W N : Nat} {cs : List Col} (hcs : ∀ c ∈ cs, c.ok) (hc : 1 ≤ cs.length) : U8s (redL l W cs N) := by
  unfold redL
  refine u8s_bytes fun c hm => ?_
  obtain ⟨z, hz, rfl⟩ := List.mem_map.1 hm
  obtain ⟨i, hi, rfl⟩ := List.mem_iff_getElem.1 hz
  have h1 := nums_in l W cs N hc i hi
  have e : (numsI l W cs N).getD i 0 = (numsI l W cs N)[i] := by simp [List.getD, hi]
  rw [e] at h1
  unfold pickC
  exact hcs _ (getD_mem (by omega))

/-! ### The short cases -/
set_option maxRecDepth 1000000 in
set_option maxHeartbeats 2000000 in
theorem pp_big (x y : Int) (A : Option Addr) (k cap : Nat) (n : Int) (w : World) (h : 600 < k) :
    Calls Try.prog 21 #[imgV x y A k cap, .int .i64 n] w fun e w' => e = .returned (.bool true) ∧ Below w.heap.size w w' := by
  go_enter Try.func21, Try.ntmps21
  go_wp2_with (go_at_call 46; (with_reducible refine (awake36 _).mono ?_); rintro e w1 ⟨rfl, hb1⟩)
  go_ret
  exact ⟨rfl, bstep (below_alloc w _) hb1⟩
set_option maxRecDepth 1000000 in
set_option maxHeartbeats 4000000 in
theorem pp_no (x y : Int) (A : Option Addr) (k cap : Nat) (n : Int) (w : World) (h : ¬ 600 < k) (hR : ¬ rightI x y k) :
    Calls Try.prog 21 #[imgV x y A k cap, .int .i64 n] w fun e w' => e = .returned (.bool true) ∧ Below w.heap.size w w' := by
  have K0 := hide fun (w' : World) => popular_no hR A cap n w'
  have K1 := hide fun (w' : World) => reduce_ref 11 (by rfl) w' (fun w'' => popular_no hR A cap n w'')
  have K2 := hide (refRight_no hR A cap)
  have K3 := hide fun (w' : World) => is_zero w'
  unfold Refused at K1
  clear hR
  go_enter Try.func21, Try.ntmps21
  go_wp2_with (first | (go_at_call 87; (with_reducible refine (K0.out _).mono ?_); rintro e w1 ⟨rfl, hb1⟩; obtain ⟨B1, hz, HW⟩ := own1 hb1; obtain ⟨m0, m1, m2, -⟩ := blk3 B1; have HB1 := hide B1; clear hb1 B1) | (go_at_call 88; (with_reducible refine (K1.out _).mono ?_); rintro e w2 ⟨rfl, hb2⟩; have B2 := HB1.out.below hb2 HB1.out.lt; have HW2 := bstep HW hb2; obtain ⟨m0, m1, m2, -⟩ := blk3x B2; have HB2 := hide B2; clear hb2 B2) | (go_at_call 36; (with_reducible refine (K2.out _).mono ?_); rintro e w3 ⟨rfl, hb3⟩; obtain ⟨B3, hz3, HW3⟩ := own1 hb3; have HWW := bstep HW2 HW3; obtain ⟨n0, n1, n2, -⟩ := blk3 B3; clear hb3) | (go_at_call 45; (with_reducible refine (K3.out _).mono ?_); rintro e w4 ⟨rfl, hb4⟩; have HW4 := bstep HWW hb4) | (go_at_call 46; (with_reducible refine (awake36 _).mono ?_); rintro e w5 ⟨rfl, hb5⟩))
  go_ret
  exact ⟨rfl, bstep HW4 hb5⟩
set_option maxRecDepth 1000000 in
set_option maxHeartbeats 4000000 in
theorem pp_range (x y : Int) (A : Option Addr) (k cap : Nat) (n : Int) (w : World) (h : ¬ 600 < k) (hR : rightI x y k) (hn : n < 1 ∨ (1 ≤ n ∧ 256 < n)) :
    Calls Try.prog 21 #[imgV x y A k cap, .int .i64 n] w fun e w' => e = .returned (.bool true) ∧ Below w.heap.size w w' := by
  have K0 := hide fun (w' : World) => popular_range hR A cap n (by omega) w'
  have K1 := hide fun (w' : World) => reduce_ref 2 (by rfl) w' (fun w'' => popular_range hR A cap n (by omega) w'')
  have K2 := hide (refRight_yes hR A cap)
  have K3 := hide fun (w' : World) => is_zero w'
  unfold Refused at K1
  clear hR
  rcases hn with hn | ⟨hn, hn'⟩
  all_goals
    go_enter Try.func21, Try.ntmps21
    go_wp2_with (first | (go_at_call 87; (with_reducible refine (K0.out _).mono ?_); rintro e w1 ⟨rfl, hb1⟩; obtain ⟨B1, hz, HW⟩ := own1 hb1; obtain ⟨m0, m1, m2, -⟩ := blk3 B1; have HB1 := hide B1; clear hb1 B1) | (go_at_call 88; (with_reducible refine (K1.out _).mono ?_); rintro e w2 ⟨rfl, hb2⟩; have B2 := HB1.out.below hb2 HB1.out.lt; have HW2 := bstep HW hb2; obtain ⟨m0, m1, m2, -⟩ := blk3x B2; have HB2 := hide B2; clear hb2 B2) | (go_at_call 36; (with_reducible refine (K2.out _).mono ?_); rintro e w3 ⟨rfl, hb3⟩; obtain ⟨B3, hz3, HW3⟩ := own1 hb3; have HWW := bstep HW2 HW3; obtain ⟨n0, n1, n2, -⟩ := blk3 B3; clear hb3) | (go_at_call 45; (with_reducible refine (K3.out _).mono ?_); rintro e w4 ⟨rfl, hb4⟩; have HW4 := bstep HWW hb4) | (go_at_call 46; (with_reducible refine (awake36 _).mono ?_); rintro e w5 ⟨rfl, hb5⟩))
    go_ret
    exact ⟨rfl, bstep HW4 hb5⟩
end

/-! The law QuantPopular, of a right image and a right number; joined. -/
section
set_option linter.unusedVariables false
set_option linter.unusedSimpArgs false
open Go.RowKit
attribute [local go_sem ↓] Go.wp_at_zero Go.wp_at_succ

/-- What the law's loops keep: the two images' boxes, the two rows of colours. -/
structure PPI (w : World) (W H : Nat) (A A2 : Option Addr) (l l2 : List Int) (cap cap2 bt gl gp : Nat) (cs : List Col) (wr : World) : Prop where
  below : Below w.heap.size w wr
  m : Pic wr w.heap.size W H A l cap
  t : Pic wr bt W H A2 l2 cap2
  lo : CsAt wr gl 0 cs
  po : TRow wr wr.heap.size (some ⟨gp, 0, none⟩) cs
theorem PPI.next {w : World} {W H : Nat} {A A2 : Option Addr} {l l2 : List Int} {cap cap2 bt gl gp : Nat} {cs : List Col} {wr V : World} (h : PPI w W H A A2 l l2 cap cap2 bt gl gp cs wr) (hb : Below wr.heap.size wr V) : PPI w W H A A2 l l2 cap cap2 bt gl gp cs V :=
  ⟨bstep h.below hb, h.m.below hb, h.t.below hb, h.lo.below hb, htr_below h.po hb⟩
theorem csAt_of {w : World} {g : Nat} {cs : List Col} (h : TRow w w.heap.size (some ⟨g, 0, none⟩) cs) (h1 : 1 ≤ cs.length) : CsAt w g 0 cs := by
  obtain ⟨bc, oc, hbc, hat⟩ := cols_at h.row h1
  injection hbc with hbc; injection hbc with hbc hoc
  subst hbc hoc
  exact hat
theorem CsAt.cells {w : World} {g : Nat} {cs : List Col} (h : CsAt w g 0 cs) {k : Nat} (hk : k < cs.length) {c : Col} (hc : c = cs.getD k ⟨0, 0, 0, 0⟩) :
    w.cell? ⟨g, k * 4, none⟩ = some (.int .u8 c.r) ∧ w.cell? ⟨g, k * 4 + 1, none⟩ = some (.int .u8 c.g) ∧ w.cell? ⟨g, k * 4 + 2, none⟩ = some (.int .u8 c.b) ∧ w.cell? ⟨g, k * 4 + 3, none⟩ = some (.int .u8 c.a) := by
  have := h.at_ k hk
  rw [← hc] at this
  obtain ⟨h0, h1, h2, h3⟩ := this
  simp only [Nat.zero_add] at h0 h1 h2 h3
  exact ⟨h0, h1, h2, h3⟩

set_option maxRecDepth 1000000 in
set_option maxHeartbeats 32000000 in
theorem pp_yes (W H : Nat) (A : Option Addr) (l : List Int) (cap n : Nat) (w : World) (hn : 1 ≤ n) (hn2 : n ≤ 256) (hu : U8s l) (hr : RowAt w w.heap.size .u8 A l) (hcap : l.length ≤ cap) (h : ¬ 600 < l.length) (hR : rightI W H l.length) :
    Calls Try.prog 21 #[imgV W H A l.length cap, .int .i64 n] w fun e w' => e = .returned (.bool true) ∧ Below w.heap.size w w' := by
  obtain ⟨hW1, hH1, hW2, hH2, hl4⟩ := rightN' hR
  have K87 := hide fun (w' : World) (h' : Below w.heap.size w w') => popular_yes W H A l cap n w' hR ((hr.below h' (Nat.le_refl _)).more h'.size) hcap hu (by omega) hn hn2
  have K88 := hide fun (w' : World) (h' : Below w.heap.size w w') => reduce_yes W H A l cap n w' hR ((hr.below h' (Nat.le_refl _)).more h'.size) hcap hu (by omega) hn hn2
  have K89 := hide fun (w' : World) (h' : Below w.heap.size w w') => refPopular_any W H A l cap n w' hR ((hr.below h' (Nat.le_refl _)).more h'.size) hu hn2
  have K41 := hide fun (w' : World) (h' : Below w.heap.size w w') => refColors_any W H A l cap w' hR ((hr.below h' (Nat.le_refl _)).more h'.size)
  have K36 := hide (refRight_yes hR A cap)
  obtain ⟨cs, hcs⟩ : ∃ cs, cs = (popL l (W * H)).take n := ⟨_, rfl⟩
  have hN1 : 1 ≤ W * H := Nat.mul_le_mul hW1 hH1
  have hcl : cs.length = min n (dcN l (W * H)) := by rw [hcs, List.length_take, popL_len]
  have hd1 : 1 ≤ dcN l (W * H) := by
    obtain ⟨N, hN⟩ : ∃ N, W * H = N + 1 := ⟨W * H - 1, by omega⟩
    rw [hN]
    have : ∀ N, 1 ≤ dcN l (N + 1) := by
      intro N
      induction N with
      | zero => simp [dcN, cntN]
      | succ N ih => show 1 ≤ dcN l (N + 1) + _; omega
    exact this N
  have hdm : dcN l (W * H) ≤ 150 := by have := dcN_le l (W * H); omega
  have hc1 : 1 ≤ cs.length := by omega
  have hc2 : cs.length ≤ 150 := by omega
  have hcm : ∀ c ∈ cs, c.ok := fun c hm => by
    rw [hcs] at hm
    have h2 := List.mem_of_mem_take hm
    rw [(popL_perm l (W * H)).mem_iff] at h2
    exact dl_ok hu _ _ h2
  have hcok : ∀ k, k < cs.length → (cs.getD k ⟨0, 0, 0, 0⟩).ok := fun k hk => hcm _ (getD_mem hk)
  have hsame : dcN l (W * H) ≤ n → redL l W cs (W * H) = l := fun hd => by rw [hcs]; exact red_same hR hd
  rw [← hcs] at K87 K88 K89
  obtain ⟨l2, hl2⟩ : ∃ l2, l2 = redL l W cs (W * H) := ⟨_, rfl⟩
  rw [← hl2] at K88 hsame
  unfold MadeL at K88
  have hR2 : rightI W H l2.length := by rw [hl2]; exact red_right hR cs
  have hu2 : U8s l2 := by rw [hl2]; exact red_u8 hcm hc1
  have hpx : ∀ k, k < W * H → imgPx l2 W (k % W) (k / W) = cs.getD (pxNear l W cs k) ⟨0, 0, 0, 0⟩ := fun k hk => by rw [hl2]; exact red_px cs hk
  have hpn : ∀ k, pxNear l W cs k < cs.length := fun k => by unfold pxNear; exact nearN_lt _ _ _ hc1
  have K36t := hide fun (A2 : Option Addr) (cap2 : Nat) => refRight_yes hR2 A2 cap2
  have KP := hide fun (x y : Nat) (w' : World) (hr' : RowAt w' w'.heap.size .u8 A l) (hx : x < W) (hy : y < H) (c : Col) (hc : c = imgPx l W x y) => pix_is W H A l cap x y w' hR hr' hx hy c hc
  have KQ := hide fun (A2 : Option Addr) (cap2 : Nat) (x y : Nat) (w' : World) (hr' : RowAt w' w'.heap.size .u8 A2 l2) (hx : x < W) (hy : y < H) (c : Col) (hc : c = imgPx l2 W x y) => pix_is W H A2 l2 cap2 x y w' hR2 hr' hx hy c hc
  have KN := hide fun (gp c : Nat) (o : Col) (ho : o.ok) (w' : World) (htr : TRow w' w'.heap.size (some ⟨gp, 0, none⟩) cs) => refNear_any cs hcok (some ⟨gp, 0, none⟩) c o ho w' htr.row hc1 (by omega)
  have K45 := hide fun (A2 : Option Addr) (c2 : Nat) (hs : l2 = l) (w' : World) (h3 : RowAt w' w'.heap.size .u8 A2 l2) (h2 : RowAt w' w'.heap.size .u8 A l) => (by
    have h1 := same_any W H A2 l2 c2 W H A l cap w' h3 h2 hu2 hu
    rw [sameB_mk ⟨rfl, rfl, hs⟩] at h1
    exact h1 : Calls Try.prog 45 #[imgV W H A2 l2.length c2, imgV W H A l.length cap] w' fun e w'' => e = .returned (.bool true) ∧ Below w'.heap.size w' w'')
  have HSM := hide hsame
  have HPX := hide hpx
  have HPN := hide hpn
  have HU := hide hu
  have hr0 := hide hr
  have mW : IntKind.i64.wrap ((W : Int) * (H : Int)) = ((W * H : Nat) : Int) := by
    have e : (W : Int) * (H : Int) = ((W * H : Nat) : Int) := by simp
    rw [e]; exact IntWalk.i64_in _ (by omega)
  obtain ⟨N, hN⟩ : ∃ N, N = W * H := ⟨_, rfl⟩
  rw [← hN] at mW hdm hd1 hN1 hl4
  have hN150 : N ≤ 150 := by omega
  have HN := hide hN
  obtain ⟨dc, hdc⟩ : ∃ q, q = dcN l N := ⟨_, rfl⟩
  rw [← hN, ← hdc] at K41 HSM
  rw [← hN] at HPX
  rw [← hdc] at hdm hd1
  obtain ⟨q, hq⟩ : ∃ q, q = cs.length := ⟨_, rfl⟩
  rw [← hq] at K87 K89 KN hc1 hc2
  have HQ := hide hq
  clear hR hR2 hu hu2 hr hcap hl2 hpx hpn hsame hcs hcl hcm hcok hN hdc hl4 hq
  go_enter Try.func21, Try.ntmps21
  go_wp2_with (first | (go_at_call 87; (with_reducible refine (K87.out _ (below_alloc w _)).mono ?_); rintro e w1 ⟨gl, cl, q', rfl, hq', hqc, htr, hb1⟩; subst hq'; obtain ⟨B1, hz, HW⟩ := own1 hb1; have P0 : Pic w1 w.heap.size W H A l cap := ⟨B1, (hr0.out.below HW (Nat.le_refl _)).more HW.size⟩; obtain ⟨a0, a1, a2⟩ := P0.cells; have HP0 := hide P0; have HL0 := hide (csAt_of htr (by rw [← HQ.out]; exact hc1)); have HB0 := hide HW; clear hb1 htr B1 HW P0) | (go_at_call 88; (with_reducible refine (K88.out _ HB0.out).mono ?_); rintro e w2 ⟨A2, cap2, rfl, him, hb2⟩; have HP1 := hide (HP0.out.below hb2); obtain ⟨a0, a1, a2⟩ := HP1.out.cellsA; have HL1 := hide (HL0.out.below hb2); have HB1 := hide (bstep HB0.out hb2); have HIM := hide him.row; clear him hb2) | (go_at_call 36; (with_reducible refine (K36.out _).mono ?_); rintro e w3 ⟨rfl, hb3⟩; have HT3 := hide (show Pic w3 w2.heap.size W H A2 l2 cap2 from (Pic.new HIM.out).below hb3); have HM3 := hide ((HP1.out.alloc _).below hb3); have HL3 := hide ((HL1.out.below (below_alloc w2 _)).below hb3); have HB3 := hide (bstep (balloc HB1.out _) hb3); obtain ⟨a0, a1, a2⟩ := HM3.out.cells; obtain ⟨b0, b1, b2⟩ := HT3.out.cells; clear hb3) | (go_at_call 89; (with_reducible refine (K89.out _ HB3.out).mono ?_); rintro e w4 ⟨gp, cp, qp, rfl, hqp, hqpc, htrp, hb4⟩; subst hqp; have HT4 := hide (HT3.out.below hb4); have HM4 := hide (HM3.out.below hb4); have HL4 := hide (HL3.out.below hb4); have HB4 := hide (bstep HB3.out hb4); have HTP := hide htrp; obtain ⟨a0, a1, a2⟩ := HM4.out.cells; obtain ⟨b0, b1, b2⟩ := HT4.out.cells; clear hb4 htrp) | (go_at_call 36; (with_reducible refine (K36t.out A2 cap2 _).mono ?_); rintro e w5 ⟨rfl, hb5⟩; have HI5 : Hid (PPI w W H A A2 l l2 cap cap2 w2.heap.size gl gp cs w5) := ⟨bstep HB4.out hb5, HM4.out.below hb5, HT4.out.below hb5, HL4.out.below hb5, htr_below HTP.out hb5⟩; clear hb5))
  obtain ⟨bt, hbt⟩ : ∃ bt, bt = w2.heap.size := ⟨_, rfl⟩
  rw [← hbt] at HI5 ⊢
  have hbw : w.heap.size < bt := by rw [hbt]; have := HP1.out.blk.lt; omega
  clear hbt a0 a1 a2 b0 b1 b2 K36 K36t K87 K88 K89 HP0 HL0 HB0 HP1 HL1 HB1 HIM HT3 HM3 HL3 HB3 HT4 HM4 HL4 HB4 HTP hqc hqpc hr0
  go_loopw [103] (fun i wr => ∃ k : Nat, k ≤ qp ∧ i = .int .i64 k ∧ PPI w W H A A2 l l2 cap cap2 bt gl gp cs wr) (fun i _ => qp - (intOf i).toNat)
  case atStart => exact ⟨0, Nat.zero_le _, rfl, HI5.out⟩
  case round =>
    obtain ⟨k, hk, rfl, hI⟩ := hrel
    clear HI5
    by_cases hlt : k < qp
    · obtain ⟨c, hc⟩ : ∃ c, c = cs.getD k ⟨0, 0, 0, 0⟩ := ⟨_, rfl⟩
      obtain ⟨x0, x1, x2, x3⟩ := hI.lo.cells (by rw [← HQ.out]; exact hlt) hc
      obtain ⟨y0, y1, y2, y3⟩ := (csAt_of hI.po (by rw [← HQ.out]; omega)).cells (by rw [← HQ.out]; exact hlt) hc
      have hkz : (k : Int) < (qp : Int) := by omega
      have HI := hide hI
      clear hI hc
      go_wp2_with fail
      go_quiet (fail)
      have hd : Below wr.heap.size wr (wr.drewN nq) := (Below.refl _ _).trans ⟨rfl, rfl, rfl, Nat.le_refl _, fun _ _ => rfl⟩
      have HI2 := hide (HI.out.next hd)
      clear hd HI
      go_wp2_with fail
      go_roundw
      case rel => exact ⟨k + 1, by omega, by go_num, HI2.out⟩
      case measure => simp [intOf]; omega
    · obtain ⟨a0, a1, a2⟩ := hI.m.cells
      have HI := hide hI
      clear hI
      go_wp2_with fail
      go_loopw [121] (fun i wr => ∃ k : Nat, k ≤ N ∧ i = .int .i64 k ∧ PPI w W H A A2 l l2 cap cap2 bt gl gp cs wr) (fun i _ => N - (intOf i).toNat)
      case atStart => exact ⟨0, Nat.zero_le _, rfl, HI.out⟩
      case round =>
        obtain ⟨k, hk, rfl, hI⟩ := hrel
        clear HI
        by_cases hlt : k < N
        · have hx : k % W < W := Nat.mod_lt _ (by omega)
          have hy : k / W < H := Nat.div_lt_of_lt_mul (by rw [← HN.out]; exact hlt)
          have em : (k : Int).tmod (W : Int) = ((k % W : Nat) : Int) := tmod_nat k W
          have ed : (k : Int).tdiv (W : Int) = ((k / W : Nat) : Int) := tdiv_nat k W
          obtain ⟨o, hoe⟩ : ∃ o, o = imgPx l W (k % W) (k / W) := ⟨_, rfl⟩
          obtain ⟨d, hde⟩ : ∃ d, d = imgPx l2 W (k % W) (k / W) := ⟨_, rfl⟩
          obtain ⟨ix, hix⟩ : ∃ ix, ix = pxNear l W cs k := ⟨_, rfl⟩
          have hdc : d = cs.getD ix ⟨0, 0, 0, 0⟩ := by rw [hde, hix]; exact HPX.out k hlt
          have hixl : ix < qp := by rw [hix, HQ.out]; exact HPN.out k
          have hixn : ix = nearN cs o qp := by rw [hix, hoe, HQ.out]; rfl
          have hook : o.ok := by rw [hoe]; exact imgPx_ok HU.out _ _ _
          generalize k % W = x at hx em hoe hde
          generalize k / W = y at hy ed hoe hde
          have hW0 : ¬ ((W : Int) = 0) := by omega
          have hW1 : ¬ (W = 0) := by omega
          have ey : IntKind.i64.wrap (y : Int) = (y : Int) := IntWalk.i64_in _ (by omega)
          obtain ⟨a0, a1, a2⟩ := hI.m.cells
          have HI := hide hI
          clear hI hix
          go_wp2_with fail
          go_quiet (fail)
          have hd0 : Below wr.heap.size wr (wr.drewN nq) := (Below.refl _ _).trans ⟨rfl, rfl, rfl, Nat.le_refl _, fun _ _ => rfl⟩
          have hI := HI.out.next hd0
          generalize wr.drewN nq = V at hI ⊢
          clear hd0 HI a0 a1 a2
          obtain ⟨a0, a1, a2⟩ := hI.m.cells
          obtain ⟨b0, b1, b2⟩ := hI.t.cells
          obtain ⟨p0, p1, p2, p3⟩ := (csAt_of hI.po (by rw [← HQ.out]; omega)).cells (by rw [← HQ.out]; exact hixl) hdc
          have HV1 := hide fun (w' : World) (hb : Below V.heap.size V w') => KP.out x y w' ((hI.m.row.below hb (Nat.le_refl _)).more hb.size) hx hy o hoe
          have HV2 := hide fun (w' : World) (hb : Below V.heap.size V w') => KQ.out A2 cap2 x y w' ((hI.t.row.below hb (Nat.le_refl _)).more hb.size) hx hy d hde
          have HV3 := hide fun (w' : World) (hb : Below V.heap.size V w') => (KN.out gp cp o hook w' (by have h3 := hI.po.below hb (Nat.le_refl _); exact h3.more hb.size)).mono (R' := fun e w'' => e = .returned (.int .i64 (ix : Nat)) ∧ Below V.heap.size V w'') (fun e w'' h => ⟨by rw [h.1, ← hixn], bstep' hb h.2 hb.size⟩)
          have lt1 := hI.m.blk.lt
          have lt2 := hI.t.blk.lt
          have lt3 := (csAt_of hI.po (by rw [← HQ.out]; omega)).lt
          have n1 : ¬ w.heap.size = V.heap.size := by omega
          have n2 : ¬ bt = V.heap.size := by omega
          have n3 : ¬ gp = V.heap.size := by omega
          have hixz : (ix : Int) < (qp : Int) := by omega
          have hd := Below.refl V.heap.size V
          have HCE := hide fun (v : World) (hv : Below V.heap.size V v) => (show (v.cell? ⟨w.heap.size, 0, none⟩ = some (.int .i64 (W : Int)) ∧ v.cell? ⟨w.heap.size, 1, none⟩ = some (.int .i64 (H : Int)) ∧ v.cell? ⟨w.heap.size, 2, none⟩ = some (.slice A l.length cap)) ∧ (v.cell? ⟨bt, 0, none⟩ = some (.int .i64 (W : Int)) ∧ v.cell? ⟨bt, 1, none⟩ = some (.int .i64 (H : Int)) ∧ v.cell? ⟨bt, 2, none⟩ = some (.slice A2 l2.length cap2)) ∧ (v.cell? ⟨gp, ix * 4, none⟩ = some (.int .u8 d.r) ∧ v.cell? ⟨gp, ix * 4 + 1, none⟩ = some (.int .u8 d.g) ∧ v.cell? ⟨gp, ix * 4 + 2, none⟩ = some (.int .u8 d.b) ∧ v.cell? ⟨gp, ix * 4 + 3, none⟩ = some (.int .u8 d.a)) from
            ⟨⟨(hv.cell (p := ⟨w.heap.size, 0, none⟩) lt1).trans a0, (hv.cell (p := ⟨w.heap.size, 1, none⟩) lt1).trans a1, (hv.cell (p := ⟨w.heap.size, 2, none⟩) lt1).trans a2⟩, ⟨(hv.cell (p := ⟨bt, 0, none⟩) lt2).trans b0, (hv.cell (p := ⟨bt, 1, none⟩) lt2).trans b1, (hv.cell (p := ⟨bt, 2, none⟩) lt2).trans b2⟩, ⟨(hv.cell (p := ⟨gp, ix * 4, none⟩) lt3).trans p0, (hv.cell (p := ⟨gp, ix * 4 + 1, none⟩) lt3).trans p1, (hv.cell (p := ⟨gp, ix * 4 + 2, none⟩) lt3).trans p2, (hv.cell (p := ⟨gp, ix * 4 + 3, none⟩) lt3).trans p3⟩⟩)
          have HI := hide hI
          clear hI hde hoe hdc hixn hook em ed ey
          go_upto_region 25 with fail
          go_cut [145] (fun s wx => s = .bool false ∧ Below V.heap.size V wx)
          case first =>
            clear HI HSM HPX HPN HU KP KQ KN K41 K45
            first | (go_region_held3 (fun w' => w'.cell? ⟨w.heap.size, 0, none⟩ = some (.int .i64 (W : Int)) ∧ w'.cell? ⟨w.heap.size, 1, none⟩ = some (.int .i64 (H : Int)) ∧ w'.cell? ⟨w.heap.size, 2, none⟩ = some (.slice A l.length cap) ∧ w'.cell? ⟨bt, 0, none⟩ = some (.int .i64 (W : Int)) ∧ w'.cell? ⟨bt, 1, none⟩ = some (.int .i64 (H : Int)) ∧ w'.cell? ⟨bt, 2, none⟩ = some (.slice A2 l2.length cap2) ∧ w'.cell? ⟨gp, ix * 4, none⟩ = some (.int .u8 d.r) ∧ w'.cell? ⟨gp, ix * 4 + 1, none⟩ = some (.int .u8 d.g) ∧ w'.cell? ⟨gp, ix * 4 + 2, none⟩ = some (.int .u8 d.b) ∧ w'.cell? ⟨gp, ix * 4 + 3, none⟩ = some (.int .u8 d.a)) (simp (maxDischargeDepth := 20) [*, World.cell?_alloc_some, World.cell?_setCell_far]) (first | (go_at_call 39; (with_reducible refine (HV1.out _ (by (repeat (first | (with_reducible exact hd) | (with_reducible exact Below.refl _ _) | (with_reducible apply Below.drew) | (with_reducible refine balloc ?_ _))))).mono ?_); rintro e v1 ⟨rfl, rfl⟩) | (go_at_call 39; (with_reducible refine (HV2.out _ (by (repeat (first | (with_reducible exact hd) | (with_reducible exact Below.refl _ _) | (with_reducible apply Below.drew) | (with_reducible refine balloc ?_ _))))).mono ?_); rintro e v2 ⟨rfl, rfl⟩) | (go_at_call 82; (with_reducible refine (HV3.out _ (by (repeat (first | (with_reducible exact hd) | (with_reducible exact Below.refl _ _) | (with_reducible apply Below.drew) | (with_reducible refine balloc ?_ _))))).mono ?_); rintro e v3 ⟨rfl, hd⟩; obtain ⟨⟨a0, a1, a2⟩, ⟨b0, b1, b2⟩, ⟨p0, p1, p2, p3⟩⟩ := HCE.out v3 hd; have hs3 := hd.size; have n1 : ¬ w.heap.size = v3.heap.size := (by omega); have n2 : ¬ bt = v3.heap.size := (by omega); have n3 : ¬ gp = v3.heap.size := (by omega)))) | fail
            all_goals
              go_wp2_with fail
              go_meet
              refine ⟨by first | rfl | simp, ?_⟩
              repeat (first | (with_reducible exact hd) | (with_reducible exact Below.refl _ _) | (with_reducible apply Below.drew) | (with_reducible refine balloc ?_ _))
          case rest =>
            obtain ⟨rfl, hdv⟩ := hcut
            have HI2 := hide (HI.out.next hdv)
            clear HI HCE HV1 HV2 HV3
            go_wp2_with fail
            go_roundw
            case rel => exact ⟨k + 1, by omega, by go_num, HI2.out⟩
            case measure => simp [intOf]; omega
        · obtain ⟨a0, a1, a2⟩ := hI.m.cells
          obtain ⟨b0, b1, b2⟩ := hI.t.cells
          have HI := hide hI
          clear hI
          by_cases hgt : n < dc
          · have hgz : (n : Int) < (dc : Int) := by omega
            go_wp2_with (first | (go_at_call 41; (with_reducible refine (K41.out _ HI.out.below).mono ?_); rintro e u1 ⟨rfl, hb1⟩; have HW1 := hide (bstep HI.out.below hb1); clear hb1) | (go_at_call 46; (with_reducible refine (awake36 _).mono ?_); rintro e u3 ⟨rfl, hb3⟩))
            go_ret
            exact ⟨rfl, bstep HW1.out hb3⟩
          · have hgz : ¬ (n : Int) < (dc : Int) := by omega
            have hl : l2 = l := HSM.out (by omega)
            have HL := hide hl
            clear hl
            go_wp2_with (first | (go_at_call 41; (with_reducible refine (K41.out _ HI.out.below).mono ?_); rintro e u1 ⟨rfl, hb1⟩; have HI1 := hide (HI.out.next hb1); obtain ⟨a0, a1, a2⟩ := HI1.out.m.cells; obtain ⟨b0, b1, b2⟩ := HI1.out.t.cells; clear hb1) | (go_at_call 45; (with_reducible refine (K45.out _ _ HL.out _ HI1.out.t.row HI1.out.m.row).mono ?_); rintro e u2 ⟨rfl, hb2⟩; have HW2 := hide (bstep HI1.out.below hb2); clear hb2) | (go_at_call 46; (with_reducible refine (awake36 _).mono ?_); rintro e u3 ⟨rfl, hb3⟩))
            go_ret
            exact ⟨rfl, bstep HW2.out hb3⟩

theorem quantPopular_law (w : World) (x y : Int) (A : Option Addr) (l : List Int) (cap : Nat) (_ : I64 x) (_ : I64 y) (hr : RowAt w w.heap.size .u8 A l) (hu : U8s l) (hm : l.length ≤ maxLen) (hcap : l.length ≤ cap) (n : Int) (_ : I64 n) :
    Calls Try.prog 21 #[imgV x y A l.length cap, .int .i64 n] w fun e w' => e = .returned (.bool true) ∧ Below w.heap.size w w' := by
  by_cases h : 600 < l.length
  · exact pp_big x y A _ cap n w h
  by_cases hR : rightI x y l.length
  · by_cases hn : 1 ≤ n ∧ n ≤ 256
    · have hx := hR.1.1
      have hy := hR.2.1.1
      obtain ⟨W, rfl⟩ := Int.eq_ofNat_of_zero_le (show 0 ≤ x by omega)
      obtain ⟨H, rfl⟩ := Int.eq_ofNat_of_zero_le (show 0 ≤ y by omega)
      obtain ⟨n, rfl⟩ := Int.eq_ofNat_of_zero_le (show 0 ≤ n by omega)
      exact pp_yes W H A l cap n w (by omega) (by omega) hu hr hcap h hR
    · exact pp_range x y A _ cap n w h hR (by omega)
  · exact pp_no x y A _ cap n w h hR
end
end Go.Proofs.Ytkjnheikimpliaa
