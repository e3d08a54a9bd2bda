/- cmp.counts, Count and Colors: walked. -/
import Derived.Test.YtkjnheikimpliaaCntB
import Derived.Test.YtkjnheikimpliaaEach
import Derived.Test.YtkjnheikimpliaaCmpC
namespace Go.Proofs.Ytkjnheikimpliaa
set_option linter.unusedVariables false
set_option linter.unusedSimpArgs false
open Go.RowKit
attribute [local go_sem ↓] Go.wp_at_zero Go.wp_at_succ

/-- How many of the first pixels are of a colour. -/
def cntN (l : List Int) (c : Col) : Nat → Nat
  | 0 => 0
  | k + 1 => cntN l c k + if pix l k = c then 1 else 0
/-- How many unlike colours the first pixels have. -/
def dcN (l : List Int) : Nat → Nat
  | 0 => 0
  | k + 1 => dcN l k + if cntN l (pix l k) k = 0 then 1 else 0
theorem cntN_le (l : List Int) (c : Col) : ∀ k, cntN l c k ≤ k
  | 0 => Nat.le_refl _
  | k + 1 => by
    have := cntN_le l c k
    unfold cntN
    split <;> omega
theorem dcN_le (l : List Int) : ∀ k, dcN l k ≤ k
  | 0 => Nat.le_refl _
  | k + 1 => by
    have := dcN_le l k
    unfold dcN
    split <;> omega

/-- What the map of counts says behind the first pixels. -/
structure CntD (l : List Int) (k : Nat) (D : DataW Unit) : Prop where
  tidy : Maps.Tidy D
  at_ : ∀ c : Col, c.ok → D.atKey (colK c) (.lit (.int .i64 0)) = .lit (.int .i64 (cntN l c k : Nat))
  has_ : ∀ c : Col, c.ok → Maps.has D (colK c) = decide (cntN l c k ≠ 0)
  size_ : Maps.size D = dcN l k
theorem CntD.zero (l : List Int) : CntD l 0 (.map []) := ⟨Maps.tidy_empty, fun c _ => rfl, fun c _ => rfl, rfl⟩
theorem CntD.step {l : List Int} {k : Nat} {D : DataW Unit} (h : CntD l k D) (hp : (pix l k).ok) : CntD l (k + 1) (D.put (colK (pix l k)) (.lit (.int .i64 ((cntN l (pix l k) k : Nat) + 1)))) where
  tidy := h.tidy.put (law36.key (keyCol hp)) _
  at_ c hc := by
    by_cases he : pix l k = c
    · rw [← he, Maps.atKey_put_same h.tidy.isMap (law36.key (keyCol hp))]
      show _ = DataW.lit (.int .i64 ((cntN l (pix l k) k + (if pix l k = pix l k then 1 else 0) : Nat) : Int))
      rw [if_pos rfl]
      push_cast
      rfl
    · rw [Maps.atKey_put_other (colK_ne hc hp (fun e => he e.symm)), h.at_ c hc]
      show _ = DataW.lit (.int .i64 ((cntN l c k + (if pix l k = c then 1 else 0) : Nat) : Int))
      rw [if_neg he, Nat.add_zero]
  has_ c hc := by
    by_cases he : pix l k = c
    · rw [← he, Maps.has_put_same h.tidy.isMap (law36.key (keyCol hp))]
      have : cntN l (pix l k) (k + 1) ≠ 0 := by
        show cntN l (pix l k) k + (if pix l k = pix l k then 1 else 0) ≠ 0
        rw [if_pos rfl]; omega
      simp [this]
    · rw [Maps.has_put_other (colK_ne hc hp (fun e => he e.symm)), h.has_ c hc]
      show _ = decide (cntN l c k + (if pix l k = c then 1 else 0) ≠ 0)
      rw [if_neg he, Nat.add_zero]
  size_ := by
    rw [Maps.size_put h.tidy, h.has_ _ hp, h.size_]
    show _ = dcN l k + (if cntN l (pix l k) k = 0 then 1 else 0)
    by_cases h0 : cntN l (pix l k) k = 0 <;> simp [h0]

theorem owns_map_same {w w' : World} {R : Value → Option (DataW Unit × List MemPlace)} {b n : Nat} {D : DataW Unit} {kt : TypeId} (h : w.ownsMap Try.prog kt R b n D) (hs : w'.heap[b]? = w.heap[b]?) : w'.ownsMap Try.prog kt R b n D := by
  obtain ⟨es, clock, hb', F, hs', hD⟩ := h
  exact ⟨es, clock, hs.trans hb', F, hs', hD⟩

/-- What counts' rounds keep. -/
structure CntI (w : World) (b m : Nat) (l : List Int) (n : Nat) (v : World) : Prop where
  below : Below w.heap.size w v
  cell : v.cell? ⟨m, 0, none⟩ = some (.map (some b))
  own : ∃ D, v.ownsMap Try.prog 36 (plainElem Try.prog 3) b n D ∧ CntD l n D
theorem enters136 (args : Array Value) (w : World) : (callFunc 136 args).run Try.prog w = .ok (.enter 136 args) w := enters_of Try.func136 (by kernel_rfl) rfl args w
theorem own_map {w w1 : World} {c1 : Array Value} {t1 : TypeId} {c3 : Array Value} {t3 : TypeId} (hb : Below (((w.alloc (.cells c1 t1)).alloc (.map #[] 0)).alloc (.cells c3 t3)).heap.size (((w.alloc (.cells c1 t1)).alloc (.map #[] 0)).alloc (.cells c3 t3)) w1) :
    Blk w1 w.heap.size t1 c1 ∧ w1.ownsMap Try.prog 36 (plainElem Try.prog 3) (w.heap.size + 1) 0 (.map [] : DataW Unit) ∧ Blk w1 (w.heap.size + 1 + 1) t3 c3 ∧ w.heap.size + 1 + 1 < w1.heap.size ∧ Below w.heap.size w w1 := by
  have hz := hb.size
  have hm : ((w.alloc (.cells c1 t1)).alloc (.map #[] 0)).ownsMap Try.prog 36 (plainElem Try.prog 3) (w.heap.size + 1) 0 (.map [] : DataW Unit) := by
    have h := World.ownsMap_made (H := Unit) (w.alloc (.cells c1 t1)) Try.prog 36 (plainElem Try.prog 3)
    simp only [World.size_alloc] at h
    exact h
  simp only [World.size_alloc] at hz
  exact ⟨Blk.below (Blk.alloc (Blk.alloc (Blk.new' w t1 c1 (w.heap.size) (by simp)) _) _) hb (by simp only [World.size_alloc]; omega),
    owns_map_same (hm.alloc _) (hb.block _ (by simp only [World.size_alloc]; omega)),
    Blk.below (Blk.new' ((w.alloc (.cells c1 t1)).alloc (.map #[] 0)) t3 c3 (w.heap.size + 1 + 1) (by simp)) hb (by simp only [World.size_alloc]; omega), by omega, bstep (balloc (balloc (below_alloc w _) _) _) hb⟩

set_option maxRecDepth 100000 in
set_option maxHeartbeats 4000000 in
theorem counts_yes (W H : Nat) (A : Option Addr) (l : List Int) (cap : Nat) (w : World) (hR : rightI W H l.length) (hr : RowAt w w.heap.size .u8 A l) (hcap : l.length ≤ cap) (hu : U8s l) :
    Calls Try.prog 98 #[imgV W H A l.length cap] w fun e w' => ∃ b D, e = .returned (.map (some b)) ∧ w'.ownsMap Try.prog 36 (plainElem Try.prog 3) b (W * H) D ∧ CntD l (W * H) D ∧ Below w.heap.size w w' := by
  have hmm := @run_makeMap Try.prog
  have K1 := hide (right_yes hR A cap)
  have hWH : W * H ≤ 268435456 := by
    have h1 := hR.1.2
    have h2 := hR.2.1.2
    exact Nat.le_trans (Nat.mul_le_mul (show W ≤ 16384 by omega) (show H ≤ 16384 by omega)) (by decide)
  have KE := hide fun (b m : Nat) (v : World) (hmb : ¬ m = b) (hbw : w.heap.size ≤ b) (hb : b < v.heap.size) (hm : m < v.heap.size) (hv : CntI w b m l 0 v) =>
    each_yes 136 enters136 #[.pointer (some ⟨m, 0, none⟩)] W H A l cap v hR hcap (fun n v' => CntI w b m l n v') hv
      (fun n v1 v2 hi hbl => ⟨bstep' hi.below hbl hv.below.size, (hbl.cell (p := ⟨m, 0, none⟩) hm).trans hi.cell, let ⟨D, h1, h2⟩ := hi.own; ⟨D, owns_map_same h1 (hbl.block b hb), h2⟩⟩)
      (fun n v1 hi => (hr.below hi.below (Nat.le_refl _)).more hv.below.size)
      (fun x y v1 hx hy hs hi => by
        obtain ⟨D, h1, h2⟩ := hi.own
        have hlt : y * W + x < W * H := by
          have : y * W + W ≤ H * W := by rw [← Nat.succ_mul]; exact Nat.mul_le_mul_right W hy
          rw [Nat.mul_comm W H]; omega
        have hok : (pix l (y * W + x)).ok := pix_ok hu _
        refine (count_one v1 m b (y * W + x) D (imgPx l W x y) hok x y hi.cell hmb h1 (by unfold maxLen; omega) (fun u hu1 => ?_)).mono ?_
        · rw [show colK (imgPx l W x y) = colK (pix l (y * W + x)) from rfl, h2.at_ _ hok] at hu1
          injection hu1 with hu1; injection hu1 with _ hu1
          have := cntN_le l (pix l (y * W + x)) (y * W + x)
          omega
        · rintro e v2 ⟨rfl, u, hu1, ho2, hg⟩
          rw [show colK (imgPx l W x y) = colK (pix l (y * W + x)) from rfl] at hu1 ho2
          rw [h2.at_ _ hok] at hu1
          injection hu1 with hu1; injection hu1 with _ hu1
          subst hu1
          exact ⟨rfl, ⟨hi.below.grown hg hi.below.size (fun j hj => by injection hj with hj; omega), hg.cell hi.cell (by simpa using hmb), _, ho2, h2.step hok⟩, ⟨hg.size, fun j hj1 hj2 => hg.block j hj2 (by simp; omega)⟩⟩)
  clear hR hr hcap hu
  go_enter Try.func98, Try.ntmps98
  go_wp2_with (first | (go_at_call 94; (with_reducible refine (K1.out _).mono ?_); rintro e w1 ⟨rfl, hb1⟩; obtain ⟨B1, hM, B3, hz, HW⟩ := own_map hb1; obtain ⟨m0, m1, m2, -⟩ := blk3 B1; have HI0 := hide (⟨HW, B3.cell 0, _, hM, CntD.zero l⟩ : CntI w (w.heap.size + 1) (w.heap.size + 1 + 1) l 0 w1); clear hb1 HW B1 B3 hM) | (go_at_call 95; (with_reducible refine (KE.out (w.heap.size + 1) (w.heap.size + 1 + 1) w1 (by omega) (by omega) (by omega) (by omega) HI0.out).mono ?_); rintro e w2 ⟨rfl, hI, hs⟩; have hc2 := hI.cell))
  go_ret
  obtain ⟨D, hD1, hD2⟩ := hI.own
  exact ⟨_, D, rfl, hD1, hD2, hI.below⟩
set_option maxRecDepth 100000 in
set_option maxHeartbeats 4000000 in
theorem counts_no {x y : Int} {n : Nat} (h : ¬ rightI x y n) (A : Option Addr) (cap : Nat) (w : World) :
    Calls Try.prog 98 #[imgV x y A n cap] w fun e w' => ∃ b, e = .returned (.map (some b)) ∧ w'.ownsMap Try.prog 36 (plainElem Try.prog 3) b 0 (.map [] : DataW Unit) ∧ Below w.heap.size w w' := by
  have hmm := @run_makeMap Try.prog
  have K1 := hide (right_no h A cap)
  clear h
  go_enter Try.func98, Try.ntmps98
  go_wp2_with (go_at_call 94; (with_reducible refine (K1.out _).mono ?_); rintro e w1 ⟨rfl, hb1⟩; obtain ⟨B1, hM, B3, hz, HW⟩ := own_map hb1; have hc2 := B3.cell 0; simp only [List.getElem?_toArray, List.getElem?_cons_zero] at hc2; clear hb1 B1 B3)
  go_ret
  exact ⟨_, rfl, hM, HW⟩

/-- What counts hands back, in every world that has grown from w. -/
def CountsAt (x y : Int) (A : Option Addr) (n cap N : Nat) (l : List Int) (w : World) : Prop := ∀ w' : World, Below w.heap.size w w' → Calls Try.prog 98 #[imgV x y A n cap] w' fun e w'' => ∃ b D, e = .returned (.map (some b)) ∧ w''.ownsMap Try.prog 36 (plainElem Try.prog 3) b N D ∧ CntD l N D ∧ Below w'.heap.size w' w''
theorem countsAt_yes (W H : Nat) (A : Option Addr) (l : List Int) (cap : Nat) (w : World) (hR : rightI W H l.length) (hr : RowAt w w.heap.size .u8 A l) (hcap : l.length ≤ cap) (hu : U8s l) : CountsAt W H A l.length cap (W * H) l w :=
  fun w' hw => counts_yes W H A l cap w' hR ((hr.below hw (Nat.le_refl _)).more hw.size) hcap hu
theorem countsAt_no {x y : Int} {n : Nat} (h : ¬ rightI x y n) (A : Option Addr) (cap : Nat) (l : List Int) (w : World) : CountsAt x y A n cap 0 l w :=
  fun w' _ => (counts_no h A cap w').mono (by rintro e w'' ⟨b, rfl, hm, hb⟩; exact ⟨b, _, rfl, hm, CntD.zero l, hb⟩)

set_option maxRecDepth 100000 in
set_option maxHeartbeats 4000000 in
theorem colors_is {x y : Int} {A : Option Addr} {n cap N : Nat} {l : List Int} (w : World) (K : CountsAt x y A n cap N l w) :
    Calls Try.prog 38 #[imgV x y A n cap] w fun e w' => e = .returned (.int .i64 (dcN l N : Nat)) ∧ Below w.heap.size w w' := by
  have K1 := hide K
  unfold CountsAt at K1
  clear K
  go_enter Try.func38, Try.ntmps38
  go_wp2_with (go_at_call 98; (with_reducible refine (K1.out _ (below_alloc w _)).mono ?_); rintro e w1 ⟨b, D, rfl, hM, hD, hb1⟩; have hlen := hM.len Try.underlying110 3; rw [hD.size_] at hlen; have HB := hide (bstep (below_alloc w _) hb1); clear hb1 hM hD)
  go_ret
  exact ⟨rfl, HB.out⟩
set_option maxRecDepth 100000 in
set_option maxHeartbeats 4000000 in
theorem count_is {x y : Int} {A : Option Addr} {n cap N : Nat} {l : List Int} (c : Col) (hc : c.ok) (w : World) (K : CountsAt x y A n cap N l w) :
    Calls Try.prog 37 #[imgV x y A n cap, colV c] w fun e w' => e = .returned (.int .i64 (cntN l c N : Nat)) ∧ Below w.heap.size w w' := by
  have K1 := hide K
  unfold CountsAt at K1
  have HC := hide hc
  clear K hc
  go_enter Try.func37, Try.ntmps37
  go_wp2_with fail
  have hw2 : Below w.heap.size w ((w.alloc (.cells #[.int .i64 x, .int .i64 y, .slice A n cap] 34)).alloc (.cells #[.int .u8 c.r, .int .u8 c.g, .int .u8 c.b, .int .u8 c.a] 36)) := balloc (below_alloc w _) _
  go_region_held3 (fun w' => w'.cell? ⟨w.heap.size, 0, none⟩ = some (.int .i64 x) ∧ w'.cell? ⟨w.heap.size, 1, none⟩ = some (.int .i64 y) ∧ w'.cell? ⟨w.heap.size, 2, none⟩ = some (.slice A n cap) ∧ w'.cell? ⟨w.heap.size + 1, 0, none⟩ = some (.int .u8 c.r) ∧ w'.cell? ⟨w.heap.size + 1, 1, none⟩ = some (.int .u8 c.g) ∧ w'.cell? ⟨w.heap.size + 1, 2, none⟩ = some (.int .u8 c.b) ∧ w'.cell? ⟨w.heap.size + 1, 3, none⟩ = some (.int .u8 c.a)) (simp (maxDischargeDepth := 20) [*, World.cell?_alloc_some, World.cell?_setCell_far]) ((go_at_call 98; (with_reducible refine (K1.out _ hw2.drew).mono ?_); rintro e w1 ⟨b, D, rfl, hM, hD, hb1⟩; have hbb : Below ((w.alloc (.cells #[.int .i64 x, .int .i64 y, .slice A n cap] 34)).alloc (.cells #[.int .u8 c.r, .int .u8 c.g, .int .u8 c.b, .int .u8 c.a] 36)).heap.size ((w.alloc (.cells #[.int .i64 x, .int .i64 y, .slice A n cap] 34)).alloc (.cells #[.int .u8 c.r, .int .u8 c.g, .int .u8 c.b, .int .u8 c.a] 36)) w1 := (Below.refl _ _).drew.trans hb1; obtain ⟨B1, B2, hz, HW⟩ := own2 hbb; obtain ⟨m0, m1, m2, -⟩ := blk3 B1; obtain ⟨x0, x1, x2, x3, -⟩ := blk4 B2; obtain ⟨v, hlk, hat, -⟩ := hM.lookup_int law36 Try.underlying110 Try.underlying3 (zero3 _) (keyCol HC.out); rw [hD.at_ c HC.out] at hat; injection hat with hat; injection hat with _ hat; subst hat; simp only [colV] at hlk; have HB := hide HW; clear hb1 hbb hM hD HW B1 B2))
  go_wp2_with fail
  go_ret
  exact ⟨rfl, HB.out⟩
end Go.Proofs.Ytkjnheikimpliaa
