/- ops.Map, with a function value and an invariant. -/
import Derived.Test.YtkjnheikimpliaaEach
import Derived.Test.YtkjnheikimpliaaOpsA
namespace Go.Proofs.Ytkjnheikimpliaa
set_option linter.unusedVariables false
set_option linter.unusedSimpArgs false
open Go.RowKit
attribute [local go_sem ↓] Go.wp_at_zero Go.wp_at_succ

theorem enters107 (args : Array Value) (w : World) : (callFunc 107 args).run Try.prog w = .ok (.enter 107 args) w := enters_of Try.func107 (by kernel_rfl) rfl args w
/-- What Map's rounds find: the image's box, the function's, the result's. -/
structure MapB (w v : World) (x y : Int) (A : Option Addr) (n cap : Nat) (F : Value) : Prop where
  m : Blk v w.heap.size 34 #[.int .i64 x, .int .i64 y, .slice A n cap]
  f : Blk v (w.heap.size + 1) 53 #[F]
  r : Blk v (w.heap.size + 1 + 1) 34 #[.int .i64 0, .int .i64 0, .slice none 0 0]
theorem MapB.below {w v v' : World} {x y : Int} {A : Option Addr} {n cap : Nat} {F : Value} (h : MapB w v x y A n cap F) (hb : Below v.heap.size v v') : MapB w v' x y A n cap F := ⟨h.m.below hb h.m.lt, h.f.below hb h.f.lt, h.r.below hb h.r.lt⟩
theorem MapB.keep {w v v' : World} {x y : Int} {A : Option Addr} {n cap : Nat} {F : Value} (h : MapB w v x y A n cap F) (hk : Keeps w.heap.size v v') : MapB w v' x y A n cap F :=
  ⟨h.m.same (hk.block _ (Nat.le_refl _) h.m.lt), h.f.same (hk.block _ (by omega) h.f.lt), h.r.same (hk.block _ (by omega) h.r.lt)⟩
theorem MapB.cells {w v : World} {x y : Int} {A : Option Addr} {n cap : Nat} {F : Value} (h : MapB w v x y A n cap F) :
    v.cell? ⟨w.heap.size, 0, none⟩ = some (.int .i64 x) ∧ v.cell? ⟨w.heap.size, 1, none⟩ = some (.int .i64 y) ∧ v.cell? ⟨w.heap.size, 2, none⟩ = some (.slice A n cap) ∧ v.cell? ⟨w.heap.size + 1, 0, none⟩ = some F := ⟨h.m.cell 0, h.m.cell 1, h.m.cell 2, h.f.cell 0⟩
theorem Keeps.trans {B : Nat} {a b c : World} (h : Keeps B a b) (k : Keeps B b c) : Keeps B a c := ⟨Nat.le_trans h.size k.size, fun i h1 h2 => (k.block i h1 (Nat.lt_of_lt_of_le h2 h.size)).trans (h.block i h1 h2)⟩

set_option maxHeartbeats 4000000 in
theorem map1_any (g : FuncId) (eg : ∀ args w, (callFunc g args).run Try.prog w = .ok (.enter g args) w) (caps : Array Value) (o : Col) (W H : Nat) (A : Option Addr) (l : List Int) (cap : Nat) (w v : World) (x y : Nat) (hR : rightI W H l.length) (hr : RowAt v v.heap.size .u8 A l) (hcap : l.length ≤ cap) (hx : x < W) (hy : y < H)
    (hw : w.heap.size ≤ v.heap.size) (hB : MapB w v W H A l.length cap (.func (.func g) #[] caps)) (T : World → Prop) (hT : ∀ a b, T a → Below w.heap.size a b → T b)
    (hg : ∀ v1 : World, Below v.heap.size v v1 → Calls Try.prog g (#[colV (imgPx l W x y)] ++ caps) v1 fun e v2 => e = .returned (colV o) ∧ T v2 ∧ Keeps w.heap.size v1 v2) :
    Calls Try.prog 107 #[.int .i64 (x : Int), .int .i64 (y : Int), .pointer (some ⟨w.heap.size + 1, 0, none⟩), .pointer (some ⟨w.heap.size, 0, none⟩)] v fun e v' => e = .returned (colV o) ∧ T v' ∧ MapB w v' W H A l.length cap (.func (.func g) #[] caps) ∧ Keeps w.heap.size v v' := by
  have KA := hide fun (v' : World) (hr' : RowAt v' v'.heap.size .u8 A l) => (at_any W H A l cap x y v' hR hr' hcap (by omega) (by omega)).mono (R' := fun e w'' => e = .returned (colV (imgPx l W x y)) ∧ Below v'.heap.size v' w'') (by
    rintro e w'' ⟨rfl, hb⟩
    refine ⟨?_, hb⟩
    unfold imgPx
    rw [nat_idx])
  obtain ⟨c, hc⟩ : ∃ c, c = imgPx l W x y := ⟨_, rfl⟩
  rw [← hc] at KA hg
  have HG := hide hg
  have HT := hide hT
  have hb0 := below_alloc v (.cells #[.int .u8 0, .int .u8 0, .int .u8 0, .int .u8 0] 36)
  have hR0 := hide ((hr.below hb0 (Nat.le_refl _)).more hb0.size)
  have hM0 := hB.below hb0
  have hC0 := Blk.new v 36 #[.int .u8 0, .int .u8 0, .int .u8 0, .int .u8 0]
  have hlr := hB.r.lt
  clear hR hr hcap hg hT hc hB
  go_enter Try.func107, Try.ntmps107
  go_wp2_with fail
  have hz : v.heap.size < (v.alloc (.cells #[.int .u8 0, .int .u8 0, .int .u8 0, .int .u8 0] 36)).heap.size := by simp
  generalize v.alloc (.cells #[.int .u8 0, .int .u8 0, .int .u8 0, .int .u8 0] 36) = V at hb0 hR0 hM0 hC0 hz ⊢
  obtain ⟨m0, m1, m2, f0⟩ := hM0.cells
  have hd : Below V.heap.size V V.drew := (Below.refl _ _).drew
  have hM := hM0.below hd
  have hC := hC0.below hd hz
  have hR1 := hR0.out.below hd (Nat.le_refl _)
  have hbd := bstep hb0 hd
  clear hM0 hC0 hR0 hb0
  go_region_held3 (fun w' => w'.cell? ⟨w.heap.size, 0, none⟩ = some (.int .i64 (W : Int)) ∧ w'.cell? ⟨w.heap.size, 1, none⟩ = some (.int .i64 (H : Int)) ∧ w'.cell? ⟨w.heap.size, 2, none⟩ = some (.slice A l.length cap) ∧ w'.cell? ⟨w.heap.size + 1, 0, none⟩ = some (.func (.func g) #[] caps)) (go_keep) (first | (go_at_call 106; (with_reducible refine (KA.out _ hR1).mono ?_); rintro e v1 ⟨rfl, hv1⟩; have hM := hM.below hv1; have hC := hC.below hv1 hC.lt; have hbe := bstep hbd hv1; obtain ⟨m0, m1, m2, f0⟩ := hM.cells) | ((with_reducible refine (HG.out _ hbe).mono ?_); rintro e v2 ⟨rfl, hT2, hK⟩; have hM2 := hM.keep hK; have hC2 := hC.same (hK.block _ hw hC.lt); obtain ⟨m0, m1, m2, f0⟩ := hM2.cells; obtain ⟨c0, c1, c2, c3, g0, g1, g2, g3⟩ := blk4 hC2; have n1 : ¬ v.heap.size = w.heap.size := (by omega); have n2 : ¬ v.heap.size = w.heap.size + 1 := (by omega)))
  have hz2 := hC2.lt
  have HT2 := hide hT2
  have HM2 := hide hM2
  have HK := hide ((Keeps.of_below hbe).trans hK)
  clear hT2 hM2 hK
  go_wp2_with fail
  refine bodyPost_ret (v := colV o) (by simp [results, Try.results107, go_sem, hz2, c0, c1, c2, c3]) rfl ?_
  have hset : Below w.heap.size v2 ((((v2.setCell ⟨v.heap.size, 0, none⟩ (.int .u8 o.r)).setCell ⟨v.heap.size, 1, none⟩ (.int .u8 o.g)).setCell ⟨v.heap.size, 2, none⟩ (.int .u8 o.b)).setCell ⟨v.heap.size, 3, none⟩ (.int .u8 o.a)) := (((((Below.refl _ _).setCell (p := ⟨v.heap.size, 0, none⟩) hw _).setCell (p := ⟨v.heap.size, 1, none⟩) hw _).setCell (p := ⟨v.heap.size, 2, none⟩) hw _).setCell (p := ⟨v.heap.size, 3, none⟩) hw _)
  have hk : ∀ k, k ≠ v.heap.size → ((((v2.setCell ⟨v.heap.size, 0, none⟩ (.int .u8 o.r)).setCell ⟨v.heap.size, 1, none⟩ (.int .u8 o.g)).setCell ⟨v.heap.size, 2, none⟩ (.int .u8 o.b)).setCell ⟨v.heap.size, 3, none⟩ (.int .u8 o.a)).heap[k]? = v2.heap[k]? := fun k hk => by
    rw [Below.heap_setCell _ _ _ _ hk, Below.heap_setCell _ _ _ _ hk, Below.heap_setCell _ _ _ _ hk, Below.heap_setCell _ _ _ _ hk]
  have hfin : ∀ wf : World, Below w.heap.size v2 wf → (∀ k, k ≠ v.heap.size → wf.heap[k]? = v2.heap[k]?) → Ending.returned (colV o) = .returned (colV o) ∧ T wf ∧ MapB w wf W H A l.length cap (.func (.func g) #[] caps) ∧ Keeps w.heap.size v wf := fun wf h1 h2 =>
    ⟨rfl, HT.out _ _ HT2.out h1, ⟨HM2.out.m.same (h2 _ (by omega)), HM2.out.f.same (h2 _ (by omega)), HM2.out.r.same (h2 _ (by omega))⟩, ⟨Nat.le_trans HK.out.size h1.size, fun b hb1 hb2 => (h2 b (by omega)).trans (HK.out.block b hb1 hb2)⟩⟩
  exact hfin _ hset hk

set_option maxHeartbeats 2000000 in
theorem map_yes (g : FuncId) (eg : ∀ args w, (callFunc g args).run Try.prog w = .ok (.enter g args) w) (caps : Array Value) (px : Nat → Nat → Col) (W H : Nat) (A : Option Addr) (l : List Int) (cap : Nat) (w : World) (hR : rightI W H l.length) (hcap : l.length ≤ cap) (I : Nat → World → Prop)
    (hI0 : I 0 w) (hI : ∀ n w1 w2, I n w1 → Below w.heap.size w1 w2 → I n w2) (hrow : ∀ n w1, I n w1 → RowAt w1 w.heap.size .u8 A l)
    (hg : ∀ (x y : Nat) (w1 : World), x < W → y < H → w.heap.size ≤ w1.heap.size → I (y * W + x) w1 →
      Calls Try.prog g (#[colV (imgPx l W x y)] ++ caps) w1 fun e w2 => e = .returned (colV (px x y)) ∧ I (y * W + x + 1) w2 ∧ Keeps w.heap.size w1 w2) :
    Calls Try.prog 56 #[imgV W H A l.length cap, .func (.func g) #[] caps] w fun e w' => ∃ A' cap', e = .returned (.tuple #[imgV W H A' (bytesL (pxs px W (W * H))).length cap', .int .i64 0]) ∧ I (W * H) w' ∧ ImgNew w' w.heap.size A' cap' (bytesL (pxs px W (W * H))) ∧ w.heap.size ≤ w'.heap.size := by
  have hW := hR.1
  have hH := hR.2.1
  have K1 := hide (right_yes hR A cap)
  have KB := hide fun (v : World) (hb : Below w.heap.size w v) (hB : MapB w v W H A l.length cap (.func (.func g) #[] caps)) =>
    build_yes 107 enters107 #[.pointer (some ⟨w.heap.size + 1, 0, none⟩), .pointer (some ⟨w.heap.size, 0, none⟩)] px W H (by omega) (by omega) v (fun n v' => I n v' ∧ MapB w v' W H A l.length cap (.func (.func g) #[] caps)) ⟨hI _ _ _ hI0 hb, hB⟩
      (fun n v1 v2 h1 h2 => ⟨hI _ _ _ h1.1 (h2.mono hb.size), ⟨h1.2.m.below h2 hB.m.lt, h1.2.f.below h2 hB.f.lt, h1.2.r.below h2 hB.r.lt⟩⟩)
      (fun x y v1 hx hy hs hJ => (map1_any g eg caps (px x y) W H A l cap w v1 x y hR ((hrow _ _ hJ.1).more (Nat.le_trans hb.size hs)) hcap hx hy (Nat.le_trans hb.size hs) hJ.2 (I (y * W + x + 1)) (fun a b ha hb' => hI _ _ _ ha hb')
        (fun v2 hv2 => hg x y v2 hx hy (Nat.le_trans (Nat.le_trans hb.size hs) hv2.size) (hI _ _ _ hJ.1 (hv2.mono (Nat.le_trans hb.size hs))))).mono (by
          rintro e v3 ⟨rfl, hT, hM, hK⟩
          exact ⟨rfl, ⟨hT, hM⟩, ⟨hK.size, fun b h1 h2 => hK.block b (Nat.le_trans hb.size h1) h2⟩⟩))
  have hlen : (bytesL (pxs px W (W * H))).length = 4 * (W * H) := by rw [bytesL_len, pxs_len]
  have HI := hide hI
  have HLEN := hide hlen
  rw [hlen]
  obtain ⟨bs, hbs⟩ : ∃ bs, bs = bytesL (pxs px W (W * H)) := ⟨_, rfl⟩
  rw [← hbs] at KB HLEN ⊢
  obtain ⟨N, hN⟩ : ∃ N, N = W * H := ⟨_, rfl⟩
  rw [← hN] at KB HLEN ⊢
  clear hR hcap hI hI0 hrow hg hW hH hlen hbs hN
  go_enter Try.func56, Try.ntmps56
  go_wp2_with (first | (go_at_call 94; (with_reducible refine (K1.out _).mono ?_); rintro e w1 ⟨rfl, hb1⟩; obtain ⟨B1, B2, B3, hz, HW⟩ := own3 hb1; obtain ⟨m0, m1, m2, -⟩ := blk3 B1; clear hb1) | (go_at_call 104; (with_reducible refine (KB.out _ HW ⟨B1, B2, B3⟩).mono ?_); rintro e w2 ⟨A', cap', rfl, hJ, hrw, hc, hs⟩; have hr := hJ.2.r; obtain ⟨r0, r1, r2, f0, f1, f2⟩ := blk3 hr; have lr := hr.lt; have HI2 := hide hJ.1; have HRW := hide hrw; clear hJ hrw hr))
  refine bodyPost_ret (v := .tuple #[imgV W H A' (4 * N : Nat) cap', .int .i64 0]) (by simp [results, Try.results56, go_sem, lr, r0, r1, r2]) rfl ⟨A', cap', rfl, ?_, ⟨?_, ?_⟩, ?_⟩
  · refine HI.out _ _ _ HI2.out ?_
    exact (((((Below.refl _ _).setCell (p := ⟨w.heap.size + 1 + 1, 0, none⟩) (by show w.heap.size ≤ w.heap.size + 1 + 1; omega) _).setCell (p := ⟨w.heap.size + 1 + 1, 1, none⟩) (by show w.heap.size ≤ w.heap.size + 1 + 1; omega) _).setCell (p := ⟨w.heap.size + 1 + 1, 2, none⟩) (by show w.heap.size ≤ w.heap.size + 1 + 1; omega) _))
  · exact (((HRW.out.set _ _ hz _).set _ _ hz _).set _ _ hz _).less HW.size
  · rw [HLEN.out]; exact hc
  · simp only [World.setCell]; simp; exact Nat.le_trans HW.size hs
end Go.Proofs.Ytkjnheikimpliaa
