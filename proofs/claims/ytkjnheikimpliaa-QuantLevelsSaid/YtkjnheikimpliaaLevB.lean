/- quant.Levels: walked. -/
import Derived.Test.YtkjnheikimpliaaLevA
import Derived.Test.YtkjnheikimpliaaLawSize
import Derived.Laws.EntriesVeiled
namespace Go.Proofs.Ytkjnheikimpliaa
set_option linter.unusedVariables false
set_option linter.unusedSimpArgs false
open Go.RowKit
attribute [local go_sem ↓] Go.wp_at_zero Go.wp_at_succ

def levC (n : Int) (c : Col) : Col := ⟨lev c.r n, lev c.g n, lev c.b n, c.a⟩
theorem enters117 (args : Array Value) (w : World) : (callFunc 117 args).run Try.prog w = .ok (.enter 117 args) w := enters_of Try.func117 (by kernel_rfl) rfl args w

set_option maxHeartbeats 2000000 in
theorem lev2_any (c : Col) (hc : c.ok) (n : Int) (hn : 2 ≤ n ∧ n ≤ 256) (gn gf : Nat) (v : World) (hN : Blk v gn 3 #[.int .i64 n]) (hF : Blk v gf 117 #[.func (.func 116) #[] #[.pointer (some ⟨gn, 0, none⟩)]]) :
    Calls Try.prog 117 #[colV c, .pointer (some ⟨gf, 0, none⟩)] v fun e v' => e = .returned (colV (levC n c)) ∧ Below v.heap.size v v' := by
  obtain ⟨hr, hg, hb, ha⟩ := hc
  have KR := hide fun (w : World) (h : w.cell? ⟨gn, 0, none⟩ = some (.int .i64 n)) => lev1_any c.r n hr hn gn w h
  have KG := hide fun (w : World) (h : w.cell? ⟨gn, 0, none⟩ = some (.int .i64 n)) => lev1_any c.g n hg hn gn w h
  have KB := hide fun (w : World) (h : w.cell? ⟨gn, 0, none⟩ = some (.int .i64 n)) => lev1_any c.b n hb hn gn w h
  unfold levC
  obtain ⟨r, er⟩ : ∃ r, r = lev c.r n := ⟨_, rfl⟩
  obtain ⟨g, eg⟩ : ∃ r, r = lev c.g n := ⟨_, rfl⟩
  obtain ⟨b, eb⟩ : ∃ r, r = lev c.b n := ⟨_, rfl⟩
  rw [← er] at KR ⊢
  rw [← eg] at KG ⊢
  rw [← eb] at KB ⊢
  obtain ⟨y0, y1, y2, y3⟩ := c
  have ln := hN.lt
  have lf := hF.lt
  have hbv : Below v.heap.size v ((v.alloc (.cells #[.int .u8 y0, .int .u8 y1, .int .u8 y2, .int .u8 y3] 36)).alloc (.cells #[.int .u8 0, .int .u8 0, .int .u8 0, .int .u8 0] 36)) := balloc (below_alloc v _) _
  have n0 := (hN.below hbv ln).cell 0
  have f0 := (hF.below hbv lf).cell 0
  have hC : Blk ((v.alloc (.cells #[.int .u8 y0, .int .u8 y1, .int .u8 y2, .int .u8 y3] 36)).alloc (.cells #[.int .u8 0, .int .u8 0, .int .u8 0, .int .u8 0] 36)) v.heap.size 36 #[.int .u8 y0, .int .u8 y1, .int .u8 y2, .int .u8 y3] := (Blk.new _ _ _).alloc _
  have hO : Blk ((v.alloc (.cells #[.int .u8 y0, .int .u8 y1, .int .u8 y2, .int .u8 y3] 36)).alloc (.cells #[.int .u8 0, .int .u8 0, .int .u8 0, .int .u8 0] 36)) (v.heap.size + 1) 36 #[.int .u8 0, .int .u8 0, .int .u8 0, .int .u8 0] := Blk.new' _ _ _ _ (by simp)
  clear er eg eb hr hg hb ha hN hF
  go_enter Try.func117, Try.ntmps117
  go_wp2_with fail
  generalize (v.alloc (.cells #[.int .u8 y0, .int .u8 y1, .int .u8 y2, .int .u8 y3] 36)).alloc (.cells #[.int .u8 0, .int .u8 0, .int .u8 0, .int .u8 0] 36) = V at hbv n0 f0 hC hO ⊢
  simp only [List.getElem?_toArray, List.getElem?_cons_succ, List.getElem?_cons_zero] at n0 f0
  obtain ⟨c0, c1, c2, c3, -⟩ := blk4 hC
  obtain ⟨o0, o1, o2, o3, g0, g1, g2, g3⟩ := blk4 hO
  have lO := hO.lt
  have n1 : ¬ v.heap.size + 1 = v.heap.size := by omega
  have n2 : ¬ v.heap.size = v.heap.size + 1 := by omega
  have n3 : ¬ v.heap.size + 1 = gf := by omega
  have n4 : ¬ v.heap.size + 1 = gn := by omega
  have nd : V.drew.cell? ⟨gn, 0, none⟩ = some (.int .i64 n) := n0
  clear hC hO
  first | (go_region_held3 (fun w' => w'.cell? ⟨v.heap.size, 0, none⟩ = some (.int .u8 y0) ∧ w'.cell? ⟨v.heap.size, 1, none⟩ = some (.int .u8 y1) ∧ w'.cell? ⟨v.heap.size, 2, none⟩ = some (.int .u8 y2) ∧ w'.cell? ⟨v.heap.size, 3, none⟩ = some (.int .u8 y3) ∧ w'.cell? ⟨gf, 0, none⟩ = some (.func (.func 116) #[] #[.pointer (some ⟨gn, 0, none⟩)])) (go_keep) (first | (go_at_call 116; (with_reducible refine (KR.out _ nd).mono ?_); rintro e w1 ⟨rfl, rfl⟩) | (go_at_call 116; (with_reducible refine (KG.out _ nd).mono ?_); rintro e w1 ⟨rfl, rfl⟩) | (go_at_call 116; (with_reducible refine (KB.out _ nd).mono ?_); rintro e w1 ⟨rfl, rfl⟩))) | fail
  all_goals
    go_wp2_with fail
    refine bodyPost_ret (v := colV ⟨r, g, b, y3⟩) (by simp [results, Try.results117, go_sem, lO, o0, o1, o2, o3]) rfl ⟨rfl, ?_⟩
    repeat (first | (with_reducible exact hbv) | (with_reducible apply Below.drew) | (with_reducible refine bset ?_ _ _ (by omega) _))

structure LevI (w : World) (x y : Int) (A : Option Addr) (k cap : Nat) (n : Int) (gf : Nat) (v : World) : Prop where
  below : Below w.heap.size w v
  n : Blk v (w.heap.size + 1) 3 #[.int .i64 n]
  r : Blk v (w.heap.size + 1 + 1) 34 #[.int .i64 0, .int .i64 0, .slice none 0 0]
  f : Blk v gf 117 #[.func (.func 116) #[] #[.pointer (some ⟨w.heap.size + 1, 0, none⟩)]]
theorem LevI.keep {w v v' : World} {x y : Int} {A : Option Addr} {k cap gf : Nat} {n : Int} {B : Nat} (h : LevI w x y A k cap n gf v) (hg : w.heap.size + 1 + 1 < gf) (hB : gf < B) (hb : Below B v v') : LevI w x y A k cap n gf v' :=
  ⟨h.below.trans (hb.mono (by omega)), h.n.below hb (by omega), h.r.below hb (by omega), h.f.below hb (by omega)⟩
def levPx (l : List Int) (W : Nat) (n : Int) (x y : Nat) : Col := levC n (imgPx l W x y)

set_option maxHeartbeats 2000000 in
theorem levels_yes (W H : Nat) (A : Option Addr) (l : List Int) (cap : Nat) (n : Int) (w : World) (hn : 2 ≤ n ∧ n ≤ 256) (hR : rightI W H l.length) (hr : RowAt w w.heap.size .u8 A l) (hcap : l.length ≤ cap) (hu : U8s l) :
    Calls Try.prog 66 #[imgV W H A l.length cap, .int .i64 n] w (Made w W H (levPx l W n)) := by
  have K1 := hide (right_yes hR A cap)
  have KM := hide fun (gf : Nat) (v : World) (hg : w.heap.size + 1 + 1 < gf) (hz : gf < v.heap.size) (h0 : LevI w W H A l.length cap n gf v) =>
    map_yes 117 enters117 #[.pointer (some ⟨gf, 0, none⟩)] (levPx l W n) W H A l cap v hR hcap (fun _ v' => LevI w W H A l.length cap n gf v') h0
      (fun _ v1 v2 h hb => h.keep hg hz hb) (fun _ v1 h => (hr.below h.below (Nat.le_refl _)).more (by have := h0.below.size; omega))
      (fun x y v1 hx hy hs h => (lev2_any (imgPx l W x y) (imgPx_ok hu W x y) n hn (w.heap.size + 1) gf v1 h.n h.f).mono (by
        rintro e v2 ⟨rfl, hb⟩
        exact ⟨rfl, h.keep hg (Nat.lt_of_lt_of_le hz hs) hb, Keeps.of_below hb⟩))
  unfold Made
  obtain ⟨bs, hbs⟩ : ∃ bs, bs = bytesL (pxs (levPx l W n) W (W * H)) := ⟨_, rfl⟩
  rw [← hbs] at KM ⊢
  obtain ⟨hn1, hn2⟩ := hn
  clear hR hr hcap hu hbs
  go_enter Try.func66, Try.ntmps66
  go_wp2_with (first | (go_at_call 94; (with_reducible refine (K1.out _).mono ?_); rintro e w1 ⟨rfl, hb1⟩; obtain ⟨B1, B2, B3, hz, HW⟩ := own3 hb1; obtain ⟨m0, m1, m2, -⟩ := blk3x B1; obtain ⟨m3, m4, m5, -⟩ := blk3 B1; have k0 := B2.cell 0; have I0 : LevI w W H A l.length cap n w1.heap.size (w1.alloc (.cells #[.func (.func 116) #[] #[.pointer (some ⟨w.heap.size + 1, 0, none⟩)]] 117)) := ⟨balloc HW _, B2.alloc _, B3.alloc _, Blk.new _ _ _⟩; simp only [List.getElem?_toArray, List.getElem?_cons_succ, List.getElem?_cons_zero] at k0; clear hb1) | (go_at_call 56; (with_reducible refine (KM.out _ _ hz (by simp) I0).mono ?_); rintro e v ⟨A', cap', rfl, hI, hN, hs⟩; obtain ⟨r0, r1, r2, f0, f1, f2⟩ := blk3 hI.r; have lr := hI.r.lt; have HI := hide hI; have HN := hide hN; clear hI hN))
  refine bodyPost_ret (v := .tuple #[imgV W H A' bs.length cap', .int .i64 0]) (by simp [results, Try.results66, go_sem, lr, r0, r1, r2]) rfl ⟨A', cap', rfl, ?_, ?_⟩
  · have hzz : w.heap.size + 1 + 1 < (w1.alloc (.cells #[.func (.func 116) #[] #[.pointer (some ⟨w.heap.size + 1, 0, none⟩)]] 117)).heap.size := by simp; omega
    exact (((HN.out.set _ _ hzz _).set _ _ hzz _).set _ _ hzz _).less (by simp; omega)
  · exact bset (bset (bset HI.out.below _ _ (by omega) _) _ _ (by omega) _) _ _ (by omega) _
end Go.Proofs.Ytkjnheikimpliaa
