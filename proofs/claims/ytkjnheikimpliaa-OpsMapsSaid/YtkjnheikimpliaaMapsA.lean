/- ops.Fill; the law OpsMaps' own function. -/
import Derived.Test.YtkjnheikimpliaaDithC
import Derived.Test.YtkjnheikimpliaaLawSize
namespace Go.Proofs.Ytkjnheikimpliaa
set_option linter.unusedVariables false
set_option linter.unusedSimpArgs false
open Go.RowKit
attribute [local go_sem ↓] Go.wp_at_zero Go.wp_at_succ

theorem enters108 (args : Array Value) (w : World) : (callFunc 108 args).run Try.prog w = .ok (.enter 108 args) w := enters_of Try.func108 (by kernel_rfl) rfl args w
theorem enters57 (args : Array Value) (w : World) : (callFunc 57 args).run Try.prog w = .ok (.enter 57 args) w := enters_of Try.func57 (by kernel_rfl) rfl args w
set_option maxHeartbeats 1000000 in
theorem fill1_any (c : Col) (x y : Int) (g : Nat) (w : World) (hC : Blk w g 36 #[.int .u8 c.r, .int .u8 c.g, .int .u8 c.b, .int .u8 c.a]) :
    Calls Try.prog 108 #[.int .i64 x, .int .i64 y, .pointer (some ⟨g, 0, none⟩)] w fun e w' => e = .returned (colV c) ∧ Below w.heap.size w w' := by
  have lg := hC.lt
  obtain ⟨c0, c1, c2, c3, -⟩ := blk4 hC
  obtain ⟨y0, y1, y2, y3⟩ := c
  clear hC
  go_enter Try.func108, Try.ntmps108
  go_wp2
  exact bodyPost_ret (v := colV ⟨y0, y1, y2, y3⟩) (by simp [results, Try.results108, go_sem]) rfl ⟨rfl, by repeat (first | (with_reducible exact Below.refl _ _) | (with_reducible refine bset ?_ _ _ (by omega) _) | (with_reducible refine balloc ?_ _))⟩

set_option maxHeartbeats 2000000 in
theorem fill_yes (W H : Nat) (c : Col) (hW : 1 ≤ W ∧ W ≤ 16384) (hH : 1 ≤ H ∧ H ≤ 16384) (w : World) :
    Calls Try.prog 58 #[.int .i64 (W : Int), .int .i64 (H : Int), colV c] w (Made w W H (fun _ _ => c)) := by
  have KB := hide fun (v : World) (hz : w.heap.size + 1 < v.heap.size) (hC : Blk v w.heap.size 36 #[.int .u8 c.r, .int .u8 c.g, .int .u8 c.b, .int .u8 c.a]) =>
    build_pure 108 enters108 #[.pointer (some ⟨w.heap.size, 0, none⟩)] (fun _ _ => c) W H hW hH v (fun x y w1 hx hy hb => fill1_any c x y w.heap.size w1 (hC.below hb hC.lt))
  unfold Made
  obtain ⟨bs, hbs⟩ : ∃ bs, bs = bytesL (pxs (fun _ _ => c) W (W * H)) := ⟨_, rfl⟩
  rw [← hbs] at KB ⊢
  obtain ⟨y0, y1, y2, y3⟩ := c
  clear hW hH hbs
  have hC0 : Blk ((w.alloc (.cells #[.int .u8 y0, .int .u8 y1, .int .u8 y2, .int .u8 y3] 36)).alloc (.cells #[.int .i64 0, .int .i64 0, .slice none 0 0] 34)) w.heap.size 36 #[.int .u8 y0, .int .u8 y1, .int .u8 y2, .int .u8 y3] := (Blk.new _ _ _).alloc _
  have HC0 := hide hC0
  clear hC0
  go_enter Try.func58, Try.ntmps58
  go_wp2_with (go_at_call 104; (with_reducible refine (KB.out _ (by simp) HC0.out).mono ?_); rintro e w2 ⟨A', cap', rfl, hi, hb2⟩; obtain ⟨B1, B2, hz, HW⟩ := own2 hb2; obtain ⟨r0, r1, r2, f0, f1, f2⟩ := blk3 B2; have HI := hide hi; clear hi hb2)
  refine bodyPost_ret (v := .tuple #[imgV W H A' bs.length cap', .int .i64 0]) (by simp [results, Try.results58, go_sem, hz, r0, r1, r2]) rfl ⟨A', cap', rfl, ?_, ?_⟩
  · exact (((HI.out.set _ _ (by simp) _).set _ _ (by simp) _).set _ _ (by simp) _).less (by simp; omega)
  · exact bset (bset (bset HW _ _ (by omega) _) _ _ (by omega) _) _ _ (by omega) _
set_option maxHeartbeats 2000000 in
theorem fill_no (x y : Int) (c : Col) (h : x < 1 ∨ 16384 < x ∨ y < 1 ∨ 16384 < y) (w : World) : Calls Try.prog 58 #[.int .i64 x, .int .i64 y, colV c] w (Refused w 11) := by
  have KB := hide fun (F : Value) (v : World) => build_no F x y h v
  unfold Refused
  obtain ⟨y0, y1, y2, y3⟩ := c
  clear h
  go_enter Try.func58, Try.ntmps58
  go_wp2_with (go_at_call 104; (with_reducible refine (KB.out _ _).mono ?_); rintro e w2 ⟨rfl, hb2⟩; obtain ⟨B1, B2, hz, HW⟩ := own2 hb2; obtain ⟨r0, r1, r2, f0, f1, f2⟩ := blk3 B2; clear hb2)
  exact bodyPost_ret (v := .tuple #[imgV 0 0 none 0 0, .int .i64 11]) (by simp [results, Try.results58, go_sem, hz, r0, r1, r2]) rfl ⟨rfl, bset (bset (bset HW _ _ (by omega) _) _ _ (by omega) _) _ _ (by omega) _⟩

/-- The law's own function: channels exchanged, and a count. -/
def cntC (k : Nat) (c : Col) : Col := ⟨c.g, c.r, ((k : Int) + 1) % 256, c.a⟩
set_option maxHeartbeats 2000000 in
theorem maps1_any (c : Col) (k : Nat) (hk : k ≤ 268435456) (g : Nat) (v : World) (hG : Blk v g 3 #[.int .i64 (k : Int)]) :
    Calls Try.prog 57 #[colV c, .pointer (some ⟨g, 0, none⟩)] v fun e v' => e = .returned (colV (cntC k c)) ∧ Blk v' g 3 #[.int .i64 ((k + 1 : Nat) : Int)] ∧ v.heap.size ≤ v'.heap.size ∧ (∀ i, i < v.heap.size → i ≠ g → v'.heap[i]? = v.heap[i]?) ∧ ∀ B, B ≤ g → Below B v v' := by
  have lg := hG.lt
  obtain ⟨k0, f0⟩ : v.cell? ⟨g, 0, none⟩ = some (.int .i64 (k : Int)) ∧ v.frozen? ⟨g, 0, none⟩ = false := ⟨hG.cell 0, hG.frozen 0⟩
  have HG := hide hG
  unfold cntC
  obtain ⟨y0, y1, y2, y3⟩ := c
  have n1 : ¬ g = v.heap.size := by omega
  have n2 : ¬ g = v.heap.size + 1 := by omega
  clear hG
  go_enter Try.func57, Try.ntmps57
  go_wp2
  refine bodyPost_ret (v := colV ⟨y1, y0, ((k : Int) + 1) % 256, y3⟩) (by simp [results, Try.results57, go_sem]) rfl ⟨rfl, ?_⟩
  have hz1 : (v.setCell ⟨g, 0, none⟩ (.int .i64 ((k : Int) + 1))).heap.size = v.heap.size := by simp [World.setCell]
  refine ⟨?_, ?_, fun i h1 h2 => ?_, fun B hB => ?_⟩
  · exact Blk.alloc (Blk.alloc (by simpa using HG.out.set_ 0 (.int .i64 ((k : Int) + 1))) _) _
  · simp only [World.size_alloc]; omega
  · rw [Below.heap_alloc _ _ _ (by simp only [World.size_alloc]; omega), Below.heap_alloc _ _ _ (by omega), Below.heap_setCell _ _ _ _ h2]
  · exact (((Below.refl B v).setCell (p := ⟨g, 0, none⟩) hB _).alloc (by omega) _).alloc (by simp only [World.size_alloc]; omega) _

structure MapsI (w : World) (gk : Nat) (x y : Int) (A : Option Addr) (n cap : Nat) (c : Col) (k : Nat) (v : World) : Prop where
  below : Below w.heap.size w v
  m : Blk v w.heap.size 34 #[.int .i64 x, .int .i64 y, .slice A n cap]
  c : Blk v (w.heap.size + 1) 36 #[.int .u8 c.r, .int .u8 c.g, .int .u8 c.b, .int .u8 c.a]
  k : Blk v gk 3 #[.int .i64 (k : Int)]
theorem MapsI.keep {w v v' : World} {x y : Int} {A : Option Addr} {gk n cap k B : Nat} {c : Col} (h : MapsI w gk x y A n cap c k v) (hg : w.heap.size + 1 < gk) (hB : gk < B) (hb : Below B v v') : MapsI w gk x y A n cap c k v' :=
  ⟨h.below.trans (hb.mono (by omega)), h.m.below hb (by omega), h.c.below hb (by omega), h.k.below hb (by omega)⟩
theorem MapsI.next {w v v' : World} {x y : Int} {A : Option Addr} {gk n cap k : Nat} {c : Col} (h : MapsI w gk x y A n cap c k v) (hg : w.heap.size + 1 < gk) (hb : Below v.heap.size v v') : MapsI w gk x y A n cap c k v' := h.keep hg h.k.lt hb
/-- What the law's own function makes of an image. -/
def cntPx (l : List Int) (W : Nat) (x y : Nat) : Col := cntC (y * W + x) (imgPx l W x y)
set_option maxHeartbeats 1000000 in
theorem mapsL_yes (W H : Nat) (A : Option Addr) (l : List Int) (cap : Nat) (c : Col) (gk : Nat) (w v : World) (hg : w.heap.size + 1 < gk) (hR : rightI W H l.length) (hr : RowAt w w.heap.size .u8 A l) (hcap : l.length ≤ cap) (h0 : MapsI w gk W H A l.length cap c 0 v) :
    Calls Try.prog 56 #[imgV W H A l.length cap, .func (.func 57) #[] #[.pointer (some ⟨gk, 0, none⟩)]] v fun e v' => ∃ A' cap', e = .returned (.tuple #[imgV W H A' (bytesL (pxs (cntPx l W) W (W * H))).length cap', .int .i64 0]) ∧ ImgNew v' v.heap.size A' cap' (bytesL (pxs (cntPx l W) W (W * H))) ∧ MapsI w gk W H A l.length cap c (W * H) v' := by
  have hX := hR.1
  have hY := hR.2.1
  refine (map_yes 57 enters57 #[.pointer (some ⟨gk, 0, none⟩)] (cntPx l W) W H A l cap v hR hcap (fun n v' => MapsI w gk W H A l.length cap c n v') h0 (fun n v1 v2 h hb => h.keep hg h0.k.lt hb)
    (fun n v1 h => (hr.below h.below (Nat.le_refl _)).more (by have := h0.k.lt; omega)) (fun x y v1 hx hy hs h => (maps1_any (imgPx l W x y) (y * W + x) ?_ gk v1 h.k).mono ?_)).mono ?_
  · have h1 : (y + 1) * W ≤ 16384 * 16384 := Nat.mul_le_mul (by omega) (by omega)
    rw [Nat.add_mul] at h1
    omega
  · rintro e v2 ⟨rfl, hk, hz, hs2, hb⟩
    exact ⟨rfl, ⟨h.below.trans (hb _ (by omega)), h.m.same (hs2 _ h.m.lt (by omega)), h.c.same (hs2 _ h.c.lt (by omega)), hk⟩, ⟨hz, fun b h1 h2 => hs2 b h2 (by have := h0.k.lt; omega)⟩⟩
  · rintro e v' ⟨A', cap', rfl, hI, hN, hs⟩
    exact ⟨A', cap', rfl, hN, hI⟩
end Go.Proofs.Ytkjnheikimpliaa
