/- quant.Dither: walked. -/
import Derived.Test.YtkjnheikimpliaaDithA
import Derived.Deep.DeepCutAuto
namespace Go.Proofs.Ytkjnheikimpliaa
set_option linter.unusedVariables false
set_option linter.unusedSimpArgs false
open Go.RowKit
attribute [local go_sem ↓] Go.wp_at_zero Go.wp_at_succ

def dithV (c : Col) (x y : Nat) : Int := if thr (x % 4) (y % 4) < (grayC c).r then 255 else 0
def dithC (c : Col) (x y : Nat) : Col := ⟨dithV c x y, dithV c x y, dithV c x y, c.a⟩
theorem at_mod (W x y : Nat) (hx : x < W) : (y * W + x) % W = x := by rw [Nat.mul_comm, Nat.mul_add_mod, Nat.mod_eq_of_lt hx]
theorem at_div (W x y : Nat) (hx : x < W) : (y * W + x) / W = y := by rw [Nat.mul_comm, Nat.mul_add_div (by omega), Nat.div_eq_of_lt hx, Nat.add_zero]

theorem grayG_bd {c : Col} (hc : c.ok) {G : Int} (hG : G = (grayC c).r) : 0 ≤ G ∧ G ≤ 255 := by
  rw [hG]
  show 0 ≤ grayV c ∧ grayV c ≤ 255
  unfold grayV
  obtain ⟨⟨_, _⟩, ⟨_, _⟩, ⟨_, _⟩, _⟩ := hc
  omega
set_option maxHeartbeats 4000000 in
theorem dith1_any (c : Col) (hc : c.ok) (W H : Nat) (A : Option Addr) (n0 cap gk gm : Nat) (x y : Nat) (v : World) (hW : W ≤ 16384) (hH : H ≤ 16384) (hx : x < W) (hy : y < H) (hk : Blk v gk 3 #[.int .i64 ((y * W + x : Nat) : Int)]) (hm : Blk v gm 34 #[.int .i64 W, .int .i64 H, .slice A n0 cap]) (hne : gk ≠ gm) :
    Calls Try.prog 101 #[colV c, .pointer (some ⟨gk, 0, none⟩), .pointer (some ⟨gm, 0, none⟩)] v fun e v' =>
      e = .returned (colV (dithC c x y)) ∧ Blk v' gk 3 #[.int .i64 ((y * W + x + 1 : Nat) : Int)] ∧ v.heap.size ≤ v'.heap.size ∧ (∀ k, k < v.heap.size → k ≠ gk → v'.heap[k]? = v.heap[k]?) ∧ ∀ B, B ≤ gk → Below B v v' := by
  have K1 := hide (gray_any c hc)
  have K2 := hide (threshold_any x y)
  have hn : y * W + x ≤ 268435456 := by
    have h1 : (y + 1) * W ≤ 16384 * 16384 := Nat.mul_le_mul (by omega) hW
    rw [Nat.add_mul] at h1
    omega
  have em : ((y * W + x : Nat) : Int).tmod (W : Int) = (x : Int) := by rw [tmod_nat, at_mod W x y hx]
  have ed : ((y * W + x : Nat) : Int).tdiv (W : Int) = (y : Int) := by rw [tdiv_nat, at_div W x y hx]
  generalize y * W + x = n at hk hn em ed ⊢
  have hW0 : ¬ ((W : Int) = 0) := by omega
  have hW1 : ¬ (W = 0) := by omega
  obtain ⟨k0, f0⟩ : v.cell? ⟨gk, 0, none⟩ = some (.int .i64 (n : Int)) ∧ v.frozen? ⟨gk, 0, none⟩ = false := ⟨hk.cell 0, hk.frozen 0⟩
  obtain ⟨m0, m1, m2, -⟩ := blk3 hm
  have lk := hk.lt
  have lm := hm.lt
  have nk : ¬ gk = v.heap.size := by omega
  have nk1 : ¬ gk = v.heap.size + 1 := by omega
  have nm : ¬ gm = v.heap.size := by omega
  have nm1 : ¬ gm = v.heap.size + 1 := by omega
  have HK := hide hk
  have HM := hide hm
  obtain ⟨G, hG⟩ : ∃ G, G = (grayC c).r := ⟨_, rfl⟩
  clear hk hm
  have hb2 : Below v.heap.size v ((v.alloc (.cells (#[.int .u8 c.r, .int .u8 c.g, .int .u8 c.b, .int .u8 c.a]) 36)).alloc (.cells #[.int .u8 0, .int .u8 0, .int .u8 0, .int .u8 0] 36)) := balloc (below_alloc v _) _
  have hC : Blk ((v.alloc (.cells (#[.int .u8 c.r, .int .u8 c.g, .int .u8 c.b, .int .u8 c.a]) 36)).alloc (.cells #[.int .u8 0, .int .u8 0, .int .u8 0, .int .u8 0] 36)) v.heap.size 36 #[.int .u8 c.r, .int .u8 c.g, .int .u8 c.b, .int .u8 c.a] := (Blk.new _ _ _).alloc _
  have hO : Blk ((v.alloc (.cells (#[.int .u8 c.r, .int .u8 c.g, .int .u8 c.b, .int .u8 c.a]) 36)).alloc (.cells #[.int .u8 0, .int .u8 0, .int .u8 0, .int .u8 0] 36)) (v.heap.size + 1) 36 #[.int .u8 0, .int .u8 0, .int .u8 0, .int .u8 0] := Blk.new' _ _ _ _ (by simp)
  go_enter Try.func101, Try.ntmps101
  go_wp2_with fail
  go_quiet (fail)
  have hb3 : Below v.heap.size v (((v.alloc (.cells (#[.int .u8 c.r, .int .u8 c.g, .int .u8 c.b, .int .u8 c.a]) 36)).alloc (.cells #[.int .u8 0, .int .u8 0, .int .u8 0, .int .u8 0] 36)).drewN nq) := hb2.trans ⟨rfl, rfl, rfl, Nat.le_refl _, fun _ _ => rfl⟩
  have hC3 : Blk (((v.alloc (.cells (#[.int .u8 c.r, .int .u8 c.g, .int .u8 c.b, .int .u8 c.a]) 36)).alloc (.cells #[.int .u8 0, .int .u8 0, .int .u8 0, .int .u8 0] 36)).drewN nq) v.heap.size 36 #[.int .u8 c.r, .int .u8 c.g, .int .u8 c.b, .int .u8 c.a] := hC
  have hO3 : Blk (((v.alloc (.cells (#[.int .u8 c.r, .int .u8 c.g, .int .u8 c.b, .int .u8 c.a]) 36)).alloc (.cells #[.int .u8 0, .int .u8 0, .int .u8 0, .int .u8 0] 36)).drewN nq) (v.heap.size + 1) 36 #[.int .u8 0, .int .u8 0, .int .u8 0, .int .u8 0] := hO
  generalize (((v.alloc (.cells (#[.int .u8 c.r, .int .u8 c.g, .int .u8 c.b, .int .u8 c.a]) 36)).alloc (.cells #[.int .u8 0, .int .u8 0, .int .u8 0, .int .u8 0] 36)).drewN nq) = V at hb3 hC3 hO3 ⊢
  clear hb2 hC hO k0 f0 m0 m1 m2
  have hK3 := HK.out.below hb3 lk
  obtain ⟨k0, f0⟩ : V.cell? ⟨gk, 0, none⟩ = some (.int .i64 (n : Int)) ∧ V.frozen? ⟨gk, 0, none⟩ = false := ⟨hK3.cell 0, hK3.frozen 0⟩
  have hC4 := hC3.far (p := ⟨gk, 0, none⟩) (fun e => nk e.symm) (.int .i64 ((n : Int) + 1))
  have hO4 := hO3.far (p := ⟨gk, 0, none⟩) (fun e => nk1 e.symm) (.int .i64 ((n : Int) + 1))
  have hK4 : Blk (V.setCell ⟨gk, 0, none⟩ (.int .i64 ((n : Int) + 1))) gk 3 #[.int .i64 ((n + 1 : Nat) : Int)] := by simpa using hK3.set_ 0 (.int .i64 ((n : Int) + 1))
  have h4 : ∀ k, k ≠ gk → (V.setCell ⟨gk, 0, none⟩ (.int .i64 ((n : Int) + 1))).heap[k]? = V.heap[k]? := fun k hk => Below.heap_setCell _ _ _ _ hk
  have hz4 : (V.setCell ⟨gk, 0, none⟩ (.int .i64 ((n : Int) + 1))).heap.size = V.heap.size := by simp [World.setCell]
  have hB4 : ∀ B, B ≤ gk → Below B V (V.setCell ⟨gk, 0, none⟩ (.int .i64 ((n : Int) + 1))) := fun B hB => (Below.refl B V).setCell (p := ⟨gk, 0, none⟩) hB _
  have hz3 := hb3.size
  have lO3 := hO3.lt
  go_upto_region 3 with fail
  generalize V.setCell ⟨gk, 0, none⟩ (.int .i64 ((n : Int) + 1)) = V1 at hC4 hO4 hK4 h4 hz4 hB4 ⊢
  clear k0 f0 hK3 hC3 hO3
  obtain ⟨c0, c1, c2, c3, -⟩ := blk4 hC4
  have hb : Below V1.heap.size V1 V1 := Below.refl _ _
  have HC4 := hide hC4
  have HO4 := hide hO4
  have HK4 := hide hK4
  clear hC4 hO4 hK4
  have hGf : ∀ W, (Instr.field 36 (colV (grayC c)) 0).run Try.prog W = .ok (.int .u8 G) W := fun _ => by rw [hG]; kernel_rfl
  have hgb : 0 ≤ G ∧ G ≤ 255 := grayG_bd hc hG
  obtain ⟨T, hT⟩ : ∃ T, T = thr (x % 4) (y % 4) := ⟨_, rfl⟩
  rw [← hT] at K2
  have hD : dithC c x y = ⟨if T < G then 255 else 0, if T < G then 255 else 0, if T < G then 255 else 0, c.a⟩ := by unfold dithC dithV; rw [hT, hG]
  clear hT hG
  by_cases hgt : T < G
  · rw [if_pos hgt] at hD
    have HD := hide hD
    clear hD
    have HGT := hide hgt
    go_wp2_with (first | (go_at_call 71; (with_reducible refine (K1.out _).mono ?_); rintro e V2 ⟨rfl, hV2⟩) | (go_at_call 102; (with_reducible refine (K2.out _).mono ?_); rintro e V3 ⟨rfl, hV3⟩; have hb5 := bstep hV2 hV3; have hC5 := HC4.out.below hb5 HC4.out.lt; have hO5 := HO4.out.below hb5 HO4.out.lt; obtain ⟨c0, c1, c2, c3, -⟩ := blk4 hC5; obtain ⟨o0, o1, o2, o3, g0, g1, g2, g3⟩ := blk4 hO5; have lO5 := hO5.lt))
    refine bodyPost_ret (v := colV ⟨255, 255, 255, c.a⟩) (by simp [results, Try.results101, go_sem, lO5, o0, o1, o2, o3]) rfl ⟨by rw [HD.out], ?_, ?_, fun k hk1 hk2 => ?_, fun B hB => ?_⟩
    · exact ((((HK4.out.below hb5 HK4.out.lt).far (p := ⟨v.heap.size + 1, 0, none⟩) nk1 _).far (p := ⟨v.heap.size + 1, 1, none⟩) nk1 _).far (p := ⟨v.heap.size + 1, 2, none⟩) nk1 _).far (p := ⟨v.heap.size + 1, 3, none⟩) nk1 _
    · have := hb5.size
      simp only [World.setCell]; simp; omega
    · have n5 : k ≠ v.heap.size + 1 := by omega
      rw [Below.heap_setCell _ _ _ _ n5, Below.heap_setCell _ _ _ _ n5, Below.heap_setCell _ _ _ _ n5, Below.heap_setCell _ _ _ _ n5, hb5.block k (by omega), h4 k hk2, hb3.block k hk1]
    · have hx1 := ((hb3.mono (show B ≤ v.heap.size by omega)).trans (hB4 B hB)).trans (hb5.mono (show B ≤ V1.heap.size by omega))
      exact (((hx1.setCell (p := ⟨v.heap.size + 1, 0, none⟩) (by show B ≤ v.heap.size + 1; omega) _).setCell (p := ⟨v.heap.size + 1, 1, none⟩) (by show B ≤ v.heap.size + 1; omega) _).setCell (p := ⟨v.heap.size + 1, 2, none⟩) (by show B ≤ v.heap.size + 1; omega) _).setCell (p := ⟨v.heap.size + 1, 3, none⟩) (by show B ≤ v.heap.size + 1; omega) _
  · rw [if_neg hgt] at hD
    have HD := hide hD
    clear hD
    have HGT := hide hgt
    go_wp2_with (first | (go_at_call 71; (with_reducible refine (K1.out _).mono ?_); rintro e V2 ⟨rfl, hV2⟩) | (go_at_call 102; (with_reducible refine (K2.out _).mono ?_); rintro e V3 ⟨rfl, hV3⟩; have hb5 := bstep hV2 hV3; have hC5 := HC4.out.below hb5 HC4.out.lt; have hO5 := HO4.out.below hb5 HO4.out.lt; obtain ⟨c0, c1, c2, c3, -⟩ := blk4 hC5; obtain ⟨o0, o1, o2, o3, g0, g1, g2, g3⟩ := blk4 hO5; have lO5 := hO5.lt))
    refine bodyPost_ret (v := colV ⟨0, 0, 0, c.a⟩) (by simp [results, Try.results101, go_sem, lO5, o0, o1, o2, o3]) rfl ⟨by rw [HD.out], ?_, ?_, fun k hk1 hk2 => ?_, fun B hB => ?_⟩
    · exact ((((HK4.out.below hb5 HK4.out.lt).far (p := ⟨v.heap.size + 1, 0, none⟩) nk1 _).far (p := ⟨v.heap.size + 1, 1, none⟩) nk1 _).far (p := ⟨v.heap.size + 1, 2, none⟩) nk1 _).far (p := ⟨v.heap.size + 1, 3, none⟩) nk1 _
    · have := hb5.size
      simp only [World.setCell]; simp; omega
    · have n5 : k ≠ v.heap.size + 1 := by omega
      rw [Below.heap_setCell _ _ _ _ n5, Below.heap_setCell _ _ _ _ n5, Below.heap_setCell _ _ _ _ n5, Below.heap_setCell _ _ _ _ n5, hb5.block k (by omega), h4 k hk2, hb3.block k hk1]
    · have hx1 := ((hb3.mono (show B ≤ v.heap.size by omega)).trans (hB4 B hB)).trans (hb5.mono (show B ≤ V1.heap.size by omega))
      exact (((hx1.setCell (p := ⟨v.heap.size + 1, 0, none⟩) (by show B ≤ v.heap.size + 1; omega) _).setCell (p := ⟨v.heap.size + 1, 1, none⟩) (by show B ≤ v.heap.size + 1; omega) _).setCell (p := ⟨v.heap.size + 1, 2, none⟩) (by show B ≤ v.heap.size + 1; omega) _).setCell (p := ⟨v.heap.size + 1, 3, none⟩) (by show B ≤ v.heap.size + 1; omega) _
theorem enters101 (args : Array Value) (w : World) : (callFunc 101 args).run Try.prog w = .ok (.enter 101 args) w := enters_of Try.func101 (by kernel_rfl) rfl args w
/-- An image's pixels, in black and white. -/
def dithPx (l : List Int) (W : Nat) (x y : Nat) : Col := dithC (imgPx l W x y) x y
structure DithI (w : World) (x y : Int) (A : Option Addr) (n cap : Nat) (k : Nat) (v : World) : Prop where
  below : Below w.heap.size w v
  m : Blk v w.heap.size 34 #[.int .i64 x, .int .i64 y, .slice A n cap]
  r : Blk v (w.heap.size + 1) 34 #[.int .i64 0, .int .i64 0, .slice none 0 0]
  k : Blk v (w.heap.size + 1 + 1) 3 #[.int .i64 (k : Int)]

set_option maxHeartbeats 2000000 in
theorem dither_yes (W H : Nat) (A : Option Addr) (l : List Int) (cap : Nat) (w : World) (hR : rightI W H l.length) (hr : RowAt w w.heap.size .u8 A l) (hcap : l.length ≤ cap) (hu : U8s l) :
    Calls Try.prog 47 #[imgV W H A l.length cap] w (Made w W H (dithPx l W)) := by
  have hW := hR.1
  have hH := hR.2.1
  have KM := hide fun (v : World) (hz : w.heap.size + 1 + 1 < v.heap.size) (h0 : DithI w W H A l.length cap 0 v) =>
    map_yes 101 enters101 #[.pointer (some ⟨w.heap.size + 1 + 1, 0, none⟩), .pointer (some ⟨w.heap.size, 0, none⟩)] (dithPx l W) W H A l cap v hR hcap (fun n v' => DithI w W H A l.length cap n v') h0
      (fun n v1 v2 h hb => ⟨h.below.trans (hb.mono (by omega)), h.m.below hb (by omega), h.r.below hb (by omega), h.k.below hb (by omega)⟩)
      (fun n v1 h => (hr.below h.below (Nat.le_refl _)).more (by omega))
      (fun x y v1 hx hy hs h => (dith1_any (imgPx l W x y) (imgPx_ok hu W x y) W H A l.length cap (w.heap.size + 1 + 1) w.heap.size x y v1 (by omega) (by omega) hx hy h.k h.m (by omega)).mono (by
        rintro e v2 ⟨rfl, hk, hz2, hs2, hb2⟩
        exact ⟨rfl, ⟨h.below.trans (hb2 _ (by omega)), h.m.same (hs2 _ (by omega) (by omega)), h.r.same (hs2 _ (by omega) (by omega)), hk⟩, ⟨hz2, fun b h1 h2 => hs2 b h2 (by omega)⟩⟩))
  unfold Made
  obtain ⟨bs, hbs⟩ : ∃ bs, bs = bytesL (pxs (dithPx l W) W (W * H)) := ⟨_, rfl⟩
  rw [← hbs] at KM ⊢
  have h0 : DithI w W H A l.length cap 0 (((w.alloc (.cells #[.int .i64 W, .int .i64 H, .slice A l.length cap] 34)).alloc (.cells #[.int .i64 0, .int .i64 0, .slice none 0 0] 34)).alloc (.cells #[.int .i64 0] 3)) :=
    ⟨balloc (balloc (below_alloc w _) _) _, ((Blk.new _ _ _).alloc _).alloc _, (Blk.new' _ _ _ _ (by simp)).alloc _, Blk.new' _ _ _ _ (by simp)⟩
  have H0 := hide h0
  clear hR hr hcap hu hW hH hbs h0
  go_enter Try.func47, Try.ntmps47
  go_wp2_with (go_at_call 56; (with_reducible refine (KM.out _ (by simp) H0.out).mono ?_); rintro e v ⟨A', cap', rfl, hI, hN, hs⟩; obtain ⟨r0, r1, r2, f0, f1, f2⟩ := blk3 hI.r; have lr := hI.r.lt; have HI := hide hI; have HN := hide hN; clear hI hN)
  refine bodyPost_ret (v := .tuple #[imgV W H A' bs.length cap', .int .i64 0]) (by simp [results, Try.results47, go_sem, lr, r0, r1, r2]) rfl ⟨A', cap', rfl, ?_, ?_⟩
  · exact (((HN.out.set _ _ (by simp) _).set _ _ (by simp) _).set _ _ (by simp) _).less (by simp; omega)
  · exact bset (bset (bset HI.out.below _ _ (by omega) _) _ _ (by omega) _) _ _ (by omega) _
end Go.Proofs.Ytkjnheikimpliaa
