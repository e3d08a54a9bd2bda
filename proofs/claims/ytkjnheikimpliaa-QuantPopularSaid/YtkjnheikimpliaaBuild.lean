/- ops.build: an image whose pixels a function value tells, row by row; the function value may keep a state. -/
import Derived.Test.YtkjnheikimpliaaImgC
import Derived.Test.YtkjnheikimpliaaNumC
namespace Go.Proofs.Ytkjnheikimpliaa
set_option linter.unusedVariables false
set_option linter.unusedSimpArgs false
open Go.RowKit
attribute [local go_sem ↓] Go.wp_at_zero Go.wp_at_succ

/-- A block that is known whole. -/
def Blk (w : World) (g : Nat) (t : TypeId) (cs : Array Value) : Prop := w.heap[g]? = some (.cells cs t (0, 0))
section
variable {w w' : World} {g : Nat} {t : TypeId} {cs : Array Value}
theorem Blk.lt (h : Blk w g t cs) : g < w.heap.size := by
  rcases Nat.lt_or_ge g w.heap.size with hlt | hge
  · exact hlt
  · unfold Blk at h; rw [Array.getElem?_eq_none hge] at h; cases h
theorem Blk.cell (h : Blk w g t cs) (i : Nat) : w.cell? ⟨g, i, none⟩ = cs[i]? := cell_of_row w g i cs t (0, 0) h
theorem Blk.frozen (h : Blk w g t cs) (i : Nat) : w.frozen? ⟨g, i, none⟩ = false := by
  unfold Blk at h
  simp [World.frozen?, h]
theorem Blk.new (w : World) (t : TypeId) (cs : Array Value) : Blk (w.alloc (.cells cs t)) w.heap.size t cs := heap_alloc_new w _
theorem Blk.alloc (h : Blk w g t cs) (o : Obj) : Blk (w.alloc o) g t cs := (Below.heap_alloc w o g h.lt).trans h
theorem Blk.set_ (h : Blk w g t cs) (i : Nat) (u : Value) : Blk (w.setCell ⟨g, i, none⟩ u) g t (cs.setIfInBounds i u) := by
  unfold Blk at h ⊢
  simp [World.setCell, Array.getElem?_modify, h]
theorem Blk.far (h : Blk w g t cs) {p : Addr} (hp : g ≠ p.block) (u : Value) : Blk (w.setCell p u) g t cs := (Below.heap_setCell w p u g hp).trans h
theorem Blk.below {B : Nat} (h : Blk w g t cs) (hb : Below B w w') (hg : g < B) : Blk w' g t cs := (hb.block g hg).trans h
theorem Blk.grown {row : Option Nat} (h : Blk w g t cs) (hb : w.grownBy w' row) (hg : some g ≠ row) : Blk w' g t cs := (hb.block g h.lt hg).trans h
theorem Blk.same (h : Blk w g t cs) (hs : w'.heap[g]? = w.heap[g]?) : Blk w' g t cs := hs.trans h
end
theorem owns_same {w w' : World} {base : Nat} {e : TypeId} {size n g k c : Nat} {xs : List Value} (h : w.ownsRow base e size (.slice (some ⟨g, 0, none⟩) k c) n xs) (hs : w'.heap[g]? = w.heap[g]?) : w'.ownsRow base e size (.slice (some ⟨g, 0, none⟩) k c) n xs := by
  obtain ⟨h1, h2⟩ := h
  refine ⟨h1, h2.imp id ?_⟩
  rintro ⟨g', cap, cur, hv, hb, hh, rest⟩
  refine ⟨g', cap, cur, hv, hb, ?_, rest⟩
  have : g' = g := by injection hv with hv; injection hv with hv; injection hv with hv; exact hv.symm
  rw [this] at hh ⊢
  exact hs.trans hh

/-- From w1 to w2 the blocks from B on that were there stay as they were. -/
structure Keeps (B : Nat) (w1 w2 : World) : Prop where
  size : w1.heap.size ≤ w2.heap.size
  block : ∀ b, B ≤ b → b < w1.heap.size → w2.heap[b]? = w1.heap[b]?
theorem Keeps.of_below {B : Nat} {w1 w2 : World} (h : Below w1.heap.size w1 w2) : Keeps B w1 w2 := ⟨h.size, fun b _ hb => h.block b hb⟩

/-- A colour's bytes, and those of many. -/
def colL (c : Col) : List Int := [c.r, c.g, c.b, c.a]
def bytesL (l : List Col) : List Int := l.flatMap colL
/-- The first n pixels, row by row. -/
def pxs (px : Nat → Nat → Col) (W n : Nat) : List Col := (List.range n).map fun k => px (k % W) (k / W)
theorem bytesL_len (l : List Col) : (bytesL l).length = 4 * l.length := by
  induction l with
  | nil => rfl
  | cons c l ih => simp [bytesL, colL] at ih ⊢; omega
theorem pxs_len (px : Nat → Nat → Col) (W n : Nat) : (pxs px W n).length = n := by simp [pxs]
theorem bytesL_snoc (l : List Col) (c : Col) : bytesL (l ++ [c]) = bytesL l ++ [c.r, c.g, c.b, c.a] := by simp [bytesL, colL]
theorem pxs_succ (px : Nat → Nat → Col) (W k x : Nat) (hx : x < W) : pxs px W (k * W + x + 1) = pxs px W (k * W + x) ++ [px x k] := by
  have e1 : (k * W + x) % W = x := by rw [Nat.mul_comm, Nat.mul_add_mod, Nat.mod_eq_of_lt hx]
  have e2 : (k * W + x) / W = k := by rw [Nat.mul_comm, Nat.mul_add_div (by omega), Nat.div_eq_of_lt hx, Nat.add_zero]
  simp [pxs, List.range_succ, e1, e2]

/-- What holds of build's own memory behind n pixels. -/
structure BInv (w : World) (I : Nat → World → Prop) (px : Nat → Nat → Col) (W H n4 mb sb : Nat) (n : Nat) (wr : World) : Prop where
  base : w.heap.size ≤ wr.heap.size
  res : Blk wr w.heap.size 34 #[.int .i64 0, .int .i64 0, .slice none 0 0]
  mb1 : w.heap.size < mb
  sb1 : w.heap.size < sb
  ne : mb ≠ sb
  im : Blk wr mb 34 #[.int .i64 W, .int .i64 H, .slice (some ⟨sb, 0, none⟩) (4 * n) n4]
  own : wr.ownsRow w.heap.size 5 1 (.slice (some ⟨sb, 0, none⟩) (4 * n) n4) (4 * n) ((bytesL (pxs px W n)).map (Value.int .u8))
  inv : I n wr

theorem binv0 {w wp wm : World} {I : Nat → World → Prop} (px : Nat → Nat → Col) {W H n4 : Nat} (hI : ∀ n w1 w2, I n w1 → Below w.heap.size w1 w2 → I n w2) (hI0 : I 0 w) (hbp0 : Below w.heap.size w wp) (hzp : w.heap.size + 1 < wp.heap.size)
    (hrb : Blk wp w.heap.size 34 #[.int .i64 0, .int .i64 0, .slice none 0 0]) (hown : wm.ownsRow w.heap.size 5 1 (.slice (some ⟨wp.heap.size, 0, none⟩) 0 n4) 0 []) (hg : wp.grownBy wm none) (hz : wp.heap.size < wm.heap.size) :
    BInv w I px W H n4 wm.heap.size wp.heap.size 0 (wm.alloc (.cells #[.int .i64 W, .int .i64 H, .slice (some ⟨wp.heap.size, 0, none⟩) 0 n4] 34)) := by
  have hb : Below w.heap.size w (wm.alloc (.cells #[.int .i64 W, .int .i64 H, .slice (some ⟨wp.heap.size, 0, none⟩) 0 n4] 34)) := balloc (hbp0.grown hg hbp0.size (by simp)) _
  exact ⟨hb.size, (hrb.grown hg (by simp)).alloc _, by omega, by omega, by omega, Blk.new _ _ _, hown.alloc _, hI 0 w _ hI0 hb⟩

theorem own_lt {w : World} {base n c sz m : Nat} {e : TypeId} {g : Nat} {xs : List Value} (h : w.ownsRow base e sz (.slice (some ⟨g, 0, none⟩) n c) m xs) : g < w.heap.size := by
  obtain ⟨_, h2⟩ := h
  rcases h2 with ⟨h2, _⟩ | ⟨g', cap, cur, hv, _, hh, _⟩
  · cases h2
  · injection hv with hv; injection hv with hv; injection hv with hv
    subst hv
    exact Blk.lt (t := e) (cs := cur) hh

theorem owns_cell {w : World} {base n c : Nat} {e : TypeId} {g : Nat} {xs : List Value} (h : w.ownsRow base e 1 (.slice (some ⟨g, 0, none⟩) n c) n xs) (i : Nat) (v : Value) (hv : xs[i]? = some v) : w.cell? ⟨g, i, none⟩ = some v := by
  have hl := h.1
  have hi : i < xs.length := (List.getElem?_eq_some_iff.1 hv).1
  rw [h.cellAt i (by omega), hv]

theorem binv_step {w wr w2 w3 : World} {I : Nat → World → Prop} {px : Nat → Nat → Col} {W H n4 mb sb k x : Nat} (hx : x < W) (hI : ∀ n w1 w2, I n w1 → Below w.heap.size w1 w2 → I n w2) (h : BInv w I px W H n4 mb sb (k * W + x) wr) (hi : I (k * W + x + 1) w2) (hK : Keeps w.heap.size wr w2)
    (o1 o2 : Obj) (hg : ((w2.alloc o1).alloc o2).grownBy w3 (some sb))
    (ho : w3.ownsRow w.heap.size 5 1 (.slice (some ⟨sb, 0, none⟩) (4 * (k * W + x) + 4) n4) (4 * (k * W + x) + 4) ((bytesL (pxs px W (k * W + x))).map (Value.int .u8) ++ [.int .u8 (px x k).r, .int .u8 (px x k).g, .int .u8 (px x k).b, .int .u8 (px x k).a])) :
    BInv w I px W H n4 mb sb (k * W + (x + 1)) (w3.setCell ⟨mb, 2, none⟩ (.slice (some ⟨sb, 0, none⟩) (4 * (k * W + x) + 4) n4)) := by
  have hsb : sb < wr.heap.size := own_lt h.own
  have hb1 : ∀ b, w.heap.size ≤ b → b < wr.heap.size → b ≠ sb → w3.heap[b]? = wr.heap[b]? := fun b h1 h2 h3 => by
    have hs := hK.size
    rw [hg.block b (by simp; omega) (by simpa using h3), Below.heap_alloc _ _ _ (by simp; omega), Below.heap_alloc _ _ _ (by omega)]
    exact hK.block b h1 h2
  have hlo : Below w.heap.size w2 w3 := by
    have hs := hK.size
    have hb := h.base
    exact (((Below.refl _ _).alloc (by omega) o1).alloc (by simp; omega) o2).grown hg (by simp; omega) (fun k hk => by injection hk with hk; have := h.sb1; omega)
  have e1 : k * W + (x + 1) = k * W + x + 1 := by omega
  rw [e1]
  have hs3 := hlo.size
  have hs2 := hK.size
  have hr1 := h.res.lt
  have hm1 := h.im.lt
  have hmb := h.mb1
  have hne := h.ne
  have hsb1 := h.sb1
  refine ⟨?_, ?_, h.mb1, h.sb1, h.ne, ?_, ?_, ?_⟩
  · have := h.base; simp [World.setCell]; omega
  · exact ((h.res.same (hb1 _ (Nat.le_refl _) (by omega) (by omega))).far (p := ⟨mb, 2, none⟩) (by simp; omega) _)
  · have hb := ((h.im.same (hb1 _ (by omega) (by omega) (by omega))).set_ 2 (.slice (some ⟨sb, 0, none⟩) (4 * (k * W + x) + 4) n4))
    simpa [Nat.mul_add] using hb
  · rw [pxs_succ px W k x hx, bytesL_snoc]
    have := owns_same ho (w' := w3.setCell ⟨mb, 2, none⟩ (.slice (some ⟨sb, 0, none⟩) (4 * (k * W + x) + 4) n4)) (Below.heap_setCell _ _ _ _ (by simp; omega))
    simpa [Nat.mul_add] using this
  · exact hI _ w2 _ hi (hlo.setCell (p := ⟨mb, 2, none⟩) (by simp; omega) _)

theorem news4 (w : World) (o : Obj) (a b c d : Value) (T : TypeId) : ∀ j u, [a, b, c, d][j]? = some u → ((w.alloc o).alloc (.cells #[a, b, c, d] T)).cell? ((⟨w.heap.size + 1, 0, none⟩ : Addr).add j) = some u := by
  have hb : Blk ((w.alloc o).alloc (.cells #[a, b, c, d] T)) (w.heap.size + 1) T #[a, b, c, d] := by
    have := Blk.new (w.alloc o) T #[a, b, c, d]
    simpa using this
  intro j u h
  have e : (⟨w.heap.size + 1, 0, none⟩ : Addr).add j = ⟨w.heap.size + 1, j, none⟩ := by
    rw [Addr.add]; split
    · rename_i e; simp [e]
    · simp
  rw [e, hb.cell j]
  simpa using h

theorem u8_info : (Try.prog.info? 5).map (fun i => (i.zero, i.size, i.bytes)) = some (some (.int .u8 0), 1, 1) := by kernel_rfl

theorem product3 (a b c : Int) (wa : World) (T : TypeId) (g : Nat) (hg : g = wa.heap.size) : Calls Try.prog 33 #[.slice (some ⟨g, 0, none⟩) 3 3] (wa.alloc (.cells #[.int .i64 a, .int .i64 b, .int .i64 c] T)) fun e w' =>
    e = .returned (.tuple #[.int .i64 (foldN mulN 1 [a, b, c]).1, .bool (foldN mulN 1 [a, b, c]).2]) ∧ Below (wa.heap.size + 1) (wa.alloc (.cells #[.int .i64 a, .int .i64 b, .int .i64 c] T)) w' := by
  subst hg
  have h := product_any (some ⟨wa.heap.size, 0, none⟩) [a, b, c] 3 (wa.alloc (.cells #[.int .i64 a, .int .i64 b, .int .i64 c] T)) (by simp) (fun k hk => by
    refine ⟨_, 0, rfl, by simp, ?_⟩
    match k, hk with
    | 0, _ => simp
    | 1, _ => simp
    | 2, _ => simp)
  exact h.mono fun e w' ⟨h1, h2⟩ => ⟨h1, by simpa using h2⟩
theorem fold3 (W H : Nat) (hW : 1 ≤ W ∧ W ≤ 16384) (hH : 1 ≤ H ∧ H ≤ 16384) : foldN mulN 1 [(W : Int), (H : Int), 4] = (((4 * (W * H) : Nat) : Int), true) := by
  have h0 : W * H ≤ 16384 * 16384 := Nat.mul_le_mul hW.2 hH.2
  have e1 : mulN 1 (W : Int) = ((W : Int), true) := by rw [mulN_yes 1 W (by decide) (isN_mk (by omega) (by omega)) (by omega)]; simp
  have e0 : (W : Int) * (H : Int) = ((W * H : Nat) : Int) := by simp
  have e2 : mulN (W : Int) (H : Int) = (((W * H : Nat) : Int), true) := by rw [mulN_yes W H (isN_mk (by omega) (by omega)) (isN_mk (by omega) (by omega)) (by rw [e0]; omega), e0]
  have e3 : mulN ((W * H : Nat) : Int) 4 = (((4 * (W * H) : Nat) : Int), true) := by
    rw [mulN_yes _ 4 (isN_mk (by omega) (by omega)) (by decide) (by omega)]
    congr 1
    omega
  simp only [foldN, e1, e2, e3, if_true]

set_option maxRecDepth 100000 in
set_option maxHeartbeats 1000000 in
theorem build_yes (g : FuncId) (eg : ∀ args w, (callFunc g args).run Try.prog w = .ok (.enter g args) w) (caps : Array Value) (px : Nat → Nat → Col) (W H : Nat) (hW : 1 ≤ W ∧ W ≤ 16384) (hH : 1 ≤ H ∧ H ≤ 16384) (w : World) (I : Nat → World → Prop)
    (hI0 : I 0 w) (hI : ∀ n w1 w2, I n w1 → Below w.heap.size w1 w2 → I n w2)
    (hg : ∀ (x y : Nat) (w1 : World), x < W → y < H → w.heap.size ≤ w1.heap.size → I (y * W + x) w1 →
      Calls Try.prog g (#[.int .i64 (x : Int), .int .i64 (y : Int)] ++ caps) w1 fun e w2 => e = .returned (colV (px x y)) ∧ I (y * W + x + 1) w2 ∧ Keeps w.heap.size w1 w2) :
    Calls Try.prog 104 #[.int .i64 (W : Int), .int .i64 (H : Int), .func (.func g) #[] caps] w fun e w' =>
      ∃ A cap, e = .returned (.tuple #[imgV W H A (4 * (W * H)) cap, .int .i64 0]) ∧ I (W * H) w' ∧ RowNew w' w.heap.size .u8 A (bytesL (pxs px W (W * H))) ∧ 4 * (W * H) ≤ cap ∧ w.heap.size ≤ w'.heap.size := by
  obtain ⟨i0, hi, hz0, hz1, hz2⟩ := info_parts u8_info
  have HG := hide hg
  have HI := hide hI
  have HI0 := hide hI0
  clear hg hI hI0
  obtain ⟨w1, w2⟩ := hW
  obtain ⟨h1, h2⟩ := hH
  have s1 : sideB (W : Int) = true := sideB_mk (by omega)
  have s2 : sideB (H : Int) = true := sideB_mk (by omega)
  go_enter Try.func104, Try.ntmps104
  go_wp2_with (go_at_call 137; (with_reducible refine (oside_any _ _).mono ?_); rintro e w1 ⟨rfl, rfl⟩)
  obtain ⟨n4, hn4⟩ : ∃ n4 : Nat, n4 = 4 * (W * H) := ⟨_, rfl⟩
  have hn4b : n4 ≤ 1073741824 := by
    have : W * H ≤ 16384 * 16384 := Nat.mul_le_mul w2 h2
    omega
  have K := hide fun (wa : World) (T : TypeId) (g : Nat) (hg : g = wa.heap.size) => (product3 W H 4 wa T g hg).mono (R' := fun e w' => e = .returned (.tuple #[.int .i64 (n4 : Int), .bool true]) ∧ Below (wa.heap.size + 1) (wa.alloc (.cells #[.int .i64 (W : Int), .int .i64 (H : Int), .int .i64 4] T)) w') (by rintro e w' ⟨rfl, hb⟩; rw [fold3 W H ⟨w1, w2⟩ ⟨h1, h2⟩, ← hn4]; exact ⟨rfl, hb⟩)
  have HN4 := hide hn4
  clear hn4
  refine (K.out _ _ _ (by simp)).mono ?_
  rintro e wp ⟨rfl, hbp⟩
  have hbp0 : Below w.heap.size w wp := bstep' (balloc (below_alloc w _) _) hbp (Nat.le_trans (below_alloc w _).size (Nat.le_succ _))
  have hzp : w.heap.size + 1 < wp.heap.size := by have := hbp.size; simp at this; omega
  have hrb : Blk wp w.heap.size 34 #[.int .i64 0, .int .i64 0, .slice none 0 0] := ((Blk.new w _ _).alloc _).below hbp (Nat.lt_succ_of_le (below_alloc w _).size)
  have HRB := hide hrb
  clear hrb
  go_wp2_with (first | (at_make; refine wpList_make_own _ rfl _ _ 32 rfl w.heap.size 5 i0 _ 1 Try.underlying32 hi hz0 hz1 _ _ _ n4 rfl rfl rfl (by rw [hz2]; omega) (by unfold maxLen; omega) (by omega) ?_; intro wm hownm hgm))
  have hB0 : BInv w I px W H n4 wm.heap.size wp.heap.size 0 (wm.alloc (.cells #[.int .i64 W, .int .i64 H, .slice (some ⟨wp.heap.size, 0, none⟩) 0 n4] 34)) := binv0 px HI.out HI0.out hbp0 hzp HRB.out hownm hgm (own_lt hownm)
  have HB0 := hide hB0
  clear hB0 hownm hgm hbp hbp0 hzp HRB HI0 K
  obtain ⟨mb, emb⟩ : ∃ mb, mb = wm.heap.size := ⟨_, rfl⟩
  obtain ⟨sb, esb⟩ : ∃ sb, sb = wp.heap.size := ⟨_, rfl⟩
  rw [← emb, ← esb] at HB0 ⊢
  have EMB := hide emb
  clear emb esb
  go_loopw [36] (fun i wr => ∃ k : Nat, k ≤ H ∧ i = .int .i64 k ∧ BInv w I px W H n4 mb sb (k * W) wr) (fun i _ => H - (intOf i).toNat)
  case atStart => exact ⟨0, Nat.zero_le _, rfl, by simpa using HB0.out⟩
  case round =>
    obtain ⟨k, hk, rfl, hB⟩ := hrel
    obtain ⟨wo, rfl⟩ : ∃ wo : World, wo = wr := ⟨_, rfl⟩
    by_cases hlt : k < H
    · have HB := hide hB
      clear hB
      go_wp2_with fail
      go_loopw [40] (fun j wr => ∃ x : Nat, x ≤ W ∧ j = .int .i64 x ∧ BInv w I px W H n4 mb sb (k * W + x) wr) (fun j _ => W - (intOf j).toNat)
      case atStart => exact ⟨0, Nat.zero_le _, rfl, by simpa using HB.out⟩
      case round =>
        obtain ⟨x, hx, rfl, hB⟩ := hrel
        by_cases hltx : x < W
        · have HB' := hide hB
          clear hB
          go_wp2_with fail
          refine (HG.out x k _ hltx hlt HB'.out.base HB'.out.inv).mono ?_
          rintro e w2 ⟨rfl, hi2, hK⟩
          have hkx : k * W + x < W * H := by
            have : (k + 1) * W ≤ H * W := Nat.mul_le_mul_right _ hlt
            rw [Nat.add_mul] at this
            have e2 : W * H = H * W := Nat.mul_comm _ _
            omega
          have hq4 : 4 * (k * W + x) + 4 ≤ n4 := by have := HN4.out; omega
          have im2 : Blk w2 mb 34 #[.int .i64 W, .int .i64 H, .slice (some ⟨sb, 0, none⟩) (4 * (k * W + x)) n4] := HB'.out.im.same (hK.block mb (by have := HB'.out.mb1; omega) HB'.out.im.lt)
          have own2 := owns_same HB'.out.own (hK.block sb (by have := HB'.out.sb1; omega) (own_lt HB'.out.own))
          have m2 := im2.cell 2
          have f2 := im2.frozen 2
          have m2lt := im2.lt
          simp only [List.getElem?_toArray, List.getElem?_cons_succ, List.getElem?_cons_zero] at m2
          have IM2 := hide im2
          have OWN2 := hide own2
          have HKK := hide hK
          have HI2 := hide hi2
          have ne12 := HB'.out.ne
          clear im2 own2 hK hi2 hkx
          go_wp2_with (first | (at_builtin; refine wpList_append_fits _ rfl _ _ 32 rfl w.heap.size 5 i0 1 Try.underlying32 hi hz1 sb (4 * (k * W + x)) n4 _ rfl ((OWN2.out.alloc _).alloc _) ⟨w2.heap.size + 1, 0, none⟩ 4 4 [.int .u8 (px x k).r, .int .u8 (px x k).g, .int .u8 (px x k).b, .int .u8 (px x k).a] rfl rfl ?c1 ?c2 hq4 ?_))
          case c1 => exact news4 _ _ _ _ _ _ _
          case c2 => intro u hu; simp at hu; rcases hu with rfl | rfl | rfl | rfl <;> rfl
          intro w3 hown3 hg3
          have HB3 := hide (binv_step hltx HI.out HB'.out HI2.out HKK.out _ _ hg3 hown3)
          have im3 := ((IM2.out.alloc _).alloc _).grown hg3 (by simpa using ne12)
          have m3 := im3.cell 2
          have f3 := im3.frozen 2
          simp only [List.getElem?_toArray, List.getElem?_cons_succ, List.getElem?_cons_zero] at m3
          clear im3 hown3 hg3 m2 f2 IM2 OWN2 HI2 HKK
          go_wp2_with fail
          go_roundw
          case rel => exact ⟨x + 1, by omega, by go_num, HB3.out⟩
          case measure => simp [intOf]; omega
        · go_wp2_with fail
          go_roundw
          case rel => exact ⟨k + 1, by omega, by go_num, by have e : x = W := by omega
                                                            rw [e] at hB; rw [Nat.add_mul]; simpa using hB⟩
          case measure => simp [intOf]; omega
    · have hkH : k = H := by omega
      subst hkH
      have m0 := hB.im.cell 0
      have m1 := hB.im.cell 1
      have m2 := hB.im.cell 2
      have r0 := hB.res.cell 0
      have r1 := hB.res.cell 1
      have r2 := hB.res.cell 2
      have g0 := hB.res.frozen 0
      have g1 := hB.res.frozen 1
      have g2 := hB.res.frozen 2
      have l0 := hB.res.lt
      simp only [List.getElem?_toArray, List.getElem?_cons_succ, List.getElem?_cons_zero] at m0 m1 m2 r0 r1 r2
      have HB := hide hB
      clear hB
      go_wp2_with fail
      refine bodyPost_ret (v := .tuple #[imgV W k (some ⟨sb, 0, none⟩) (4 * (k * W)) n4, .int .i64 0]) (by simp [results, Try.results104, go_sem, l0, r0, r1, r2]) rfl ?_
      have e1 : k * W = W * k := Nat.mul_comm _ _
      refine ⟨some ⟨sb, 0, none⟩, n4, by rw [e1], ?_⟩
      have hfin : ∀ wf : World, wf.heap.size = wo.heap.size → (∀ p, p ≠ w.heap.size → wf.heap[p]? = wo.heap[p]?) → Below w.heap.size wo wf → I (W * k) wf ∧ RowNew wf w.heap.size .u8 (some ⟨sb, 0, none⟩) (bytesL (pxs px W (W * k))) ∧ 4 * (W * k) ≤ n4 ∧ w.heap.size ≤ wf.heap.size := fun wf hs hp hbw => by
        have hB := HB.out
        rw [e1] at hB
        refine ⟨HI.out _ wo _ hB.inv hbw, ?_, by rw [HN4.out]; exact Nat.le_refl _, by rw [hs]; exact hB.base⟩
        have ho := owns_same hB.own (hp sb (by have := hB.sb1; omega))
        intro i hi
        refine ⟨sb, 0, rfl, by have := hB.sb1; omega, own_lt ho, ?_⟩
        have hlen : i < 4 * (W * k) := by simpa [bytesL_len, pxs_len] using hi
        have hx : ((bytesL (pxs px W (W * k))).map (Value.int .u8))[i]? = some (.int .u8 ((bytesL (pxs px W (W * k))).getD i 0)) := by
          rw [List.getElem?_map, List.getElem?_eq_getElem hi]; simp [List.getD, hi]
        simpa using owns_cell ho i _ hx
      refine hfin _ ?_ ?_ ?_
      · simp [World.setCell]
      · intro p hp
        rw [Below.heap_setCell _ _ _ _ hp, Below.heap_setCell _ _ _ _ hp, Below.heap_setCell _ _ _ _ hp]
      · exact (((Below.refl _ _).setCell (p := ⟨w.heap.size, 0, none⟩) (Nat.le_refl _) _).setCell (p := ⟨w.heap.size, 1, none⟩) (Nat.le_refl _) _).setCell (p := ⟨w.heap.size, 2, none⟩) (Nat.le_refl _) _
end Go.Proofs.Ytkjnheikimpliaa
