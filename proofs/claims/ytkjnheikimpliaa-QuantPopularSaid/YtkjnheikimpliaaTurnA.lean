/- Quarters, plainly; ops.Turn in one contract; the reference's Image over rows told by their places. -/
import Derived.Test.YtkjnheikimpliaaRefE
import Derived.Test.YtkjnheikimpliaaOpsE
namespace Go.Proofs.Ytkjnheikimpliaa
set_option linter.unusedVariables false
set_option linter.unusedSimpArgs false
open Go.RowKit

/-- An image in a box of its own. -/
structure Pic (w : World) (p : Nat) (x y : Int) (A : Option Addr) (l : List Int) (cap : Nat) : Prop where
  blk : Blk w p 34 #[.int .i64 x, .int .i64 y, .slice A l.length cap]
  row : RowAt w w.heap.size .u8 A l
theorem Pic.below {w w' : World} {p : Nat} {x y : Int} {A : Option Addr} {l : List Int} {cap : Nat} (h : Pic w p x y A l cap) (hb : Below w.heap.size w w') : Pic w' p x y A l cap :=
  ⟨h.blk.below hb h.blk.lt, (h.row.below hb (Nat.le_refl _)).more hb.size⟩
theorem Pic.alloc {w : World} {p : Nat} {x y : Int} {A : Option Addr} {l : List Int} {cap : Nat} (h : Pic w p x y A l cap) (o : Obj) : Pic (w.alloc o) p x y A l cap := h.below (below_alloc w o)
theorem Pic.cells {w : World} {p : Nat} {x y : Int} {A : Option Addr} {l : List Int} {cap : Nat} (h : Pic w p x y A l cap) :
    w.cell? ⟨p, 0, none⟩ = some (.int .i64 x) ∧ w.cell? ⟨p, 1, none⟩ = some (.int .i64 y) ∧ w.cell? ⟨p, 2, none⟩ = some (.slice A l.length cap) := ⟨h.blk.cell 0, h.blk.cell 1, h.blk.cell 2⟩
theorem Pic.cellsA {w : World} {p : Nat} {x y : Int} {A : Option Addr} {l : List Int} {cap : Nat} (h : Pic w p x y A l cap) :
    (∀ o, (w.alloc o).cell? ⟨p, 0, none⟩ = some (.int .i64 x)) ∧ (∀ o, (w.alloc o).cell? ⟨p, 1, none⟩ = some (.int .i64 y)) ∧ (∀ o, (w.alloc o).cell? ⟨p, 2, none⟩ = some (.slice A l.length cap)) :=
  ⟨fun o => (h.alloc o).blk.cell 0, fun o => (h.alloc o).blk.cell 1, fun o => (h.alloc o).blk.cell 2⟩
theorem Pic.new {w : World} {x y : Int} {A : Option Addr} {l : List Int} {cap : Nat} (h : RowAt w w.heap.size .u8 A l) : Pic (w.alloc (.cells #[.int .i64 x, .int .i64 y, .slice A l.length cap] 34)) w.heap.size x y A l cap :=
  ⟨Blk.new' w 34 _ _ rfl, (h.below (below_alloc w _) (Nat.le_refl _)).more (by simp)⟩

/-- Pixels, and sides, turned by quarters. -/
def tq (px : Nat → Nat → Col) (W H : Nat) : Nat → (Nat → Nat → Col) × Nat × Nat
  | 0 => (px, W, H)
  | i + 1 => (fun a b => (tq px W H i).1 b ((tq px W H i).2.2 - 1 - a), (tq px W H i).2.2, (tq px W H i).2.1)
theorem tq_bd (px : Nat → Nat → Col) {W H M : Nat} (hW : 1 ≤ W ∧ W ≤ M) (hH : 1 ≤ H ∧ H ≤ M) : ∀ i, (1 ≤ (tq px W H i).2.1 ∧ (tq px W H i).2.1 ≤ M) ∧ 1 ≤ (tq px W H i).2.2 ∧ (tq px W H i).2.2 ≤ M
  | 0 => ⟨hW, hH⟩
  | i + 1 => ⟨(tq_bd px hW hH i).2, (tq_bd px hW hH i).1⟩
theorem tq_mul (px : Nat → Nat → Col) (W H : Nat) : ∀ i, (tq px W H i).2.1 * (tq px W H i).2.2 = W * H
  | 0 => rfl
  | i + 1 => by rw [← tq_mul px W H i]; exact Nat.mul_comm _ _
theorem tq_ok {px : Nat → Nat → Col} (h : ∀ a b, (px a b).ok) (W H : Nat) : ∀ i a b, ((tq px W H i).1 a b).ok
  | 0, a, b => h a b
  | i + 1, a, b => tq_ok h W H i _ _

theorem grid_bytes_len (px : Nat → Nat → Col) (W H : Nat) : (bytesL (grid px W H).flatten).length = 4 * (W * H) := by rw [← pxs_grid, bytesL_len, pxs_len]
theorem grid_u8s {px : Nat → Nat → Col} (h : ∀ a b, (px a b).ok) (W H : Nat) : U8s (bytesL (grid px W H).flatten) := by rw [← pxs_grid]; exact u8s_pxs h _ _
theorem grid_congr {px qx : Nat → Nat → Col} {W H : Nat} (hW : 0 < W) (h : ∀ a b, a < W → b < H → px a b = qx a b) : bytesL (grid px W H).flatten = bytesL (grid qx W H).flatten := by
  rw [← pxs_grid, ← pxs_grid, pxs_congr px qx W H hW h]
theorem grid_img {l : List Int} {W H : Nat} (hR : rightI W H l.length) : bytesL (grid (imgPx l W) W H).flatten = l := by rw [← pxs_grid, bytes_img hR]
/-- The pixels of an image that was made of pixels. -/
theorem img_grid (px : Nat → Nat → Col) {W H a b : Nat} (ha : a < W) (hb : b < H) : imgPx (bytesL (grid px W H).flatten) W a b = px a b := by
  unfold imgPx
  have hk : b * W + a < W * H := by
    have h1 : (b + 1) * W ≤ H * W := Nat.mul_le_mul_right _ (by omega)
    rw [Nat.add_mul, Nat.mul_comm H] at h1
    omega
  refine pix_bytesL _ _ _ ?_
  rw [← pxs_grid]
  unfold pxs
  rw [List.getElem?_map, List.getElem?_range hk]
  have e1 : (b * W + a) % W = a := by rw [Nat.mul_comm, Nat.mul_add_mod, Nat.mod_eq_of_lt ha]
  have e2 : (b * W + a) / W = b := by rw [Nat.mul_comm, Nat.mul_add_div (by omega), Nat.div_eq_of_lt ha, Nat.add_zero]
  simp [e1, e2]
theorem right_grid (px : Nat → Nat → Col) {W H : Nat} (hW : 1 ≤ W ∧ W ≤ 16384) (hH : 1 ≤ H ∧ H ≤ 16384) : rightI W H (bytesL (grid px W H).flatten).length := by
  rw [grid_bytes_len]
  refine ⟨by omega, by omega, ?_⟩
  rw [Int.mul_assoc]; simp

theorem gridImage_any (g c W H : Nat) (px : Nat → Nat → Col) (w : World) (hro : RowsAt w w.heap.size (some ⟨g, 0, none⟩) (grid px W H)) (hW : 1 ≤ W ∧ W ≤ 16384) (hH : 1 ≤ H ∧ H ≤ 16384) (hm : W * H ≤ 268435456) (hu : ∀ a b, (px a b).ok) :
    Calls Try.prog 55 #[.slice (some ⟨g, 0, none⟩) H c] w fun e w' => ∃ A' cap', e = .returned (imgV W H A' (bytesL (grid px W H).flatten).length cap') ∧ ImgNew w' w.heap.size A' cap' (bytesL (grid px W H).flatten) ∧ Below w.heap.size w w' := by
  have K := refImage_any (some ⟨g, 0, none⟩) (grid px W H) c w hro (by rw [grid_len]; omega) (by rw [grid_bytes_len]; omega) (by rw [grid_len]; omega) (grid_u8s hu W H)
  have hg0 : ((grid px W H).getD 0 []).length = W := by
    unfold grid
    simp [List.getD, show 0 < H from by omega]
  rw [hg0, grid_len] at K
  exact K

theorem nat_sub1 {H b : Nat} (h : b < H) : (H : Int) - 1 - b = ((H - 1 - b : Nat) : Int) := by omega
theorem turn_any (W H : Nat) (A : Option Addr) (l : List Int) (cap : Nat) (n : Int) (k : Nat) (w : World) (hR : rightI W H l.length) (hr : RowAt w w.heap.size .u8 A l) (hcap : l.length ≤ cap) (hn : quart n = k) (hk : k < 4) :
    Calls Try.prog 61 #[imgV W H A l.length cap, .int .i64 n] w (MadeL w (tq (imgPx l W) W H k).2.1 (tq (imgPx l W) W H k).2.2 (bytesL (grid (tq (imgPx l W) W H k).1 (tq (imgPx l W) W H k).2.1 (tq (imgPx l W) W H k).2.2).flatten)) := by
  have hx := hR.1.1
  have hy := hR.2.1.1
  have hk' : k = 0 ∨ k = 1 ∨ k = 2 ∨ k = 3 := by omega
  rcases hk' with rfl | rfl | rfl | rfl
  · have h := turn0_yes W H A l cap n w hR hr hn
    show Calls Try.prog 61 _ w (MadeL w W H (bytesL (grid (imgPx l W) W H).flatten))
    rw [grid_img hR]
    exact h
  · have h := turn1_yes W H A l cap n w hR hr hcap hn
    show Calls Try.prog 61 _ w (MadeL w H W (bytesL (grid (fun a b => imgPx l W b (H - 1 - a)) H W).flatten))
    rw [← pxs_grid, ← pxs_congr (turn1Px l W H) _ H W (by omega) (fun a b ha hb => by unfold turn1Px imgPx; rw [nat_sub1 ha, nat_idx])]
    exact h
  · have h := turn2_yes W H A l cap n w hR hr hcap hn
    show Calls Try.prog 61 _ w (MadeL w W H (bytesL (grid (fun a b => imgPx l W (W - 1 - a) (H - 1 - b)) W H).flatten))
    rw [← pxs_grid, ← pxs_congr (turn2Px l W H) _ W H (by omega) (fun a b ha hb => by unfold turn2Px imgPx; rw [nat_sub1 ha, nat_sub1 hb, nat_idx])]
    exact h
  · have h := turn3_yes W H A l cap n w hR hr hcap hn
    show Calls Try.prog 61 _ w (MadeL w H W (bytesL (grid (fun a b => imgPx l W (W - 1 - b) (H - 1 - (H - 1 - a))) H W).flatten))
    rw [← pxs_grid, ← pxs_congr (turn3Px l W) _ H W (by omega) (fun a b ha hb => by unfold turn3Px imgPx; rw [nat_sub1 hb, nat_idx, show H - 1 - (H - 1 - a) = a from by omega])]
    exact h

/-- Four quarters change nothing. -/
theorem tq_back {l : List Int} {W H k : Nat} (hR : rightI W H l.length) (hk : k < 4) (l1 : List Int) (hl : l1 = bytesL (grid (tq (imgPx l W) W H k).1 (tq (imgPx l W) W H k).2.1 (tq (imgPx l W) W H k).2.2).flatten) :
    ∀ q1, q1 = tq (imgPx l1 (tq (imgPx l W) W H k).2.1) (tq (imgPx l W) W H k).2.1 (tq (imgPx l W) W H k).2.2 ((4 - k) % 4) →
    q1.2.1 = W ∧ q1.2.2 = H ∧ bytesL (grid q1.1 q1.2.1 q1.2.2).flatten = l := by
  intro q1 e
  have hx := hR.1.1
  have hy := hR.2.1.1
  have hk' : k = 0 ∨ k = 1 ∨ k = 2 ∨ k = 3 := by omega
  have e0 := grid_img hR
  rcases hk' with rfl | rfl | rfl | rfl
  · have hl : l1 = bytesL (grid (imgPx l W) W H).flatten := hl
    have e : q1 = (imgPx l1 W, W, H) := e
    subst e
    refine ⟨rfl, rfl, ?_⟩
    show bytesL (grid (imgPx l1 W) W H).flatten = l
    rw [hl, e0]; exact e0
  · have hl : l1 = bytesL (grid (fun a b => imgPx l W b (H - 1 - a)) H W).flatten := hl
    have e : q1 = (fun a b => imgPx l1 H (H - 1 - b) (W - 1 - (W - 1 - a)), W, H) := e
    subst e
    refine ⟨rfl, rfl, ?_⟩
    have hh : bytesL (grid (fun a b => imgPx l1 H (H - 1 - b) (W - 1 - (W - 1 - a))) W H).flatten = bytesL (grid (imgPx l W) W H).flatten := grid_congr (by omega) fun a b ha hb => by
      show imgPx l1 H (H - 1 - b) (W - 1 - (W - 1 - a)) = imgPx l W a b
      rw [hl, img_grid _ (by omega) (by omega), show H - 1 - (H - 1 - b) = b from by omega, show W - 1 - (W - 1 - a) = a from by omega]
    exact hh.trans e0
  · have hl : l1 = bytesL (grid (fun a b => imgPx l W (W - 1 - a) (H - 1 - b)) W H).flatten := hl
    have e : q1 = (fun a b => imgPx l1 W (W - 1 - a) (H - 1 - b), W, H) := e
    subst e
    refine ⟨rfl, rfl, ?_⟩
    have hh : bytesL (grid (fun a b => imgPx l1 W (W - 1 - a) (H - 1 - b)) W H).flatten = bytesL (grid (imgPx l W) W H).flatten := grid_congr (by omega) fun a b ha hb => by
      show imgPx l1 W (W - 1 - a) (H - 1 - b) = imgPx l W a b
      rw [hl, img_grid _ (by omega) (by omega), show H - 1 - (H - 1 - b) = b from by omega, show W - 1 - (W - 1 - a) = a from by omega]
    exact hh.trans e0
  · have hl : l1 = bytesL (grid (fun a b => imgPx l W (W - 1 - b) (H - 1 - (H - 1 - a))) H W).flatten := hl
    have e : q1 = (fun a b => imgPx l1 H b (W - 1 - a), W, H) := e
    subst e
    refine ⟨rfl, rfl, ?_⟩
    have hh : bytesL (grid (fun a b => imgPx l1 H b (W - 1 - a)) W H).flatten = bytesL (grid (imgPx l W) W H).flatten := grid_congr (by omega) fun a b ha hb => by
      show imgPx l1 H b (W - 1 - a) = imgPx l W a b
      rw [hl, img_grid _ (by omega) (by omega), show H - 1 - (H - 1 - b) = b from by omega, show W - 1 - (W - 1 - a) = a from by omega]
    exact hh.trans e0
theorem quart_neg (k : Nat) (hk : k < 4) : quart (4 - (k : Int)) = (((4 - k) % 4 : Nat) : Int) := by
  have hk' : k = 0 ∨ k = 1 ∨ k = 2 ∨ k = 3 := by omega
  rcases hk' with rfl | rfl | rfl | rfl <;> decide +kernel
/-- What the remainder says of the quarter. -/
theorem quart_of (n : Int) : ∃ k : Nat, k < 4 ∧ quart n = k ∧ (n.tmod 4 = k ∨ (n.tmod 4 = (k : Int) - 4 ∧ 1 ≤ k)) := by
  have h : n.tmod 4 = -3 ∨ n.tmod 4 = -2 ∨ n.tmod 4 = -1 ∨ n.tmod 4 = 0 ∨ n.tmod 4 = 1 ∨ n.tmod 4 = 2 ∨ n.tmod 4 = 3 := by
    have h1 := Int.tmod_lt_of_pos n (show (0 : Int) < 4 by decide)
    have h2 : -4 < n.tmod 4 := Int.lt_tmod_of_pos n (show (0 : Int) < 4 by decide)
    omega
  unfold quart
  rcases h with h | h | h | h | h | h | h <;> rw [h]
  · exact ⟨1, by omega, by decide +kernel, .inr ⟨by omega, by omega⟩⟩
  · exact ⟨2, by omega, by decide +kernel, .inr ⟨by omega, by omega⟩⟩
  · exact ⟨3, by omega, by decide +kernel, .inr ⟨by omega, by omega⟩⟩
  · exact ⟨0, by omega, by decide +kernel, .inl rfl⟩
  · exact ⟨1, by omega, by decide +kernel, .inl rfl⟩
  · exact ⟨2, by omega, by decide +kernel, .inl rfl⟩
  · exact ⟨3, by omega, by decide +kernel, .inl rfl⟩
end Go.Proofs.Ytkjnheikimpliaa
