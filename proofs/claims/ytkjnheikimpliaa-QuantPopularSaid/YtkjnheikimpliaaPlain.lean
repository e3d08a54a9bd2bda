/- Plain laws on rows of pixels and their bytes. -/
import Derived.Test.YtkjnheikimpliaaRefC
namespace Go.Proofs.Ytkjnheikimpliaa
set_option linter.unusedVariables false
set_option linter.unusedSimpArgs false
open Go.RowKit

theorem pxs_row (px : Nat → Nat → Col) (W k : Nat) : ∀ x, x ≤ W → pxs px W (k * W + x) = pxs px W (k * W) ++ (List.range x).map fun a => px a k
  | 0, _ => by simp
  | x + 1, h => by
    have e : k * W + (x + 1) = k * W + x + 1 := by omega
    rw [e, pxs_succ px W k x (by omega), pxs_row px W k x (by omega), List.range_succ, List.map_append, List.append_assoc]
    rfl
theorem pxs_grid (px : Nat → Nat → Col) (W : Nat) : ∀ H, pxs px W (W * H) = (grid px W H).flatten
  | 0 => by simp [pxs, grid]
  | H + 1 => by
    have e : W * (H + 1) = H * W + W := by rw [Nat.mul_add, Nat.mul_comm]; omega
    have e2 : H * W = W * H := Nat.mul_comm _ _
    rw [e, pxs_row px W H W (Nat.le_refl _), e2, pxs_grid px W H]
    unfold grid
    rw [List.range_succ, List.map_append, List.flatten_append]
    simp
theorem pxs_congr (px qx : Nat → Nat → Col) (W H : Nat) (hW : 0 < W) (h : ∀ a b, a < W → b < H → px a b = qx a b) : pxs px W (W * H) = pxs qx W (W * H) := by
  unfold pxs
  refine List.map_congr_left fun k hk => ?_
  rw [List.mem_range] at hk
  exact h _ _ (Nat.mod_lt _ hW) (Nat.div_lt_of_lt_mul hk)

theorem pix_ok {l : List Int} (hu : U8s l) (k : Nat) : (pix l k).ok := by
  have h : ∀ i, 0 ≤ l.getD i 0 ∧ l.getD i 0 ≤ 255 := fun i => by
    rcases Nat.lt_or_ge i l.length with hlt | hge
    · have := hu l[i] (List.getElem_mem hlt)
      simpa [List.getD, hlt] using this
    · simp [List.getD, List.getElem?_eq_none hge]
  exact ⟨h _, h _, h _, h _⟩
theorem u8s_bytesL {cs : List Col} (h : ∀ c ∈ cs, c.ok) : U8s (bytesL cs) := by
  intro z hz
  simp only [bytesL, List.mem_flatMap] at hz
  obtain ⟨c, hc, hz⟩ := hz
  have hk := h c hc
  simp only [colL, List.mem_cons, List.not_mem_nil, or_false] at hz
  obtain ⟨h1, h2, h3, h4⟩ := hk
  rcases hz with rfl | rfl | rfl | rfl <;> assumption
theorem u8s_pxs {px : Nat → Nat → Col} (h : ∀ a b, (px a b).ok) (W n : Nat) : U8s (bytesL (pxs px W n)) := u8s_bytesL fun c hc => by
  unfold pxs at hc
  obtain ⟨k, _, rfl⟩ := List.mem_map.1 hc
  exact h _ _

theorem bytesL_drop (cs : List Col) : ∀ k, bytesL (cs.drop k) = (bytesL cs).drop (4 * k) := by
  induction cs with
  | nil => intro k; simp [bytesL]
  | cons c cs ih =>
    intro k
    cases k with
    | zero => simp
    | succ k =>
      have e : bytesL (c :: cs) = c.r :: c.g :: c.b :: c.a :: bytesL cs := rfl
      rw [List.drop_succ_cons, ih k, e, show 4 * (k + 1) = 4 * k + 1 + 1 + 1 + 1 from by omega]
      simp only [List.drop_succ_cons]
theorem bytesL_take (cs : List Col) : ∀ k, bytesL (cs.take k) = (bytesL cs).take (4 * k) := by
  induction cs with
  | nil => intro k; simp [bytesL]
  | cons c cs ih =>
    intro k
    cases k with
    | zero => simp [bytesL]
    | succ k =>
      have e : ∀ ds, bytesL (c :: ds) = c.r :: c.g :: c.b :: c.a :: bytesL ds := fun _ => rfl
      rw [List.take_succ_cons, e, ih k, e, show 4 * (k + 1) = 4 * k + 1 + 1 + 1 + 1 from by omega]
      simp only [List.take_succ_cons]

/-- A part of a slice of colours. -/
theorem TRow.sub {w : World} {B b off : Nat} {cs : List Col} (h : TRow w B (some ⟨b, off, none⟩) cs) (i n : Nat) : TRow w B (some ⟨b, off + i * 4, none⟩) ((cs.drop i).take n) := fun k hk => by
  have e4 : i * 4 = 4 * i := Nat.mul_comm _ _
  rw [e4]
  rw [bytesL_take, bytesL_drop] at hk ⊢
  rw [List.length_take, List.length_drop] at hk
  obtain ⟨b', off', cur, fr, hA, hb, hh, hc⟩ := h (4 * i + k) (by omega)
  injection hA with hA; injection hA with hA1 hA2
  subst hA1 hA2
  refine ⟨b, off + 4 * i, cur, fr, rfl, hb, hh, ?_⟩
  have e : (((bytesL cs).drop (4 * i)).take (4 * n)).getD k 0 = (bytesL cs).getD (4 * i + k) 0 := by
    simp only [List.getD]
    rw [List.getElem?_take, if_pos (by omega), List.getElem?_drop]
  rw [e, Nat.add_assoc]
  exact hc

theorem nat_idx (W a b : Nat) : ((b : Int) * (W : Int) + (a : Int)).toNat = b * W + a := by
  have : (b : Int) * (W : Int) + (a : Int) = ((b * W + a : Nat) : Int) := by simp
  rw [this, Int.toNat_natCast]
theorem cropPx_nat (l : List Int) (W I J a b : Nat) : pix l (((J : Int) + (b : Int)) * (W : Int) + ((I : Int) + (a : Int))).toNat = imgPx l W (I + a) (J + b) := by
  unfold imgPx
  have e : ((J : Int) + (b : Int)) * (W : Int) + ((I : Int) + (a : Int)) = (((J + b) * W + (I + a) : Nat) : Int) := by simp
  rw [e, Int.toNat_natCast]
theorem imgPx_ok {l : List Int} (hu : U8s l) (W a b : Nat) : (imgPx l W a b).ok := pix_ok hu _
theorem range_sub (f : Nat → Col) (W i n : Nat) (h : i + n ≤ W) : (((List.range W).map f).drop i).take n = (List.range n).map fun a => f (i + a) := by
  apply List.ext_getElem
  · simp; omega
  · intro k h1 h2; simp
end Go.Proofs.Ytkjnheikimpliaa
