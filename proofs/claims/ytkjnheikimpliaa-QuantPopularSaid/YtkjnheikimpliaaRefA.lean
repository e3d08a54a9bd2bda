/- The reference's Bytes: of colours. -/
import Derived.Test.YtkjnheikimpliaaOwn
import Derived.Deep.AppendLies
namespace Go.Proofs.Ytkjnheikimpliaa
set_option linter.unusedVariables false
set_option linter.unusedSimpArgs false
open Go.RowKit
attribute [local go_sem ↓] Go.wp_at_zero Go.wp_at_succ

/-- Numbers as cells of bytes. -/
def u8L (l : List Int) : List Value := l.map (Value.int .u8)
theorem u8L_one (l : List Int) : ∀ u ∈ u8L l, u.oneCell' = true := by
  intro u hu; simp [u8L] at hu; obtain ⟨z, _, rfl⟩ := hu; rfl
/-- A slice that has just been made, without an element. -/
theorem own_empty (w : World) (base : Nat) (e : TypeId) (size : Nat) (hb : base ≤ w.heap.size) (g : Nat) (hg : g = w.heap.size) : (w.alloc (.cells #[] e)).ownsRow base e size (.slice (some ⟨g, 0, none⟩) 0 0) 0 [] := by
  subst hg
  exact ⟨by simp, .inr ⟨w.heap.size, 0, #[], rfl, hb, heap_alloc_new w _, Nat.le_refl _, by simp, by simp, by simp⟩⟩
/-- What is owned reads as numbers. -/
theorem row_of_own {w : World} {base n c : Nat} {g : Nat} {l : List Int} (h : w.ownsRow base 5 1 (.slice (some ⟨g, 0, none⟩) n c) n (u8L l)) : n = l.length ∧ ImgNew w base (some ⟨g, 0, none⟩) c l := by
  obtain ⟨g', c', h1, h2⟩ := row_own h (by simp)
  injection h1 with h1 h3 h4
  injection h1 with h1; injection h1 with h1
  subst h1 h3 h4
  exact ⟨rfl, h2⟩

theorem pix_bytesL : ∀ (cs : List Col) (k : Nat) (c : Col), cs[k]? = some c → pix (bytesL cs) k = c
  | [], k, c, h => by simp at h
  | d :: cs, 0, c, h => by
    simp at h; subst h; rfl
  | d :: cs, k + 1, c, h => by
    rw [← pix_bytesL cs k c (by simpa using h)]
    have e : bytesL (d :: cs) = d.r :: d.g :: d.b :: d.a :: bytesL cs := rfl
    unfold pix
    rw [e, show 4 * (k + 1) = 4 * k + 1 + 1 + 1 + 1 from by omega]
    rfl
/-- Four cells of a colour in a slice of colours. -/
theorem colAt {w : World} {B : Nat} {A : Option Addr} {cs : List Col} (hr : RowAt w B .u8 A (bytesL cs)) (k : Nat) (hk : k < cs.length) (c : Col) (hc : cs[k]? = some c) :
    ∃ b off : Nat, A = some ⟨b, off, none⟩ ∧ b < B ∧ w.cell? ⟨b, off + k * 4, none⟩ = some (.int .u8 c.r) ∧ w.cell? ⟨b, off + k * 4 + 1, none⟩ = some (.int .u8 c.g) ∧
      w.cell? ⟨b, off + k * 4 + 2, none⟩ = some (.int .u8 c.b) ∧ w.cell? ⟨b, off + k * 4 + 3, none⟩ = some (.int .u8 c.a) := by
  have hl := bytesL_len cs
  have hp : pix (bytesL cs) k = c := pix_bytesL cs k c hc
  obtain ⟨b, off, rfl, hb, q, hq, c0, c1, c2, c3⟩ := four hr k (by omega)
  rw [hp] at c0 c1 c2 c3
  subst hq
  have e4 : 4 * k = k * 4 := Nat.mul_comm _ _
  rw [e4] at c0 c1 c2 c3
  exact ⟨b, off, rfl, hb, c0, by rw [Nat.add_assoc]; exact c1, by rw [Nat.add_assoc]; exact c2, by rw [Nat.add_assoc]; exact c3⟩

theorem bytesL_take_succ (cs : List Col) (k : Nat) (c : Col) (h : cs[k]? = some c) : bytesL (cs.take (k + 1)) = bytesL (cs.take k) ++ [c.r, c.g, c.b, c.a] := by
  obtain ⟨h1, h2⟩ := List.getElem?_eq_some_iff.1 h
  rw [List.take_succ_eq_append_getElem h1, h2, bytesL_snoc]
theorem u8L_append (l : List Int) (a b c d : Int) : u8L (l ++ [a, b, c, d]) = u8L l ++ [.int .u8 a, .int .u8 b, .int .u8 c, .int .u8 d] := by simp [u8L]
theorem keep4 {wr w1 : World} {o : Obj} {row : Option Nat} {b p0 p1 p2 p3 : Nat} {v0 v1 v2 v3 : Value} (hg : (wr.alloc o).drew.grownBy w1 row) (hb : b < wr.heap.size) (hne : some b ≠ row)
    (c0 : wr.cell? ⟨b, p0, none⟩ = some v0) (c1 : wr.cell? ⟨b, p1, none⟩ = some v1) (c2 : wr.cell? ⟨b, p2, none⟩ = some v2) (c3 : wr.cell? ⟨b, p3, none⟩ = some v3) :
    w1.cell? ⟨b, p0, none⟩ = some v0 ∧ w1.cell? ⟨b, p1, none⟩ = some v1 ∧ w1.cell? ⟨b, p2, none⟩ = some v2 ∧ w1.cell? ⟨b, p3, none⟩ = some v3 := by
  have h : ∀ p, w1.cell? ⟨b, p, none⟩ = wr.cell? ⟨b, p, none⟩ := fun p => World.cell?_of_block (a := ⟨b, p, none⟩) ((hg.block b (Nat.lt_of_lt_of_le hb (below_alloc wr o).size) hne).trans (Below.heap_alloc wr o b hb))
  exact ⟨(h _).trans c0, (h _).trans c1, (h _).trans c2, (h _).trans c3⟩
theorem own_ge {w : World} {base n c sz m : Nat} {e : TypeId} {g : Nat} {xs : List Value} (h : w.ownsRow base e sz (.slice (some ⟨g, 0, none⟩) n c) m xs) : base ≤ g := by
  obtain ⟨_, h2⟩ := h
  rcases h2 with ⟨h2, _⟩ | ⟨g', cap, cur, hv, hb, hh, _⟩
  · cases h2
  · injection hv with hv; injection hv with hv; injection hv with hv
    omega

set_option maxRecDepth 100000 in
set_option maxHeartbeats 2000000 in
theorem bytes_any (A : Option Addr) (cs : List Col) (cap : Nat) (w : World) (hr : RowAt w w.heap.size .u8 A (bytesL cs)) (hm : cs.length ≤ 1073741824) :
    Calls Try.prog 84 #[.slice A cs.length cap] w fun e w' => e = .returned (.string (strOfNums (bytesL cs))) ∧ Below w.heap.size w w' := by
  obtain ⟨i0, hi, hz0, hz1, hz2⟩ := info_parts u8_info
  have HR := hide hr
  clear hr
  have h0 := hide (own_empty w w.heap.size 5 1 (Nat.le_refl _) w.heap.size rfl)
  go_enter Try.func84, Try.ntmps84
  go_wp2
  go_loopw [4, 3] (fun i v wr => ∃ k g c : Nat, k ≤ cs.length ∧ i = .int .i64 k ∧ v = .slice (some ⟨g, 0, none⟩) (4 * k) c ∧ wr.ownsRow w.heap.size 5 1 (.slice (some ⟨g, 0, none⟩) (4 * k) c) (4 * k) (u8L (bytesL (cs.take k))) ∧ Below w.heap.size w wr ∧ g < wr.heap.size) (fun i _ _ => cs.length - (intOf i).toNat)
  case atStart => exact ⟨0, w.heap.size, 0, Nat.zero_le _, rfl, rfl, h0.out, below_alloc w _, by simp⟩
  case round =>
    obtain ⟨k, g, c, hk, rfl, rfl, hown, hb, hg⟩ := hrel
    by_cases hlt : k < cs.length
    · obtain ⟨x, hx⟩ : ∃ x, cs[k]? = some x := ⟨_, List.getElem?_eq_getElem hlt⟩
      obtain ⟨b, off, rfl, hbl, c0, c1, c2, c3⟩ := colAt (HR.out.below hb (Nat.le_refl _)) k hlt x hx
      have HX := hide hx
      have HO := hide hown
      have HB := hide hb
      clear hx hown hb
      have hki : (0 : Int) ≤ (k : Int) := by omega
      have hkl : (k : Int) < (cs.length : Int) := by omega
      have hz := HB.out.size
      have hgb := own_ge HO.out
      go_wp2
      go_region_held3 (fun w' => w'.cell? ⟨b, off + k * 4, none⟩ = some (.int .u8 x.r) ∧ w'.cell? ⟨b, off + k * 4 + 1, none⟩ = some (.int .u8 x.g) ∧ w'.cell? ⟨b, off + k * 4 + 2, none⟩ = some (.int .u8 x.b) ∧ w'.cell? ⟨b, off + k * 4 + 3, none⟩ = some (.int .u8 x.a)) (go_keep) ((refine step_append_lies _ (by rfl) _ _ _ (by rfl) w.heap.size 5 i0 _ 1 1 Try.underlying32 hi hz0 hz1 hz2 rfl (by omega) (.slice (some ⟨g, 0, none⟩) (4 * k) c) (4 * k) (u8L (bytesL (cs.take k))) (by rfl) ((HO.out.alloc _).drew) ⟨wr.heap.size, 0, none⟩ 4 4 [.int .u8 x.r, .int .u8 x.g, .int .u8 x.b, .int .u8 x.a] (by rfl) (by rfl) (World.news_of_block (heap_alloc_new wr _)) (u8L_one [x.r, x.g, x.b, x.a]) (by omega) (by unfold maxLen; omega) (by omega) (by simp; omega) (wr.heap.size + 1) (by simp) ?_; intro g' c' w1 hown1 hg1 hat1 hlt1; obtain ⟨e0, e1, e2, e3⟩ := keep4 hg1 (by omega) (by simp [Value.ownBlock]; omega) c0 c1 c2 c3))
      have HB2 := hide ((((HB.out.alloc hz _).drew).grown hg1 (by show _ ≤ (wr.alloc _).heap.size; simp only [World.size_alloc]; omega) (fun q hq => by simp [Value.ownBlock] at hq; omega)))
      have HO2 := hide hown1
      clear hown1 hg1 hat1 e0 e1 e2 e3
      go_wp2
      go_roundw
      case rel => exact ⟨k + 1, g', c', by omega, by go_num, rfl, by rw [bytesL_take_succ cs k x HX.out, u8L_append]; exact HO2.out, HB2.out, hlt1⟩
      case measure => simp [intOf]; omega
    · have hkl : k = cs.length := by omega
      obtain ⟨e, hi⟩ := row_of_own hown
      have kc : (convert 32 9 (.slice (some ⟨g, 0, none⟩) (4 * k) c)).run Try.prog wr = .ok (.string (strOfNums (bytesL cs))) wr := by
        have := conv_row c hi.row
        rw [← e, List.take_of_length_le (by omega)] at this
        exact this
      clear hown e hi hkl
      go_wp2
      go_ret
      exact ⟨rfl, hb⟩
end Go.Proofs.Ytkjnheikimpliaa
