/- A stable sort by exchanges: the plain law, and slices.stableCmpFunc with all that it calls, walked over any program that bears their bodies. -/
import Derived.Sort.LotA
import Derived.Test.YtkjnheikimpliaaBase
import Derived.Shelf.SlSortCmp.KitK
import Derived.Sort.WalkB2
import Derived.Sort.WalkB12
import Derived.Deep.LoopGhost
namespace Go.Proofs.Ytkjnheikimpliaa
/-! The plain law of a stable sort by exchanges: runs exchanged, rotated, merged. No program here. -/
section
set_option linter.unusedVariables false
set_option linter.unusedSimpArgs false
open Go.Sort
variable {β : Type}
/-- What each place holds behind two runs changed about. -/
def swF (f : Nat → β) (a b k : Nat) : Nat → β := fun i => if a ≤ i ∧ i < a + k then f (b + (i - a)) else if b ≤ i ∧ i < b + k then f (a + (i - b)) else f i
/-- What each place holds behind a rotation: the run [m, b) comes ahead of the run [a, m). -/
def rotF (f : Nat → β) (a m b : Nat) : Nat → β := fun i => if a ≤ i ∧ i < a + (b - m) then f (i + (m - a)) else if a + (b - m) ≤ i ∧ i < b then f (i - (b - m)) else f i
theorem rotF_end (f : Nat → β) (m k : Nat) (hk : k ≤ m) : rotF f (m - k) m (m + k) = swF f (m - k) m k := by
  funext x
  unfold rotF swF
  by_cases h1 : m - k ≤ x ∧ x < m - k + k
  · rw [if_pos (by omega), if_pos h1]; congr 1; omega
  · rw [if_neg (by omega), if_neg h1]
    by_cases h2 : m ≤ x ∧ x < m + k
    · rw [if_pos (by omega), if_pos h2]; congr 1; omega
    · rw [if_neg (by omega), if_neg h2]
theorem rotF_left (f : Nat → β) (m i j : Nat) (hi : i ≤ m) (hij : j < i) : rotF (swF f (m - i) m j) (m - (i - j)) m (m + j) = rotF f (m - i) m (m + j) := by
  funext x
  unfold rotF swF
  by_cases h0 : m - i ≤ x ∧ x < m - i + j
  · rw [if_neg (by omega), if_neg (by omega), if_pos h0, if_pos (by omega)]; congr 1; omega
  · by_cases h1 : m - (i - j) ≤ x ∧ x < m - (i - j) + (m + j - m)
    · rw [if_pos h1]
      by_cases h2 : x + (m - (m - (i - j))) < m
      · rw [if_neg (by omega), if_neg (by omega), if_neg (by omega), if_pos (by omega)]; congr 1; omega
      · rw [if_neg (by omega), if_pos (by omega), if_neg (by omega), if_pos (by omega)]; congr 1; omega
    · rw [if_neg h1]
      by_cases h3 : m - (i - j) + (m + j - m) ≤ x ∧ x < m + j
      · rw [if_pos h3, if_neg (show ¬(m - i ≤ x ∧ x < m - i + (m + j - m)) by omega), if_pos (show m - i + (m + j - m) ≤ x ∧ x < m + j by omega)]
        rw [if_neg (by omega), if_neg (by omega)]
      · rw [if_neg h3]
        by_cases h4 : m - i ≤ x ∧ x < m + j
        · omega
        · rw [if_neg (by omega), if_neg (by omega), if_neg (by omega), if_neg (by omega)]
theorem rotF_right (f : Nat → β) (m i j : Nat) (hi : i ≤ m) (hij : i ≤ j) : rotF (swF f (m - i) (m + j - i) i) (m - i) m (m + (j - i)) = rotF f (m - i) m (m + j) := by
  funext x
  unfold rotF swF
  by_cases h0 : m + j - i ≤ x ∧ x < m + j
  · rw [if_neg (by omega), if_neg (by omega), if_neg (by omega), if_pos (by omega), if_neg (by omega), if_pos (by omega)]; congr 1; omega
  · by_cases h1 : m - i ≤ x ∧ x < m - i + (m + (j - i) - m)
    · rw [if_pos h1]
      rw [if_neg (by omega), if_neg (by omega), if_pos (by omega)]
    · rw [if_neg h1]
      by_cases h2 : m - i + (m + (j - i) - m) ≤ x ∧ x < m + (j - i)
      · rw [if_pos h2, if_pos (by omega), if_pos (by omega)]; congr 1; omega
      · rw [if_neg h2, if_neg (by omega), if_neg (by omega), if_neg (by omega), if_neg (by omega)]

variable {α : Type} [Inhabited α]

/-- Ascending by a key. -/
def KS (K : α → Nat) (a b : Nat) (d : Array α) : Prop := ∀ i j, a ≤ i → i < j → j < b → K d[i]! ≤ K d[j]!
/-- Where x stands ahead of y, the comparison of y with x tells what the keys tell. -/
def Crs (cf : α → α → Int) (K : α → Nat) (x y : α) : Prop := cf y x < 0 ↔ K y < K x

/-- Two runs of k places changed about. -/
def swapRunA (d : Array α) (a b : Nat) : Nat → Array α
  | 0 => d
  | k + 1 => swp (swapRunA d a b k) (a + k) (b + k)
theorem swapRunA_size (d : Array α) (a b : Nat) : ∀ k, (swapRunA d a b k).size = d.size
  | 0 => rfl
  | k + 1 => by rw [swapRunA, size_swp, swapRunA_size d a b k]
theorem swapRunA_perm (d : Array α) (a b lo hi : Nat) (hlo : lo ≤ a) (hhi : hi ≤ d.size) (hlb : lo ≤ b) : ∀ k, a + k ≤ hi → b + k ≤ hi → PermIn lo hi d (swapRunA d a b k)
  | 0, _, _ => permIn_refl _ _ _
  | k + 1, h1, h2 => permIn_trans _ _ _ _ _ (swapRunA_perm d a b lo hi hlo hhi hlb k (by omega) (by omega)) (swp_permIn _ _ _ _ _ (by omega) (by omega) (by omega) (by omega) (by rw [swapRunA_size]; exact hhi))
theorem swapRunA_get (d : Array α) (a b : Nat) : ∀ k, (a + k ≤ b ∨ b + k ≤ a) → a + k ≤ d.size → b + k ≤ d.size → ∀ x, (swapRunA d a b k)[x]! = swF (fun i => d[i]!) a b k x
  | 0, _, _, _, x => by
    unfold swF
    rw [if_neg (by omega), if_neg (by omega)]; rfl
  | k + 1, h, ha, hb, x => by
    have ih := swapRunA_get d a b k (by omega) (by omega) (by omega)
    rw [swapRunA, swp_get _ (by rw [swapRunA_size]; omega) (by rw [swapRunA_size]; omega), ih, ih, ih]
    unfold swF
    by_cases h1 : x = b + k
    · subst h1
      rw [if_pos rfl, if_neg (by omega), if_neg (by omega), if_neg (by omega), if_pos (by omega)]
      congr 1; omega
    · rw [if_neg h1]
      by_cases h2 : x = a + k
      · subst h2
        rw [if_pos rfl, if_neg (by omega), if_neg (by omega), if_pos (by omega)]
        congr 1; omega
      · rw [if_neg h2]
        by_cases h3 : a ≤ x ∧ x < a + k
        · rw [if_pos h3, if_pos (by omega)]
        · rw [if_neg h3, if_neg (show ¬(a ≤ x ∧ x < a + (k + 1)) by omega)]
          by_cases h4 : b ≤ x ∧ x < b + k
          · rw [if_pos h4, if_pos (by omega)]
          · rw [if_neg h4, if_neg (by omega)]

/-- A place in a range that is a permutation holds what a place of the range held. -/
theorem perm_from {a b : Nat} {d d' : Array α} (h : PermIn a b d d') (hb : b ≤ d.size) : ∀ i, a ≤ i → i < b → ∃ k, a ≤ k ∧ k < b ∧ d'[i]! = d[k]! := by
  intro i h1 h2
  exact permIn_all d d' a b (fun x => ∃ k, a ≤ k ∧ k < b ∧ x = d[k]!) hb h (fun k hk1 hk2 => ⟨k, hk1, hk2, rfl⟩) i h1 h2

/-! ### A merge -/
/-- What a merge of [a, m) and [m, b) is given. -/
structure MPre (cf : α → α → Int) (K : α → Nat) (a m b : Nat) (d : Array α) : Prop where
  left : KS K a m d
  right : KS K m b d
  crs : ∀ i j, a ≤ i → i < m → m ≤ j → j < b → Crs cf K d[i]! d[j]!
/-- What a merge hands back. -/
structure MPost (K : α → Nat) (a b : Nat) (d d' : Array α) : Prop where
  perm : PermIn a b d d'
  srt : KS K a b d'

/-- The place a moved up by k places. -/
def mvU (d : Array α) (a : Nat) : Nat → Array α
  | 0 => d
  | k + 1 => swp (mvU d a k) (a + k) (a + k + 1)
theorem mvU_size (d : Array α) (a : Nat) : ∀ k, (mvU d a k).size = d.size
  | 0 => rfl
  | k + 1 => by rw [mvU, size_swp, mvU_size d a k]
theorem mvU_perm (d : Array α) (a b : Nat) (hb : b ≤ d.size) : ∀ k, a + k < b → PermIn a b d (mvU d a k)
  | 0, _ => permIn_refl _ _ _
  | k + 1, h => permIn_trans _ _ _ _ _ (mvU_perm d a b hb k (by omega)) (swp_permIn _ _ _ _ _ (by omega) (by omega) (by omega) (by omega) (by rw [mvU_size]; exact hb))
theorem mvU_get (d : Array α) (a : Nat) : ∀ k, a + k < d.size → ∀ x, (mvU d a k)[x]! = if a ≤ x ∧ x < a + k then d[x + 1]! else if x = a + k then d[a]! else d[x]!
  | 0, _, x => by
    rw [if_neg (by omega)]
    by_cases h : x = a + 0
    · rw [if_pos h, h]; rfl
    · rw [if_neg h]; rfl
  | k + 1, h, x => by
    have ih := mvU_get d a k (by omega)
    rw [mvU, swp_get _ (by rw [mvU_size]; omega) (by rw [mvU_size]; omega), ih, ih, ih]
    by_cases h1 : x = a + k + 1
    · rw [if_pos h1, if_neg (by omega), if_pos rfl, if_neg (by omega), if_pos (by omega)]
    · rw [if_neg h1]
      by_cases h2 : x = a + k
      · rw [if_pos h2, if_neg (by omega), if_neg (by omega), if_pos (by omega), h2]
      · rw [if_neg h2]
        by_cases h3 : a ≤ x ∧ x < a + k
        · rw [if_pos h3, if_pos (by omega)]
        · rw [if_neg h3, if_neg h2, if_neg (by omega), if_neg (by omega)]
/-- The place m moved down by k places. -/
def mvD (d : Array α) (m : Nat) : Nat → Array α
  | 0 => d
  | k + 1 => swp (mvD d m k) (m - k) (m - k - 1)
theorem mvD_size (d : Array α) (m : Nat) : ∀ k, (mvD d m k).size = d.size
  | 0 => rfl
  | k + 1 => by rw [mvD, size_swp, mvD_size d m k]
theorem mvD_perm (d : Array α) (m a b : Nat) (hm : m < b) (hb : b ≤ d.size) : ∀ k, a + k ≤ m → PermIn a b d (mvD d m k)
  | 0, _ => permIn_refl _ _ _
  | k + 1, h => permIn_trans _ _ _ _ _ (mvD_perm d m a b hm hb k (by omega)) (swp_permIn _ _ _ _ _ (by omega) (by omega) (by omega) (by omega) (by rw [mvD_size]; exact hb))
theorem mvD_get (d : Array α) (m : Nat) (hm : m < d.size) : ∀ k, k ≤ m → ∀ x, (mvD d m k)[x]! = if m - k < x ∧ x ≤ m then d[x - 1]! else if x = m - k then d[m]! else d[x]!
  | 0, _, x => by
    rw [if_neg (by omega)]
    by_cases h : x = m - 0
    · rw [if_pos h, h]; rfl
    · rw [if_neg h]; rfl
  | k + 1, h, x => by
    have ih := mvD_get d m hm k (by omega)
    rw [mvD, swp_get _ (by rw [mvD_size]; omega) (by rw [mvD_size]; omega), ih, ih, ih]
    by_cases h1 : x = m - k - 1
    · rw [if_pos h1, if_neg (by omega), if_pos rfl, if_neg (by omega), if_pos (by omega)]
    · rw [if_neg h1]
      by_cases h2 : x = m - k
      · rw [if_pos h2, if_neg (by omega), if_neg (by omega), if_pos (by omega), h2]
      · rw [if_neg h2]
        by_cases h3 : m - k < x ∧ x ≤ m
        · rw [if_pos h3, if_pos (by omega)]
        · rw [if_neg h3, if_neg h2, if_neg (by omega), if_neg (by omega)]

variable {cf : α → α → Int} {K : α → Nat}
/-- A search by halves has ended at i: p holds below, not from there on. -/
structure Cut (p : Nat → Prop) (lo hi i : Nat) : Prop where
  ge : lo ≤ i
  le : i ≤ hi
  yes : ∀ h, lo ≤ h → h < i → p h
  no : ∀ h, i ≤ h → h < hi → ¬ p h
/-- p holds below some place, and not from there on. -/
def Down (p : Nat → Prop) (lo hi : Nat) : Prop := ∀ h h', lo ≤ h → h ≤ h' → h' < hi → p h' → p h

theorem down1 {a b : Nat} {d : Array α} (h : MPre cf K a (a + 1) b d) : Down (fun h => cf d[h]! d[a]! < 0) (a + 1) b := fun p q h1 h2 h3 hq => by
  have c1 := (h.crs a q (Nat.le_refl _) (by omega) (by omega) h3).1 hq
  refine (h.crs a p (Nat.le_refl _) (by omega) (by omega) (by omega)).2 ?_
  rcases Nat.lt_or_ge p q with h4 | h4
  · exact Nat.lt_of_le_of_lt (h.right p q h1 h4 h3) c1
  · rw [show p = q by omega]; exact c1
theorem merge1 {a b i : Nat} {d : Array α} (h : MPre cf K a (a + 1) b d) (hb : b ≤ d.size) (hab : a + 1 ≤ b) (hi : Cut (fun h => cf d[h]! d[a]! < 0) (a + 1) b i) : MPost K a b d (mvU d a (i - 1 - a)) := by
  have g := hi.ge
  have l := hi.le
  refine ⟨mvU_perm d a b hb _ (by omega), fun x y h1 h2 h3 => ?_⟩
  rw [mvU_get d a _ (by omega), mvU_get d a _ (by omega)]
  by_cases hx : a ≤ x ∧ x < a + (i - 1 - a)
  · rw [if_pos hx]
    by_cases hy : a ≤ y ∧ y < a + (i - 1 - a)
    · rw [if_pos hy]; exact h.right _ _ (by omega) (by omega) (by omega)
    · rw [if_neg hy]
      by_cases hy2 : y = a + (i - 1 - a)
      · rw [if_pos hy2]
        exact Nat.le_of_lt ((h.crs a (x + 1) (Nat.le_refl _) (by omega) (by omega) (by omega)).1 (hi.yes (x + 1) (by omega) (by omega)))
      · rw [if_neg hy2]; exact h.right _ _ (by omega) (by omega) (by omega)
  · rw [if_neg hx, if_neg (show ¬(a ≤ y ∧ y < a + (i - 1 - a)) by omega), if_neg (show ¬ y = a + (i - 1 - a) by omega)]
    by_cases hx2 : x = a + (i - 1 - a)
    · rw [if_pos hx2]
      have := hi.no y (by omega) h3
      exact Nat.le_of_not_lt fun hlt => this ((h.crs a y (Nat.le_refl _) (by omega) (by omega) (by omega)).2 hlt)
    · rw [if_neg hx2]; exact h.right _ _ (by omega) (by omega) (by omega)

theorem down2 {a m : Nat} {d : Array α} (h : MPre cf K a m (m + 1) d) : Down (fun h => ¬ cf d[m]! d[h]! < 0) a m := fun p q h1 h2 h3 hq hp => by
  have c1 := (h.crs p m h1 (by omega) (Nat.le_refl _) (by omega)).1 hp
  refine hq ((h.crs q m (by omega) (by omega) (Nat.le_refl _) (by omega)).2 ?_)
  rcases Nat.lt_or_ge p q with h4 | h4
  · exact Nat.lt_of_lt_of_le c1 (h.left p q h1 h4 h3)
  · rw [show q = p by omega]; exact c1
theorem merge2 {a m i : Nat} {d : Array α} (h : MPre cf K a m (m + 1) d) (hb : m + 1 ≤ d.size) (ham : a ≤ m) (hi : Cut (fun h => ¬ cf d[m]! d[h]! < 0) a m i) : MPost K a (m + 1) d (mvD d m (m - i)) := by
  have g := hi.ge
  have l := hi.le
  refine ⟨mvD_perm d m a (m + 1) (by omega) hb _ (by omega), fun x y h1 h2 h3 => ?_⟩
  rw [mvD_get d m (by omega) _ (by omega), mvD_get d m (by omega) _ (by omega)]
  by_cases hx : m - (m - i) < x ∧ x ≤ m
  · rw [if_pos hx, if_pos (by omega)]
    exact h.left _ _ (by omega) (by omega) (by omega)
  · rw [if_neg hx]
    by_cases hx2 : x = m - (m - i)
    · rw [if_pos hx2, if_pos (by omega)]
      have := hi.no (y - 1) (by omega) (by omega)
      have c := (h.crs (y - 1) m (by omega) (by omega) (Nat.le_refl _) (by omega)).1 (Classical.not_not.1 this)
      exact Nat.le_of_lt c
    · rw [if_neg hx2]
      by_cases hy : m - (m - i) < y ∧ y ≤ m
      · rw [if_pos hy]; exact h.left _ _ (by omega) (by omega) (by omega)
      · rw [if_neg hy]
        by_cases hy2 : y = m - (m - i)
        · rw [if_pos hy2]
          have := hi.yes x (by omega) (by omega)
          exact Nat.le_of_not_lt fun hlt => this ((h.crs x m (by omega) (by omega) (Nat.le_refl _) (by omega)).2 hlt)
        · rw [if_neg hy2]; exact h.left _ _ (by omega) (by omega) (by omega)

/-- Where the search by halves of a merge begins, and where it ends at most. -/
def sLo (a m b : Nat) : Nat := if m > (a + b) / 2 then (a + b) / 2 + m - b else a
def sHi (a m b : Nat) : Nat := if m > (a + b) / 2 then (a + b) / 2 else m
theorem sLo_ge (a m b : Nat) (h1 : a < m) (h2 : m < b) : a ≤ sLo a m b := by unfold sLo; split <;> omega
theorem sHi_le (a m b : Nat) : sHi a m b ≤ m ∧ sHi a m b ≤ (a + b) / 2 := by unfold sHi; split <;> omega
theorem sLo_le (a m b : Nat) (h1 : a < m) (h2 : m < b) : sLo a m b ≤ sHi a m b := by unfold sLo sHi; split <;> omega
theorem sMir (a m b c : Nat) (h1 : a < m) (h2 : m < b) (hc : sLo a m b ≤ c) (hd : c < sHi a m b) : m ≤ (a + b) / 2 + m - 1 - c ∧ (a + b) / 2 + m - 1 - c < b := by
  unfold sLo at hc; unfold sHi at hd
  split at hc <;> simp_all <;> omega
theorem down3 {a m b : Nat} {d : Array α} (h : MPre cf K a m b d) (h1 : a < m) (h2 : m < b) : Down (fun c => ¬ cf d[(a + b) / 2 + m - 1 - c]! d[c]! < 0) (sLo a m b) (sHi a m b) := fun p q k1 k2 k3 hq hp => by
  have g := sLo_ge a m b h1 h2
  have l := sHi_le a m b
  have mp := sMir a m b p h1 h2 k1 (by omega)
  have mq := sMir a m b q h1 h2 (by omega) k3
  have c1 := (h.crs p _ (by omega) (by omega) mp.1 mp.2).1 hp
  refine hq ((h.crs q _ (by omega) (by omega) mq.1 mq.2).2 ?_)
  rcases Nat.lt_or_ge p q with h4 | h4
  · have e1 := h.right _ _ mq.1 (show (a + b) / 2 + m - 1 - q < (a + b) / 2 + m - 1 - p by omega) mp.2
    have e2 := h.left p q (by omega) h4 (by omega)
    omega
  · rw [show q = p by omega]; exact c1
theorem sEnd (a m b s : Nat) (h1 : a < m) (h2 : m < b) (hs : sLo a m b ≤ s) (hd : s ≤ sHi a m b) : a ≤ s ∧ s ≤ m ∧ s ≤ (a + b) / 2 ∧ m ≤ (a + b) / 2 + m - s ∧ (a + b) / 2 ≤ (a + b) / 2 + m - s ∧ (a + b) / 2 + m - s ≤ b := by
  unfold sLo at hs; unfold sHi at hd
  split at hs <;> simp_all <;> omega

/-- What the halves are, behind the rotation. -/
theorem halves {a m b s : Nat} {d d1 : Array α} (h : MPre cf K a m b d) (h1 : a < m) (h2 : m < b) (hs : Cut (fun c => ¬ cf d[(a + b) / 2 + m - 1 - c]! d[c]! < 0) (sLo a m b) (sHi a m b) s)
    (hd : ∀ x, d1[x]! = rotF (fun i => d[i]!) s m ((a + b) / 2 + m - s) x) :
    MPre cf K a s ((a + b) / 2) d1 ∧ MPre cf K ((a + b) / 2) ((a + b) / 2 + m - s) b d1 ∧ ∀ i j, a ≤ i → i < (a + b) / 2 → (a + b) / 2 ≤ j → j < b → K d1[i]! ≤ K d1[j]! := by
  obtain ⟨e1, e2, e3, e4, e5, e6⟩ := sEnd a m b s h1 h2 hs.ge hs.le
  -- what each place holds
  have A1 : ∀ i, i < s → d1[i]! = d[i]! := fun i hi => by
    rw [hd]; unfold rotF; rw [if_neg (by omega), if_neg (by omega)]
  have A2 : ∀ i, s ≤ i → i < (a + b) / 2 → d1[i]! = d[i + (m - s)]! := fun i hi hj => by
    rw [hd]; unfold rotF; rw [if_pos (by omega)]
  have A3 : ∀ i, (a + b) / 2 ≤ i → i < (a + b) / 2 + m - s → d1[i]! = d[i - ((a + b) / 2 - s)]! := fun i hi hj => by
    rw [hd]; unfold rotF; rw [if_neg (by omega), if_pos (by omega), show (a + b) / 2 + m - s - m = (a + b) / 2 - s by omega]
  have A4 : ∀ i, (a + b) / 2 + m - s ≤ i → d1[i]! = d[i]! := fun i hi => by
    rw [hd]; unfold rotF; rw [if_neg (by omega), if_neg (by omega)]
  -- the search's end
  have gl := sLo_ge a m b h1 h2
  have gh := sHi_le a m b
  have L : s < sHi a m b → K d[(a + b) / 2 + m - s - 1]! < K d[s]! := fun hlt => by
    have hn := hs.no s (Nat.le_refl _) hlt
    have mi := sMir a m b s h1 h2 hs.ge hlt
    have := (h.crs s _ (by omega) (by omega) mi.1 mi.2).1 (Classical.not_not.1 hn)
    rwa [show (a + b) / 2 + m - 1 - s = (a + b) / 2 + m - s - 1 by omega] at this
  have R : sLo a m b < s → K d[s - 1]! ≤ K d[(a + b) / 2 + m - s]! := fun hlt => by
    have hn := hs.yes (s - 1) (by omega) (by omega)
    have mi := sMir a m b (s - 1) h1 h2 (by omega) (by have := hs.le; omega)
    have e : (a + b) / 2 + m - 1 - (s - 1) = (a + b) / 2 + m - s := by omega
    rw [e] at hn mi
    exact Nat.le_of_not_lt fun hk => hn ((h.crs (s - 1) _ (by omega) (by omega) mi.1 mi.2).2 hk)
  -- the left run's places against the right run's
  have X1 : ∀ i j, a ≤ i → i < s → (a + b) / 2 + m - s ≤ j → j < b → K d[i]! ≤ K d[j]! := fun i j i1 i2 j1 j2 => by
    have hlt : sLo a m b < s := by
      rcases Nat.lt_or_ge (sLo a m b) s with q | q
      · exact q
      · exfalso
        have e : s = sLo a m b := Nat.le_antisymm q hs.ge
        unfold sLo at e
        split at e <;> omega
    have r := R hlt
    have k1 : K d[i]! ≤ K d[s - 1]! := by
      rcases Nat.lt_or_ge i (s - 1) with q | q
      · exact h.left _ _ i1 q (by omega)
      · rw [show i = s - 1 by omega]; exact Nat.le_refl _
    have k2 : K d[(a + b) / 2 + m - s]! ≤ K d[j]! := by
      rcases Nat.lt_or_ge ((a + b) / 2 + m - s) j with q | q
      · exact h.right _ _ (by omega) q j2
      · rw [show j = (a + b) / 2 + m - s by omega]; exact Nat.le_refl _
    omega
  have X2 : ∀ i j, m ≤ i → i < (a + b) / 2 + m - s → s ≤ j → j < m → K d[i]! ≤ K d[j]! := fun i j i1 i2 j1 j2 => by
    have hlt : s < sHi a m b := by
      rcases Nat.lt_or_ge s (sHi a m b) with q | q
      · exact q
      · exfalso
        have e : s = sHi a m b := Nat.le_antisymm hs.le q
        unfold sHi at e
        split at e <;> omega
    have r := L hlt
    have k1 : K d[i]! ≤ K d[(a + b) / 2 + m - s - 1]! := by
      rcases Nat.lt_or_ge i ((a + b) / 2 + m - s - 1) with q | q
      · exact h.right _ _ i1 q (by omega)
      · rw [show i = (a + b) / 2 + m - s - 1 by omega]; exact Nat.le_refl _
    have k2 : K d[s]! ≤ K d[j]! := by
      rcases Nat.lt_or_ge s j with q | q
      · exact h.left _ _ e1 q j2
      · rw [show j = s by omega]; exact Nat.le_refl _
    omega
  refine ⟨⟨fun i j k1 k2 k3 => ?_, fun i j k1 k2 k3 => ?_, fun i j k1 k2 k3 k4 => ?_⟩, ⟨fun i j k1 k2 k3 => ?_, fun i j k1 k2 k3 => ?_, fun i j k1 k2 k3 k4 => ?_⟩, fun i j k1 k2 k3 k4 => ?_⟩
  · rw [A1 i (by omega), A1 j k3]; exact h.left _ _ k1 k2 (by omega)
  · rw [A2 i k1 (by omega), A2 j (by omega) k3]; exact h.right _ _ (by omega) (by omega) (by omega)
  · rw [A1 i k2, A2 j k3 k4]; exact h.crs _ _ k1 (by omega) (by omega) (by omega)
  · rw [A3 i k1 (by omega), A3 j (by omega) k3]; exact h.left _ _ (by omega) (by omega) (by omega)
  · rw [A4 i k1, A4 j (by omega)]; exact h.right _ _ (by omega) k2 k3
  · rw [A3 i k1 k2, A4 j k3]; exact h.crs _ _ (by omega) (by omega) (by omega) k4
  · by_cases i1 : i < s
    · rw [A1 i i1]
      by_cases j1 : j < (a + b) / 2 + m - s
      · rw [A3 j k3 j1]
        exact h.left _ _ k1 (by omega) (by omega)
      · rw [A4 j (by omega)]
        exact X1 i j k1 i1 (by omega) k4
    · rw [A2 i (by omega) k2]
      by_cases j1 : j < (a + b) / 2 + m - s
      · rw [A3 j k3 j1]
        exact X2 _ _ (by omega) (by omega) (by omega) (by omega)
      · rw [A4 j (by omega)]
        exact h.right _ _ (by omega) (by omega) k4

/-- One of the two runs is empty. -/
theorem MPost.left {a m b : Nat} {d : Array α} (h : MPre cf K a m b d) (he : m ≤ a ∨ b ≤ m) : MPost K a b d d := by
  refine ⟨permIn_refl _ _ _, ?_⟩
  rcases he with he | he
  · intro i j h1 h2 h3; exact h.right i j (by omega) h2 h3
  · intro i j h1 h2 h3; exact h.left i j h1 h2 (by omega)
theorem MPre.congr {a m b : Nat} {d d' : Array α} (h : MPre cf K a m b d) (he : ∀ x, a ≤ x → x < b → d'[x]! = d[x]!) (hmb : m ≤ b) (ham : a ≤ m) : MPre cf K a m b d' := by
  refine ⟨fun i j h1 h2 h3 => ?_, fun i j h1 h2 h3 => ?_, fun i j h1 h2 h3 h4 => ?_⟩
  · rw [he i h1 (by omega), he j (by omega) (by omega)]; exact h.left i j h1 h2 h3
  · rw [he i (by omega) (by omega), he j (by omega) h3]; exact h.right i j h1 h2 h3
  · rw [he i h1 (by omega), he j (by omega) h4]; exact h.crs i j h1 h2 h3 h4
/-- The halves merged: the whole is. -/
theorem halves_end {a mid b : Nat} {d1 d2 d3 : Array α} (hb : b ≤ d1.size) (h1 : a ≤ mid) (h2 : mid ≤ b) (hx : ∀ i j, a ≤ i → i < mid → mid ≤ j → j < b → K d1[i]! ≤ K d1[j]!) (p1 : MPost K a mid d1 d2) (p2 : MPost K mid b d2 d3) : MPost K a b d1 d3 := by
  have s2 : d2.size = d1.size := p1.perm.1
  refine ⟨permIn_trans _ _ _ _ _ (permIn_mono _ _ _ _ _ _ (Nat.le_refl _) h2 hb p1.perm) (permIn_mono _ _ _ _ _ _ h1 (Nat.le_refl _) (by omega) p2.perm), fun i j k1 k2 k3 => ?_⟩
  by_cases hj : j < mid
  · rw [p2.perm.2.1 i (by omega), p2.perm.2.1 j (by omega)]; exact p1.srt i j k1 k2 hj
  · by_cases hi : i < mid
    · rw [p2.perm.2.1 i (by omega)]
      obtain ⟨x, x1, x2, x3⟩ := perm_from p1.perm (by omega) i k1 hi
      obtain ⟨y, y1, y2, y3⟩ := perm_from p2.perm (by omega) j (by omega) k3
      rw [x3, y3, p1.perm.2.1 y (by omega)]
      exact hx x y x1 x2 y1 y2
    · exact p2.srt i j (by omega) k2 k3

theorem notLt (x : Int) : (0 ≤ x) = ¬ x < 0 := by simp [Int.not_lt]
theorem down2' {a m : Nat} {d : Array α} (h : MPre cf K a m (m + 1) d) : Down (fun h => 0 ≤ cf d[m]! d[h]!) a m := by
  simp only [notLt]; exact down2 h
theorem merge2' {a m i : Nat} {d : Array α} (h : MPre cf K a m (m + 1) d) (hb : m + 1 ≤ d.size) (ham : a ≤ m) (hi : Cut (fun h => 0 ≤ cf d[m]! d[h]!) a m i) : MPost K a (m + 1) d (mvD d m (m - i)) := by
  simp only [notLt] at hi; exact merge2 h hb ham hi
theorem down3' {a m b : Nat} {d : Array α} (h : MPre cf K a m b d) (h1 : a < m) (h2 : m < b) : Down (fun c => 0 ≤ cf d[(a + b) / 2 + m - 1 - c]! d[c]!) (sLo a m b) (sHi a m b) := by
  simp only [notLt]; exact down3 h h1 h2
theorem halves' {a m b s : Nat} {d d1 : Array α} (h : MPre cf K a m b d) (h1 : a < m) (h2 : m < b) (hs : Cut (fun c => 0 ≤ cf d[(a + b) / 2 + m - 1 - c]! d[c]!) (sLo a m b) (sHi a m b) s)
    (hd : ∀ x, d1[x]! = rotF (fun i => d[i]!) s m ((a + b) / 2 + m - s) x) :
    MPre cf K a s ((a + b) / 2) d1 ∧ MPre cf K ((a + b) / 2) ((a + b) / 2 + m - s) b d1 ∧ ∀ i j, a ≤ i → i < (a + b) / 2 → (a + b) / 2 ≤ j → j < b → K d1[i]! ≤ K d1[j]! := by
  simp only [notLt] at hs; exact halves h h1 h2 hs hd

/-! ### The insertion sort keeps the order of what is alike -/
theorem insInner_perm (lt : α → α → Bool) (a hi : Nat) : ∀ (j : Nat) (d : Array α), j < hi → hi ≤ d.size → PermIn a hi d (insInner lt a j d)
  | 0, d, _, _ => by unfold insInner; exact permIn_refl _ _ _
  | j + 1, d, h1, h2 => by
    unfold insInner
    split
    · rename_i hc
      simp only [Bool.and_eq_true, decide_eq_true_eq] at hc
      exact permIn_trans _ _ _ _ _ (swp_permIn d a hi (j + 1) j (by omega) h1 (by omega) (by omega) h2) (insInner_perm lt a hi j _ (by omega) (by rw [size_swp]; exact h2))
    · exact permIn_refl _ _ _
theorem insInner_alike (lt lu : α → α → Bool) (a : Nat) : ∀ (j : Nat) (d : Array α), j < d.size → (∀ p, a ≤ p → p < j → lt d[j]! d[p]! = lu d[j]! d[p]!) → insInner lt a j d = insInner lu a j d
  | 0, d, _, _ => by unfold insInner; rfl
  | j + 1, d, hs, h => by
    unfold insInner
    by_cases ha : j + 1 > a
    · rw [h j (by omega) (by omega)]
      by_cases hl : lu d[j + 1]! d[j]! = true
      · rw [if_pos (by simp [ha, hl]), if_pos (by simp [ha, hl])]
        refine insInner_alike lt lu a j _ (by rw [size_swp]; omega) (fun p p1 p2 => ?_)
        rw [swp_get d hs (by omega), swp_get d hs (by omega), if_pos rfl, if_neg (by omega), if_neg (by omega)]
        exact h p p1 (by omega)
      · rw [if_neg (by simp [ha, hl]), if_neg (by simp [ha, hl])]
    · rw [if_neg (by simp; omega), if_neg (by simp; omega)]
theorem insOuter_alike (lt lu : α → α → Bool) (a b : Nat) : ∀ (n i : Nat) (d : Array α), b - i = n → b ≤ d.size → (∀ p q, a ≤ p → p < q → i ≤ q → q < b → lt d[q]! d[p]! = lu d[q]! d[p]!) → insOuter lt a b i d = insOuter lu a b i d
  | 0, i, d, hn, _, _ => by
    rw [show insOuter lt a b i d = d by rw [insOuter, if_neg (by omega)], show insOuter lu a b i d = d by rw [insOuter, if_neg (by omega)]]
  | n + 1, i, d, hn, hb, h => by
    rw [show insOuter lt a b i d = insOuter lt a b (i + 1) (insInner lt a i d) by rw [insOuter, if_pos (by omega)], show insOuter lu a b i d = insOuter lu a b (i + 1) (insInner lu a i d) by rw [insOuter, if_pos (by omega)]]
    have e := insInner_alike lt lu a i d (by omega) (fun p p1 p2 => h p i p1 p2 (Nat.le_refl _) (by omega))
    rw [e]
    have hp := insInner_perm lu a (i + 1) i d (by omega) (by omega)
    refine insOuter_alike lt lu a b n (i + 1) _ (by omega) (by rw [hp.1]; exact hb) (fun p q p1 p2 p3 p4 => ?_)
    rw [hp.2.1 q (by omega)]
    by_cases hpi : p < i + 1
    · obtain ⟨x, x1, x2, x3⟩ := perm_from hp (by omega) p p1 hpi
      rw [x3]
      exact h x q x1 (by omega) (by omega) p4
    · rw [hp.2.1 p (by omega)]
      exact h p q p1 p2 (by omega) p4
theorem swoK {β : Type} (K : β → Nat) : SWO (fun x y => decide (K x < K y)) where
  irrefl x := by simp
  trans x y z h1 h2 := by simp at *; omega
  ntrans x y z h1 h2 := by simp at *; omega
theorem ins_post {a b : Nat} {d : Array α} (lt : α → α → Bool) (hlt : ∀ x y, lt x y = decide (cf x y < 0)) (hab : a ≤ b) (hb : b ≤ d.size) (hc : ∀ i j, a ≤ i → i < j → j < b → Crs cf K d[i]! d[j]!) : MPost K a b d (Sort.insertionSort lt d a b) := by
  have e : Sort.insertionSort lt d a b = Sort.insertionSort (fun x y => decide (K x < K y)) d a b := by
    unfold Sort.insertionSort
    refine insOuter_alike _ _ a b _ _ d rfl hb (fun p q p1 p2 p3 p4 => ?_)
    rw [hlt]
    exact decide_eq_decide.2 (hc p q p1 p2 p4)
  have h := insertionSort_holds (swoK K) d a b hab hb
  rw [e]
  refine ⟨h.1, fun i j h1 h2 h3 => ?_⟩
  have := h.2 i j h1 h2 h3
  simp at this
  exact this

/-! ### The runs, phase by phase -/
/-- Behind a phase: runs of bs places are sorted, each out of its own places. -/
structure BSt (cf : α → α → Int) (K : α → Nat) (d : Array α) (n bs : Nat) (dk : Array α) : Prop where
  perm : PermIn 0 n d dk
  own : ∀ i, i < n → ∃ k, k < n ∧ k / bs = i / bs ∧ dk[i]! = d[k]!
  srt : ∀ i j, i < j → j < n → i / bs = j / bs → K dk[i]! ≤ K dk[j]!
/-- Within a phase: up to the place 2 bs t runs of 2 bs places, behind it runs of bs. -/
structure MSt (cf : α → α → Int) (K : α → Nat) (d : Array α) (n bs t : Nat) (dk : Array α) : Prop where
  perm : PermIn 0 n d dk
  own : ∀ i, i < n → ∃ k, k < n ∧ k / (2 * bs) = i / (2 * bs) ∧ dk[i]! = d[k]!
  own2 : ∀ i, i < n → 2 * bs * t ≤ i → ∃ k, k < n ∧ k / bs = i / bs ∧ dk[i]! = d[k]!
  srt : ∀ i j, i < j → j < n → j < 2 * bs * t → i / (2 * bs) = j / (2 * bs) → K dk[i]! ≤ K dk[j]!
  srt2 : ∀ i j, 2 * bs * t ≤ i → i < j → j < n → i / bs = j / bs → K dk[i]! ≤ K dk[j]!
/-- The first phase: up to the place 20 t runs are sorted. -/
structure ISt (cf : α → α → Int) (K : α → Nat) (d : Array α) (n t : Nat) (dk : Array α) : Prop where
  perm : PermIn 0 n d dk
  own : ∀ i, i < n → ∃ k, k < n ∧ k / 20 = i / 20 ∧ dk[i]! = d[k]!
  srt : ∀ i j, i < j → j < n → j < 20 * t → i / 20 = j / 20 → K dk[i]! ≤ K dk[j]!
  rest : ∀ i, 20 * t ≤ i → dk[i]! = d[i]!
theorem ISt.start (d : Array α) (n : Nat) : ISt cf K d n 0 d := ⟨permIn_refl _ _ _, fun i hi => ⟨i, hi, rfl, rfl⟩, fun i j _ _ h => by omega, fun _ _ => rfl⟩
theorem ISt.crs {d dk : Array α} {n t b : Nat} (h : ISt cf K d n t dk) (hC : ∀ i j, i < j → j < n → Crs cf K d[i]! d[j]!) (hb : b ≤ n) : ∀ i j, 20 * t ≤ i → i < j → j < b → Crs cf K dk[i]! dk[j]! := fun i j h1 h2 h3 => by
  rw [h.rest i h1, h.rest j (by omega)]; exact hC i j h2 (by omega)
theorem ISt.step {d dk dk' : Array α} {n t : Nat} (h : ISt cf K d n t dk) (hn : n ≤ d.size) (hb : 20 * t + 20 ≤ n) (hp : MPost K (20 * t) (20 * t + 20) dk dk') : ISt cf K d n (t + 1) dk' := by
  have hs : dk.size = d.size := h.perm.1
  refine ⟨permIn_trans _ _ _ _ _ h.perm (permIn_mono _ _ _ _ _ _ (Nat.zero_le _) hb (by omega) hp.perm), fun i hi => ?_, fun i j h1 h2 h3 h4 => ?_, fun i hi => ?_⟩
  · by_cases hr : 20 * t ≤ i ∧ i < 20 * t + 20
    · obtain ⟨k, k1, k2, k3⟩ := perm_from hp.perm (by omega) i hr.1 hr.2
      exact ⟨k, by omega, by omega, by rw [k3, h.rest k k1]⟩
    · rw [hp.perm.2.1 i (by omega)]; exact h.own i hi
  · by_cases hr : 20 * t ≤ j
    · exact hp.srt i j (by omega) h1 (by omega)
    · rw [hp.perm.2.1 i (by omega), hp.perm.2.1 j (by omega)]; exact h.srt i j h1 h2 (by omega) h4
  · rw [hp.perm.2.1 i (by omega)]; exact h.rest i (by omega)
theorem ISt.done {d dk dk' : Array α} {n t : Nat} (h : ISt cf K d n t dk) (hn : n ≤ d.size) (hb : n < 20 * t + 20) (ht : 20 * t ≤ n) (hp : MPost K (20 * t) n dk dk') : BSt cf K d n 20 dk' := by
  have hs : dk.size = d.size := h.perm.1
  refine ⟨permIn_trans _ _ _ _ _ h.perm (permIn_mono _ _ _ _ _ _ (Nat.zero_le _) (Nat.le_refl _) (by omega) hp.perm), fun i hi => ?_, fun i j h1 h2 h4 => ?_⟩
  · by_cases hr : 20 * t ≤ i
    · obtain ⟨k, k1, k2, k3⟩ := perm_from hp.perm (by omega) i hr hi
      exact ⟨k, by omega, by omega, by rw [k3, h.rest k k1]⟩
    · rw [hp.perm.2.1 i (by omega)]; exact h.own i hi
  · by_cases hr : 20 * t ≤ j
    · exact hp.srt i j (by omega) h1 (by omega)
    · rw [hp.perm.2.1 i (by omega), hp.perm.2.1 j (by omega)]; exact h.srt i j h1 h2 (by omega) h4
/-- The sizes of runs that are met. -/
def Bs (bs : Nat) : Prop := bs = 20 ∨ bs = 40 ∨ bs = 80
theorem BSt.go {d dk : Array α} {n bs : Nat} (hbs : Bs bs) (h : BSt cf K d n bs dk) : MSt cf K d n bs 0 dk := by
  refine ⟨h.perm, fun i hi => ?_, fun i hi _ => h.own i hi, fun i j h1 h2 h3 => by omega, fun i j _ h1 h2 h3 => h.srt i j h1 h2 h3⟩
  obtain ⟨k, k1, k2, k3⟩ := h.own i hi
  exact ⟨k, k1, by rcases hbs with rfl | rfl | rfl <;> omega, k3⟩
theorem MSt.pre {d dk : Array α} {n bs t e : Nat} (hbs : Bs bs) (h : MSt cf K d n bs t dk) (hC : ∀ i j, i < j → j < n → Crs cf K d[i]! d[j]!) (he : e ≤ n) (hm : 2 * bs * t + bs ≤ n) (he2 : e ≤ 2 * bs * t + 2 * bs) : MPre cf K (2 * bs * t) (2 * bs * t + bs) e dk := by
  refine ⟨fun i j h1 h2 h3 => ?_, fun i j h1 h2 h3 => ?_, fun i j h1 h2 h3 h4 => ?_⟩
  · exact h.srt2 i j h1 h2 (by omega) (by rcases hbs with rfl | rfl | rfl <;> omega)
  · exact h.srt2 i j (by omega) h2 (by omega) (by rcases hbs with rfl | rfl | rfl <;> omega)
  · obtain ⟨x, x1, x2, x3⟩ := h.own2 i (by omega) h1
    obtain ⟨y, y1, y2, y3⟩ := h.own2 j (by omega) (by omega)
    rw [x3, y3]
    exact hC x y (by rcases hbs with rfl | rfl | rfl <;> omega) y1
theorem MSt.step {d dk dk' : Array α} {n bs t e : Nat} (hbs : Bs bs) (h : MSt cf K d n bs t dk) (hn : n ≤ d.size) (he : e ≤ n) (he2 : e = 2 * bs * t + 2 * bs ∨ (e = n ∧ n ≤ 2 * bs * t + 2 * bs)) (hm : 2 * bs * t ≤ e) (hp : MPost K (2 * bs * t) e dk dk') : MSt cf K d n bs (t + 1) dk' := by
  have hs : dk.size = d.size := h.perm.1
  refine ⟨permIn_trans _ _ _ _ _ h.perm (permIn_mono _ _ _ _ _ _ (Nat.zero_le _) he (by omega) hp.perm), fun i hi => ?_, fun i hi hi2 => ?_, fun i j h1 h2 h3 h4 => ?_, fun i j h0 h1 h2 h3 => ?_⟩
  · by_cases hr : 2 * bs * t ≤ i ∧ i < e
    · obtain ⟨k, k1, k2, k3⟩ := perm_from hp.perm (by omega) i hr.1 hr.2
      obtain ⟨q, q1, q2, q3⟩ := h.own k (by omega)
      exact ⟨q, q1, by rcases hbs with rfl | rfl | rfl <;> omega, by rw [k3, q3]⟩
    · rw [hp.perm.2.1 i (by omega)]; exact h.own i hi
  · have : e ≤ i := by rcases hbs with rfl | rfl | rfl <;> omega
    rw [hp.perm.2.1 i (by omega)]; exact h.own2 i hi (by rcases hbs with rfl | rfl | rfl <;> omega)
  · by_cases hr : 2 * bs * t ≤ j
    · exact hp.srt i j (by rcases hbs with rfl | rfl | rfl <;> omega) h1 (by rcases hbs with rfl | rfl | rfl <;> omega)
    · rw [hp.perm.2.1 i (by omega), hp.perm.2.1 j (by omega)]; exact h.srt i j h1 h2 (by omega) h4
  · have : e ≤ i := by rcases hbs with rfl | rfl | rfl <;> omega
    rw [hp.perm.2.1 i (by omega), hp.perm.2.1 j (by omega)]
    exact h.srt2 i j (by rcases hbs with rfl | rfl | rfl <;> omega) h1 h2 h3
theorem MSt.done {d dk : Array α} {n bs t : Nat} (hbs : Bs bs) (h : MSt cf K d n bs t dk) (hn : n ≤ 2 * bs * t + bs) : BSt cf K d n (2 * bs) dk := by
  refine ⟨h.perm, h.own, fun i j h1 h2 h3 => ?_⟩
  by_cases hj : j < 2 * bs * t
  · exact h.srt i j h1 h2 hj h3
  · exact h.srt2 i j (by rcases hbs with rfl | rfl | rfl <;> omega) h1 h2 (by rcases hbs with rfl | rfl | rfl <;> omega)
theorem BSt.done {d dk : Array α} {n bs : Nat} (h : BSt cf K d n bs dk) (hn : n ≤ bs) : MPost K 0 n d dk :=
  ⟨h.perm, fun i j _ h1 h2 => h.srt i j h1 h2 (by rw [Nat.div_eq_of_lt (by omega), Nat.div_eq_of_lt (by omega)])⟩
end

/-! slices.swapRangeCmpFunc and slices.rotateCmpFunc at rows of k cells an element, walked over any program that bears their bodies. -/
section
set_option linter.unusedVariables false
set_option linter.unusedSimpArgs false
open Go.Shelf Go.RowKit Go.Lib Go.Sort

/-- What the walks of the sort lean on: the types that its bodies name. -/
structure StL (P : Program) (k : Nat) : Prop where
  mixed : P.follows .mixedOrders = true
  t0 : P.underlying 0 = some (TypeDesc.tuple #[])
  a0 : ∀ w, (isAgg 0).run P w = .ok false w
  z0 : ∀ w, (Go.sizeOf 0).run P w = .ok 1 w
  v0 : ∀ w, (zeroValue 0).run P w = .ok (Value.tuple #[]) w
  t3 : P.underlying 3 = some (TypeDesc.int IntKind.i64)
  a3 : ∀ w, (isAgg 3).run P w = .ok false w
  z3 : ∀ w, (Go.sizeOf 3).run P w = .ok 1 w
  v3 : ∀ w, (zeroValue 3).run P w = .ok (Value.int IntKind.i64 0) w
  t4 : P.underlying 4 = some (TypeDesc.bool)
  a4 : ∀ w, (isAgg 4).run P w = .ok false w
  z4 : ∀ w, (Go.sizeOf 4).run P w = .ok 1 w
  v4 : ∀ w, (zeroValue 4).run P w = .ok (Value.bool false) w
  t58 : P.underlying 58 = some (TypeDesc.slice 36)
  a58 : ∀ w, (isAgg 58).run P w = .ok false w
  z58 : ∀ w, (Go.sizeOf 58).run P w = .ok 1 w
  v58 : ∀ w, (zeroValue 58).run P w = .ok (Value.slice none 0 0) w
  t130 : P.underlying 130 = some (TypeDesc.func #[36, 36] #[3] false)
  a130 : ∀ w, (isAgg 130).run P w = .ok false w
  z130 : ∀ w, (Go.sizeOf 130).run P w = .ok 1 w
  v130 : ∀ w, (zeroValue 130).run P w = .ok (Value.nilFunc) w
  t133 : P.underlying 133 = some (TypeDesc.int IntKind.u64)
  a133 : ∀ w, (isAgg 133).run P w = .ok false w
  z133 : ∀ w, (Go.sizeOf 133).run P w = .ok 1 w
  v133 : ∀ w, (zeroValue 133).run P w = .ok (Value.int IntKind.u64 0) w
  aE : ∀ w, (isAgg 36).run P w = .ok true w
  zE : ∀ w, (Go.sizeOf 36).run P w = .ok k w
  f144 : P.funcs[144]? = some Try.f144
  f146 : P.funcs[146]? = some Try.f146
  f147 : P.funcs[147]? = some Try.f147
  f148 : P.funcs[148]? = some Try.f148
  e145 : ∀ args w, (callFunc 145 args).run P w = .ok (.enter 145 args) w

theorem StL.e148 {P : Program} {k : Nat} (L : StL P k) (args : Array Value) (w : World) : (callFunc 148 args).run P w = .ok (.enter 148 args) w := enters_of L.f148 (by kernel_rfl) rfl args w
theorem StL.e147 {P : Program} {k : Nat} (L : StL P k) (args : Array Value) (w : World) : (callFunc 147 args).run P w = .ok (.enter 147 args) w := enters_of L.f147 (by kernel_rfl) rfl args w
theorem StL.e146 {P : Program} {k : Nat} (L : StL P k) (args : Array Value) (w : World) : (callFunc 146 args).run P w = .ok (.enter 146 args) w := enters_of L.f146 (by kernel_rfl) rfl args w
theorem StL.e144 {P : Program} {k : Nat} (L : StL P k) (args : Array Value) (w : World) : (callFunc 144 args).run P w = .ok (.enter 144 args) w := enters_of L.f144 (by kernel_rfl) rfl args w

variable {P : Program} {α : Type} [Inhabited α]

set_option maxHeartbeats 4000000 in
set_option maxRecDepth 1000000 in
theorem swapRange_any (k : Nat) (L : StL P k) (enc : α → List Value) (fv : Value) (blk off cap a b c : Nat) (d0 d : Array α) (w0 w : World)
    (R : RowK enc k w0 blk off d0) (hs : d0.size = d.size) (S : SWK enc k w0 blk off d w) (ha : a + c ≤ d.size) (hb : b + c ≤ d.size) (hsz : d.size < 4611686018427387904) :
    Calls P 148 #[.slice (some ⟨blk, off, none⟩) d.size cap, .int .i64 a, .int .i64 b, .int .i64 c, fv] w fun e w' => e = .returned (.tuple #[]) ∧ SWK enc k w0 blk off (swapRunA d a b c) w' := by
  have mixed := L.mixed; have t0 := L.t0; have a0 := L.a0; have z0 := L.z0; have v0 := L.v0; have t3 := L.t3; have a3 := L.a3; have z3 := L.z3; have v3 := L.v3; have t4 := L.t4; have a4 := L.a4; have z4 := L.z4; have v4 := L.v4; have t58 := L.t58; have a58 := L.a58; have z58 := L.z58; have v58 := L.v58; have t130 := L.t130; have a130 := L.a130; have z130 := L.z130; have v130 := L.v130; have aE := L.aE; have zE := L.zE
  have FG := L.f148
  have S0 : Aside (SWK enc k w0 blk off d w) := S
  clear S L
  go_enter FG, Try.ntmps148
  go_wp2
  go_loopg [10] c (fun kx s10 wr => ∃ (i : Nat) (dk : Array α), s10 = .int .i64 i ∧ i ≤ c ∧ c - i ≤ kx ∧ dk.size = d.size ∧ Hid (dk = swapRunA d a b i) ∧ Aside (SWK enc k w0 blk off dk wr))
  case atStart => exact ⟨0, d, rfl, Nat.zero_le _, by omega, rfl, rfl, S0⟩
  case round =>
    clear S0
    obtain ⟨i, dk, rfl, hic, hkx, hds, HD, S1⟩ := hrel
    by_cases hlt : (i : Int) < (c : Int)
    · have hlt' : i < c := by omega
      go_wp2_with fail
      have ea44 : ((a : Int) + (i : Int)).toNat = a + i := by omega
      have pa44 : (0 : Int) ≤ (a : Int) + (i : Int) := by omega
      have ba44 : (a : Int) + (i : Int) < (d.size : Int) := by omega
      have ra44 : IntKind.i64.wrap ((a : Int) + (i : Int)) = (a : Int) + (i : Int) := by rw [IntKind.wrap_i64]; omega
      have ec44 : ((b : Int) + (i : Int)).toNat = b + i := by omega
      have pc44 : (0 : Int) ≤ (b : Int) + (i : Int) := by omega
      have bc44 : (b : Int) + (i : Int) < (d.size : Int) := by omega
      have rc44 : IntKind.i64.wrap ((b : Int) + (i : Int)) = (b : Int) + (i : Int) := by rw [IntKind.wrap_i64]; omega
      have S2 : Aside (SWK enc k w0 blk off (swp dk (a + i) (b + i)) ((wr.drew.setCells blk (off + (a + i) * k) (enc dk[b + i]!)).setCells blk (off + (b + i) * k) (enc dk[a + i]!))) := S1.out.swapped R (a + i) (b + i) (by omega) (by omega)
      have l44a := S1.out.ld1 R (by omega) P (a + i) (by omega)
      have l44b := S1.out.ld1 R (by omega) P (b + i) (by omega)
      have s44a := S1.out.st1 R (by omega) P (a + i) (by omega) dk[b + i]!
      have s44b := S1.out.st2 R (by omega) P (a + i) (b + i) (by omega) (by omega) dk[b + i]! dk[a + i]!
      have n44a : (enc dk[a + i]!).length = k := R.hk _
      have n44b : (enc dk[b + i]!).length = k := R.hk _
      generalize enc dk[a + i]! = cI44 at S2 l44a s44b n44a
      generalize enc dk[b + i]! = cJ44 at S2 l44b s44a s44b n44b
      clear S1
      go_wp2_with fail
      go_big_region_o
      clear l44a l44b s44a s44b
      generalize (wr.drew.setCells blk (off + (a + i) * k) cJ44).setCells blk (off + (b + i) * k) cI44 = w2 at S2 ⊢
      go_wp2
      go_roundg (c - (i + 1))
      case measure => omega
      case rel => exact ⟨i + 1, swp dk (a + i) (b + i), by go_num, by omega, Nat.le_refl _, by rw [size_swp]; exact hds, (show Hid _ from by rw [HD.out]; exact rfl), S2⟩
    · have hnot : i = c := by omega
      go_wp2
      go_end0
      refine ⟨rfl, ?_⟩
      have := S1.out
      rw [HD.out, hnot] at this
      exact this

set_option maxHeartbeats 4000000 in
set_option maxRecDepth 1000000 in
theorem rotate_any (k : Nat) (L : StL P k) (enc : α → List Value) (fv : Value) (blk off cap a m b : Nat) (d0 d : Array α) (w0 w : World)
    (R : RowK enc k w0 blk off d0) (hs : d0.size = d.size) (S : SWK enc k w0 blk off d w) (ham : a < m) (hmb : m < b) (hb : b ≤ d.size) (hsz : d.size < 4611686018427387904) :
    Calls P 147 #[.slice (some ⟨blk, off, none⟩) d.size cap, .int .i64 a, .int .i64 m, .int .i64 b, fv] w fun e w' => e = .returned (.tuple #[]) ∧
      ∃ d', SWK enc k w0 blk off d' w' ∧ PermIn a b d d' ∧ ∀ x, d'[x]! = rotF (fun i => d[i]!) a m b x := by
  have mixed := L.mixed; have t0 := L.t0; have a0 := L.a0; have z0 := L.z0; have v0 := L.v0; have t3 := L.t3; have a3 := L.a3; have z3 := L.z3; have v3 := L.v3; have t4 := L.t4; have a4 := L.a4; have z4 := L.z4; have v4 := L.v4; have t58 := L.t58; have a58 := L.a58; have z58 := L.z58; have v58 := L.v58; have t130 := L.t130; have a130 := L.a130; have z130 := L.z130; have v130 := L.v130
  have e148 := L.e148
  have FG := L.f147
  have S0 : Aside (SWK enc k w0 blk off d w) := S
  have K148 : Hid (∀ (x y c : Nat) (dk : Array α) (wr : World), dk.size = d.size → SWK enc k w0 blk off dk wr → x + c ≤ dk.size → y + c ≤ dk.size → Calls P 148 #[.slice (some ⟨blk, off, none⟩) d.size cap, .int .i64 x, .int .i64 y, .int .i64 c, fv] wr fun e w' => e = .returned (.tuple #[]) ∧ SWK enc k w0 blk off (swapRunA dk x y c) w') := fun x y c dk wr h1 h2 h3 h4 => by
    rw [← h1]
    exact swapRange_any k L enc fv blk off cap x y c d0 dk w0 wr R (by omega) h2 h3 h4 (by omega)
  clear S L R
  have rij : IntKind.i64.wrap ((m : Int) - (a : Int)) = ((m - a : Nat) : Int) := by rw [IntKind.wrap_i64]; omega
  have rjj : IntKind.i64.wrap ((b : Int) - (m : Int)) = ((b - m : Nat) : Int) := by rw [IntKind.wrap_i64]; omega
  generalize hI0 : m - a = I0 at rij
  generalize hJ0 : b - m = J0 at rjj
  have HIJ : Hid (m - a = I0 ∧ b - m = J0) := ⟨hI0, hJ0⟩
  clear hI0 hJ0
  go_enter FG, Try.ntmps147
  go_wp2
  go_loopg [10, 11] (I0 + J0) (fun kx s10 s11 wr => ∃ (i j : Nat) (dk : Array α), s10 = .int .i64 i ∧ s11 = .int .i64 j ∧ 0 < i ∧ 0 < j ∧ i ≤ I0 ∧ j ≤ J0 ∧ i + j ≤ kx ∧ dk.size = d.size ∧ Hid (PermIn a b d dk) ∧ Hid (rotF (fun q => dk[q]!) (m - i) m (m + j) = rotF (fun q => d[q]!) a m b) ∧ Aside (SWK enc k w0 blk off dk wr))
  case atStart =>
    obtain ⟨h1, h2⟩ := HIJ.out
    exact ⟨I0, J0, d, rfl, rfl, by omega, by omega, Nat.le_refl _, Nat.le_refl _, Nat.le_refl _, rfl, permIn_refl _ _ _, (show Hid _ from by rw [show m - I0 = a by omega, show m + J0 = b by omega]; exact rfl), S0⟩
  case round =>
    clear S0
    obtain ⟨i, j, dk, rfl, rfl, hi, hj, hiI, hjJ, hkx, hds, HP, HR, S1⟩ := hrel
    have him : i ≤ m := by obtain ⟨h1, h2⟩ := HIJ.out; omega
    have hmi : a + i ≤ m := by obtain ⟨h1, h2⟩ := HIJ.out; omega
    have hmj : m + j ≤ b := by obtain ⟨h1, h2⟩ := HIJ.out; omega
    have rp : IntKind.i64.wrap ((m : Int) - (i : Int)) = ((m - i : Nat) : Int) := by rw [IntKind.wrap_i64]; omega
    obtain ⟨p, hp⟩ : ∃ p, p = m - i := ⟨_, rfl⟩
    rw [← hp] at rp
    have HPp : Hid (p = m - i) := hp
    clear hp
    by_cases hij : i = j
    · subst hij
      have he : ((i : Int) != (i : Int)) = false := by simp
      go_wp2_with (go_at_fn 148; (with_reducible refine (K148.out p m i dk wr hds S1.out (by have := HPp.out; omega) (by omega)).mono ?_); rintro e w2 ⟨rfl, S2⟩)
      go_end0
      refine ⟨rfl, _, S2, permIn_trans _ _ _ _ _ HP.out (swapRunA_perm dk p m a b (by have := HPp.out; omega) (by omega) (by omega) i (by have := HPp.out; omega) (by omega)), fun x => ?_⟩
      rw [swapRunA_get dk p m i (by have := HPp.out; omega) (by have := HPp.out; omega) (by omega), ← HR.out, rotF_end _ m i him, HPp.out]
    · have he : ((i : Int) != (j : Int)) = true := by simp; omega
      by_cases hgt : (j : Int) < (i : Int)
      · have rn : IntKind.i64.wrap ((i : Int) - (j : Int)) = ((i - j : Nat) : Int) := by rw [IntKind.wrap_i64]; omega
        obtain ⟨i2, hi2⟩ : ∃ q, q = i - j := ⟨_, rfl⟩
        rw [← hi2] at rn
        have HI2 : Hid (i2 = i - j) := hi2
        clear hi2
        go_wp2_with (go_at_fn 148; (with_reducible refine (K148.out p m j dk wr hds S1.out (by have := HPp.out; omega) (by omega)).mono ?_); rintro e w2 ⟨rfl, S2⟩)
        go_roundg (i2 + j)
        case measure => have := HI2.out; omega
        case rel =>
          have h2 := HI2.out
          refine ⟨i2, j, swapRunA dk p m j, rfl, rfl, by omega, hj, by omega, hjJ, Nat.le_refl _, by rw [swapRunA_size]; exact hds, permIn_trans _ _ _ _ _ HP.out (swapRunA_perm dk p m a b (by have := HPp.out; omega) (by omega) (by omega) j (by have := HPp.out; omega) (by omega)), (show Hid _ from ?_), S2⟩
          show _ = _
          rw [← HR.out, h2, ← rotF_left (fun q => dk[q]!) m i j him (by omega)]
          congr 1
          funext x
          rw [swapRunA_get dk p m j (by have := HPp.out; omega) (by have := HPp.out; omega) (by omega), HPp.out]
      · have rn : IntKind.i64.wrap ((j : Int) - (i : Int)) = ((j - i : Nat) : Int) := by rw [IntKind.wrap_i64]; omega
        obtain ⟨j2, hj2⟩ : ∃ q, q = j - i := ⟨_, rfl⟩
        rw [← hj2] at rn
        have HJ2 : Hid (j2 = j - i) := hj2
        clear hj2
        have rq1 : IntKind.i64.wrap ((m : Int) + (j : Int)) = (m : Int) + (j : Int) := by rw [IntKind.wrap_i64]; omega
        have rq : IntKind.i64.wrap ((m : Int) + (j : Int) - (i : Int)) = ((m + j - i : Nat) : Int) := by rw [IntKind.wrap_i64]; omega
        obtain ⟨q, hq⟩ : ∃ q, q = m + j - i := ⟨_, rfl⟩
        rw [← hq] at rq
        have HQ : Hid (q = m + j - i) := hq
        clear hq
        go_wp2_with (go_at_fn 148; (with_reducible refine (K148.out p q i dk wr hds S1.out (by have := HPp.out; omega) (by have := HQ.out; omega)).mono ?_); rintro e w2 ⟨rfl, S2⟩)
        go_roundg (i + j2)
        case measure => have := HJ2.out; omega
        case rel =>
          have h2 := HJ2.out
          have hpo := HPp.out
          have hqo := HQ.out
          refine ⟨i, j2, swapRunA dk p q i, rfl, rfl, hi, by omega, hiI, by omega, Nat.le_refl _, by rw [swapRunA_size]; exact hds, permIn_trans _ _ _ _ _ HP.out (swapRunA_perm dk p q a b (by omega) (by omega) (by omega) i (by omega) (by omega)), (show Hid _ from ?_), S2⟩
          show _ = _
          rw [← HR.out, h2, ← rotF_right (fun q => dk[q]!) m i j him (by omega)]
          congr 1
          funext x
          rw [swapRunA_get dk p q i (by omega) (by omega) (by omega), hpo, hqo]
end

/-! slices.symMergeCmpFunc, walked over any program that bears its body. -/
section
set_option linter.unusedVariables false
set_option linter.unusedSimpArgs false
open Go.Shelf Go.RowKit Go.Lib Go.Sort
variable {P : Program} {α : Type} [Inhabited α]

set_option maxHeartbeats 8000000 in
set_option maxRecDepth 1000000 in
theorem symMerge_one (k : Nat) (L : StL P k) (enc : α → List Value) (cf : α → α → Int) (K : α → Nat) (g : Nat) (cb : Array Value) (blk off cap : Nat) (d0 : Array α) (w0 : World)
    (eg : ∀ args w, (callFunc g args).run P w = .ok (.enter g args) w) (hcmp : CmpLays P g cb enc k cf blk off d0.size w0) (R : RowK enc k w0 blk off d0) (hsz : d0.size < 4611686018427387904)
    (a m b : Nat) (d : Array α) (w : World) (hs : d0.size = d.size) (S : SWK enc k w0 blk off d w) (hma : m = a + 1) (hmb : m < b) (hb : b ≤ d.size) (hpre : MPre cf K a m b d) :
    Calls P 146 #[.slice (some ⟨blk, off, none⟩) d.size cap, .int .i64 a, .int .i64 m, .int .i64 b, .func (.func g) #[] cb] w fun e w' => e = .returned (.tuple #[]) ∧ ∃ d', SWK enc k w0 blk off d' w' ∧ MPost K a b d d' := by
  have mixed := L.mixed; have t0 := L.t0; have a0 := L.a0; have z0 := L.z0; have v0 := L.v0; have t3 := L.t3; have a3 := L.a3; have z3 := L.z3; have v3 := L.v3; have t4 := L.t4; have a4 := L.a4; have z4 := L.z4; have v4 := L.v4; have t58 := L.t58; have a58 := L.a58; have z58 := L.z58; have v58 := L.v58; have t130 := L.t130; have a130 := L.a130; have z130 := L.z130; have v130 := L.v130; have t133 := L.t133; have a133 := L.a133; have z133 := L.z133; have v133 := L.v133; have aE := L.aE; have zE := L.zE
  have FG := L.f146
  have HC : Aside _ := hcmp
  have S0 : Aside _ := S
  have HP : Hid _ := hpre
  have HM : Hid (m = a + 1) := hma
  have hm1 : IntKind.i64.wrap ((m : Int) - (a : Int)) = 1 := by rw [IntKind.wrap_i64]; omega
  have ham : a < m := by omega
  have DN : Hid (Down (fun h => cf d[h]! d[a]! < 0) m b) := by rw [hma]; rw [hma] at hpre; exact down1 hpre
  clear hcmp S hpre hma
  go_enter FG, Try.ntmps146
  go_wp2
  go_loopg [10, 11] (b - m) (fun kx si sj wr => ∃ i j : Nat, si = .int .i64 i ∧ sj = .int .i64 j ∧ m ≤ i ∧ i ≤ j ∧ j ≤ b ∧ j - i ≤ kx ∧ Aside (SWK enc k w0 blk off d wr) ∧ Hid ((∀ h, m ≤ h → h < i → cf d[h]! d[a]! < 0) ∧ (∀ h, j ≤ h → h < b → 0 ≤ cf d[h]! d[a]!)))
  case atStart => exact ⟨m, b, rfl, rfl, Nat.le_refl _, by omega, Nat.le_refl _, Nat.le_refl _, S0, ⟨fun h h1 h2 => by omega, fun h h1 h2 => by omega⟩⟩
  case round =>
    clear S0
    obtain ⟨i, j, rfl, rfl, hlo, hij, hhi, hkx, S1, HI⟩ := hrel
    by_cases hlt : i < j
    · have hltz : (i : Int) < (j : Int) := by omega
      obtain ⟨h, hh⟩ : ∃ h, h = (i + j) / 2 := ⟨_, rfl⟩
      have h1 : i ≤ h := by omega
      have h2 : h < j := by omega
      have rs : IntKind.i64.wrap ((i : Int) + (j : Int)) = (i : Int) + (j : Int) := by rw [IntKind.wrap_i64]; omega
      have rh : ((i : Int) + (j : Int)) / 2 = (h : Int) := by omega
      have HH : Hid (h = (i + j) / 2) := hh
      clear hh
      have bh : (h : Int) < (d.size : Int) := by omega
      have bha : (a : Int) < (d.size : Int) := by omega
      have rh1 : IntKind.i64.wrap ((h : Int) + 1) = (h : Int) + 1 := by rw [IntKind.wrap_i64]; omega
      by_cases hcf : cf d[h]! d[a]! < 0
      · obtain ⟨xoa, hxoa⟩ : ∃ x, x = d[h]! := ⟨_, rfl⟩
        obtain ⟨yoa, hyoa⟩ : ∃ x, x = d[a]! := ⟨_, rfl⟩
        have loaa := S1.out.ld R (by omega) P h (by omega)
        have loab := S1.out.ld R (by omega) P a (by omega)
        rw [← hxoa] at loaa
        rw [← hyoa] at loab
        have hcoa := S1.out.cmp HC.out (by omega) xoa yoa
        have hvoa : cf xoa yoa < 0 := by rw [hxoa, hyoa]; exact hcf
        have hdoa : decide (cf xoa yoa < 0) = true := decide_eq_true hvoa
        clear hxoa hyoa
        go_wp2_with fail
        go_quiet_grown (first | (go_at_fn g; refine Calls.grown_of (hcoa _ _)))
        have S2 : Aside (SWK enc k w0 blk off d (grow (wr.drewN nq) osq)) := S1.out.grown nq osq
        clear loaa loab hcoa S1
        generalize grow (wr.drewN nq) osq = w2 at S2 ⊢
        clear nq osq
        go_wp2
        go_roundg (j - (h + 1))
        case measure => omega
        case rel =>
          have I := HI.out
          exact ⟨h + 1, j, by go_num, rfl, by omega, by omega, hhi, Nat.le_refl _, S2, ⟨fun q q1 q2 => DN.out q h q1 (by omega) (by omega) hcf, I.2⟩⟩
      · obtain ⟨xob, hxob⟩ : ∃ x, x = d[h]! := ⟨_, rfl⟩
        obtain ⟨yob, hyob⟩ : ∃ x, x = d[a]! := ⟨_, rfl⟩
        have loba := S1.out.ld R (by omega) P h (by omega)
        have lobb := S1.out.ld R (by omega) P a (by omega)
        rw [← hxob] at loba
        rw [← hyob] at lobb
        have hcob := S1.out.cmp HC.out (by omega) xob yob
        have hvob : ¬ cf xob yob < 0 := by rw [hxob, hyob]; exact hcf
        have hdob : decide (cf xob yob < 0) = false := decide_eq_false hvob
        clear hxob hyob
        go_wp2_with fail
        go_quiet_grown (first | (go_at_fn g; refine Calls.grown_of (hcob _ _)))
        have S2 : Aside (SWK enc k w0 blk off d (grow (wr.drewN nq) osq)) := S1.out.grown nq osq
        clear loba lobb hcob S1
        generalize grow (wr.drewN nq) osq = w2 at S2 ⊢
        clear nq osq
        go_wp2
        go_roundg (h - i)
        case measure => omega
        case rel =>
          have I := HI.out
          exact ⟨i, h, rfl, rfl, hlo, by omega, by omega, Nat.le_refl _, S2, ⟨I.1, fun q q1 q2 => Decidable.byContradiction fun hn => by have := DN.out h q (by omega) q1 q2 (show cf d[q]! d[a]! < 0 by omega); have h3 : cf d[h]! d[a]! < 0 := this; omega⟩⟩
    · have hltz : ¬ (i : Int) < (j : Int) := by omega
      have hij : i = j := by omega
      subst hij
      have CUT : Hid (Cut (fun h => cf d[h]! d[a]! < 0) m b i) := ⟨hlo, by omega, fun h h1 h2 => by have := HI.out.1 h h1 h2; show cf d[h]! d[a]! < 0; omega, fun h h1 h2 hn => by have := HI.out.2 h (by omega) h2; have hn2 : cf d[h]! d[a]! < 0 := hn; omega⟩
      clear HI hlt
      obtain ⟨c, hc⟩ : ∃ c, c = i - 1 := ⟨_, rfl⟩
      have ri1 : IntKind.i64.wrap ((i : Int) - 1) = (c : Int) := by rw [IntKind.wrap_i64]; omega
      have HCc : Hid (c = i - 1) := hc
      have hca : a ≤ c := by omega
      have hcb : c < b := by omega
      clear hc hhi hkx
      go_wp2
      go_loopg [13] (c - a) (fun kx s13 wr2 => ∃ (q : Nat) (dk : Array α), s13 = .int .i64 q ∧ a ≤ q ∧ q ≤ c ∧ c - q ≤ kx ∧ dk.size = d.size ∧ Hid (dk = mvU d a (q - a)) ∧ Aside (SWK enc k w0 blk off dk wr2))
      case atStart => exact ⟨a, d, rfl, Nat.le_refl _, hca, Nat.le_refl _, rfl, (show Hid _ from by rw [Nat.sub_self]; exact rfl), S1⟩
      case round =>
        clear S1
        obtain ⟨q, dk, rfl, hqa, hqc, hkq, hds, HD, S3⟩ := hrel
        by_cases hq : q < c
        · have hqz : (q : Int) < (c : Int) := by omega
          go_wp2_with fail
          have ea : ((q : Int) + 1).toNat = q + 1 := by omega
          have pa : (0 : Int) ≤ (q : Int) + 1 := by omega
          have ba : (q : Int) + 1 < (d.size : Int) := by omega
          have ba2 : (q : Int) < (d.size : Int) := by omega
          have ra : IntKind.i64.wrap ((q : Int) + 1) = (q : Int) + 1 := by rw [IntKind.wrap_i64]; omega
          have S4 : Aside (SWK enc k w0 blk off (swp dk q (q + 1)) ((wr.drew.setCells blk (off + q * k) (enc dk[(q + 1)]!)).setCells blk (off + (q + 1) * k) (enc dk[q]!))) := S3.out.swapped R q (q + 1) (by omega) (by omega)
          have lma := S3.out.ld1 R (by omega) P q (by omega)
          have lmb := S3.out.ld1 R (by omega) P (q + 1) (by omega)
          have sma := S3.out.st1 R (by omega) P q (by omega) dk[(q + 1)]!
          have smb := S3.out.st2 R (by omega) P q (q + 1) (by omega) (by omega) dk[(q + 1)]! dk[q]!
          have nma : (enc dk[q]!).length = k := R.hk _
          have nmb : (enc dk[(q + 1)]!).length = k := R.hk _
          generalize enc dk[q]! = cIm at S4 lma smb nma
          generalize enc dk[(q + 1)]! = cJm at S4 lmb sma smb nmb
          clear S3
          go_wp2_with fail
          go_big_region_o
          clear lma lmb sma smb
          generalize (wr.drew.setCells blk (off + q * k) cJm).setCells blk (off + (q + 1) * k) cIm = w4 at S4 ⊢
          go_wp2
          go_roundg (c - (q + 1))
          case measure => omega
          case rel => exact ⟨q + 1, swp dk q (q + 1), by go_num, by omega, by omega, Nat.le_refl _, by rw [size_swp]; exact hds, (show Hid _ from by rw [HD.out, show q + 1 - a = (q - a) + 1 by omega]; show _ = swp _ _ _; rw [show a + (q - a) = q by omega]), S4⟩
        · have hqe : q = c := by omega
          have hqz : ¬ (q : Int) < (c : Int) := by omega
          go_wp2
          refine bodyPost_ret (results_none rfl _ _ _) ?_ ?_
          · rfl
          refine ⟨rfl, _, S3.out, ?_⟩
          have e2 := HCc.out
          rw [HD.out, hqe, e2]
          have hm := HM.out
          rw [hm] at CUT
          exact merge1 (by have h0 := HP.out; rw [hm] at h0; exact h0) (by omega) (by omega) CUT.out

set_option maxHeartbeats 8000000 in
set_option maxRecDepth 1000000 in
theorem symMerge_two (k : Nat) (L : StL P k) (enc : α → List Value) (cf : α → α → Int) (K : α → Nat) (g : Nat) (cb : Array Value) (blk off cap : Nat) (d0 : Array α) (w0 : World)
    (eg : ∀ args w, (callFunc g args).run P w = .ok (.enter g args) w) (hcmp : CmpLays P g cb enc k cf blk off d0.size w0) (R : RowK enc k w0 blk off d0) (hsz : d0.size < 4611686018427387904)
    (a m b : Nat) (d : Array α) (w : World) (hs : d0.size = d.size) (S : SWK enc k w0 blk off d w) (ham : a < m) (hma : m ≠ a + 1) (hmb : b = m + 1) (hb : b ≤ d.size) (hpre : MPre cf K a m b d) :
    Calls P 146 #[.slice (some ⟨blk, off, none⟩) d.size cap, .int .i64 a, .int .i64 m, .int .i64 b, .func (.func g) #[] cb] w fun e w' => e = .returned (.tuple #[]) ∧ ∃ d', SWK enc k w0 blk off d' w' ∧ MPost K a b d d' := by
  have mixed := L.mixed; have t0 := L.t0; have a0 := L.a0; have z0 := L.z0; have v0 := L.v0; have t3 := L.t3; have a3 := L.a3; have z3 := L.z3; have v3 := L.v3; have t4 := L.t4; have a4 := L.a4; have z4 := L.z4; have v4 := L.v4; have t58 := L.t58; have a58 := L.a58; have z58 := L.z58; have v58 := L.v58; have t130 := L.t130; have a130 := L.a130; have z130 := L.z130; have v130 := L.v130; have t133 := L.t133; have a133 := L.a133; have z133 := L.z133; have v133 := L.v133; have aE := L.aE; have zE := L.zE
  have FG := L.f146
  have HC : Aside _ := hcmp
  have S0 : Aside _ := S
  have HP : Hid _ := hpre
  have HM : Hid (b = m + 1) := hmb
  have hm1 : IntKind.i64.wrap ((m : Int) - (a : Int)) = ((m - a : Nat) : Int) := by rw [IntKind.wrap_i64]; omega
  obtain ⟨ma, hmae⟩ : ∃ q, q = m - a := ⟨_, rfl⟩
  rw [← hmae] at hm1
  have hm2 : ((ma : Int) == 1) = false := by simp; omega
  have hb1 : IntKind.i64.wrap ((b : Int) - (m : Int)) = 1 := by rw [IntKind.wrap_i64]; omega
  have DN : Hid (Down (fun h => 0 ≤ cf d[m]! d[h]!) a m) := by rw [hmb] at hpre; exact down2' hpre
  have hbm : m < b := by omega
  clear hcmp S hpre hma hmb hmae
  go_enter FG, Try.ntmps146
  go_wp2
  go_loopg [14, 15] (m - a) (fun kx si sj wr => ∃ i j : Nat, si = .int .i64 i ∧ sj = .int .i64 j ∧ a ≤ i ∧ i ≤ j ∧ j ≤ m ∧ j - i ≤ kx ∧ Aside (SWK enc k w0 blk off d wr) ∧ Hid ((∀ h, a ≤ h → h < i → 0 ≤ cf d[m]! d[h]!) ∧ (∀ h, j ≤ h → h < m → cf d[m]! d[h]! < 0)))
  case atStart => exact ⟨a, m, rfl, rfl, Nat.le_refl _, by omega, Nat.le_refl _, Nat.le_refl _, S0, ⟨fun h h1 h2 => by omega, fun h h1 h2 => by omega⟩⟩
  case round =>
    clear S0
    obtain ⟨i, j, rfl, rfl, hlo, hij, hhi, hkx, S1, HI⟩ := hrel
    by_cases hlt : i < j
    · have hltz : (i : Int) < (j : Int) := by omega
      obtain ⟨h, hh⟩ : ∃ h, h = (i + j) / 2 := ⟨_, rfl⟩
      have h1 : i ≤ h := by omega
      have h2 : h < j := by omega
      have rs : IntKind.i64.wrap ((i : Int) + (j : Int)) = (i : Int) + (j : Int) := by rw [IntKind.wrap_i64]; omega
      have rh : ((i : Int) + (j : Int)) / 2 = (h : Int) := by omega
      have HH : Hid (h = (i + j) / 2) := hh
      clear hh
      have bh : (h : Int) < (d.size : Int) := by omega
      have bha : (m : Int) < (d.size : Int) := by omega
      have rh1 : IntKind.i64.wrap ((h : Int) + 1) = (h : Int) + 1 := by rw [IntKind.wrap_i64]; omega
      by_cases hcf : cf d[m]! d[h]! < 0
      · obtain ⟨xta, hxta⟩ : ∃ x, x = d[m]! := ⟨_, rfl⟩
        obtain ⟨yta, hyta⟩ : ∃ x, x = d[h]! := ⟨_, rfl⟩
        have ltaa := S1.out.ld R (by omega) P m (by omega)
        have ltab := S1.out.ld R (by omega) P h (by omega)
        rw [← hxta] at ltaa
        rw [← hyta] at ltab
        have hcta := S1.out.cmp HC.out (by omega) xta yta
        have hvta : cf xta yta < 0 := by rw [hxta, hyta]; exact hcf
        have hdta : decide (cf xta yta < 0) = true := decide_eq_true hvta
        clear hxta hyta
        go_wp2_with fail
        go_quiet_grown (first | (go_at_fn g; refine Calls.grown_of (hcta _ _)))
        have S2 : Aside (SWK enc k w0 blk off d (grow (wr.drewN nq) osq)) := S1.out.grown nq osq
        clear ltaa ltab hcta S1
        generalize grow (wr.drewN nq) osq = w2 at S2 ⊢
        clear nq osq
        go_wp2
        go_roundg (h - i)
        case measure => omega
        case rel =>
          have I := HI.out
          exact ⟨i, h, rfl, rfl, hlo, by omega, by omega, Nat.le_refl _, S2, ⟨I.1, fun q q1 q2 => Decidable.byContradiction fun hn => by have := DN.out h q (by omega) q1 q2 (show 0 ≤ cf d[m]! d[q]! by omega); have h3 : 0 ≤ cf d[m]! d[h]! := this; omega⟩⟩
      · obtain ⟨xtb, hxtb⟩ : ∃ x, x = d[m]! := ⟨_, rfl⟩
        obtain ⟨ytb, hytb⟩ : ∃ x, x = d[h]! := ⟨_, rfl⟩
        have ltba := S1.out.ld R (by omega) P m (by omega)
        have ltbb := S1.out.ld R (by omega) P h (by omega)
        rw [← hxtb] at ltba
        rw [← hytb] at ltbb
        have hctb := S1.out.cmp HC.out (by omega) xtb ytb
        have hvtb : ¬ cf xtb ytb < 0 := by rw [hxtb, hytb]; exact hcf
        have hdtb : decide (cf xtb ytb < 0) = false := decide_eq_false hvtb
        clear hxtb hytb
        go_wp2_with fail
        go_quiet_grown (first | (go_at_fn g; refine Calls.grown_of (hctb _ _)))
        have S2 : Aside (SWK enc k w0 blk off d (grow (wr.drewN nq) osq)) := S1.out.grown nq osq
        clear ltba ltbb hctb S1
        generalize grow (wr.drewN nq) osq = w2 at S2 ⊢
        clear nq osq
        go_wp2
        go_roundg (j - (h + 1))
        case measure => omega
        case rel =>
          have I := HI.out
          exact ⟨h + 1, j, by go_num, rfl, by omega, by omega, hhi, Nat.le_refl _, S2, ⟨fun q q1 q2 => by have := DN.out q h q1 (by omega) (by omega) (show 0 ≤ cf d[m]! d[h]! by omega); have h3 : 0 ≤ cf d[m]! d[q]! := this; omega, I.2⟩⟩
    · have hltz : ¬ (i : Int) < (j : Int) := by omega
      have hij : i = j := by omega
      subst hij
      have CUT : Hid (Cut (fun h => 0 ≤ cf d[m]! d[h]!) a m i) := ⟨hlo, by omega, fun h h1 h2 => by have := HI.out.1 h h1 h2; show 0 ≤ cf d[m]! d[h]!; omega, fun h h1 h2 hn => by have := HI.out.2 h (by omega) h2; have hn2 : 0 ≤ cf d[m]! d[h]! := hn; omega⟩
      clear HI hlt
      clear hkx
      have him : i ≤ m := by omega
      go_wp2
      go_loopg [17] (m - i) (fun kx s17 wr2 => ∃ (q : Nat) (dk : Array α), s17 = .int .i64 q ∧ i ≤ q ∧ q ≤ m ∧ q - i ≤ kx ∧ dk.size = d.size ∧ Hid (dk = mvD d m (m - q)) ∧ Aside (SWK enc k w0 blk off dk wr2))
      case atStart => exact ⟨m, d, rfl, him, Nat.le_refl _, Nat.le_refl _, rfl, (show Hid _ from by rw [Nat.sub_self]; exact rfl), S1⟩
      case round =>
        clear S1
        obtain ⟨q, dk, rfl, hqi, hqm, hkq, hds, HD, S3⟩ := hrel
        by_cases hq : i < q
        · obtain ⟨q1, rfl⟩ : ∃ q1, q = q1 + 1 := ⟨q - 1, by omega⟩
          have hqz : (i : Int) < (q1 : Int) + 1 := by omega
          go_wp2_with fail
          have ea : ((q1 : Int) + 1).toNat = q1 + 1 := by omega
          have pa : (0 : Int) ≤ (q1 : Int) + 1 := by omega
          have ba : (q1 : Int) + 1 < (d.size : Int) := by omega
          have ba2 : (q1 : Int) < (d.size : Int) := by omega
          have ra : IntKind.i64.wrap (q1 : Int) = (q1 : Int) := by rw [IntKind.wrap_i64]; omega
          have S4 : Aside (SWK enc k w0 blk off (swp dk (q1 + 1) q1) ((wr.drew.setCells blk (off + (q1 + 1) * k) (enc dk[q1]!)).setCells blk (off + q1 * k) (enc dk[(q1 + 1)]!))) := S3.out.swapped R (q1 + 1) q1 (by omega) (by omega)
          have lma := S3.out.ld1 R (by omega) P (q1 + 1) (by omega)
          have lmb := S3.out.ld1 R (by omega) P q1 (by omega)
          have sma := S3.out.st1 R (by omega) P (q1 + 1) (by omega) dk[q1]!
          have smb := S3.out.st2 R (by omega) P (q1 + 1) q1 (by omega) (by omega) dk[q1]! dk[(q1 + 1)]!
          have nma : (enc dk[(q1 + 1)]!).length = k := R.hk _
          have nmb : (enc dk[q1]!).length = k := R.hk _
          generalize enc dk[(q1 + 1)]! = cIm at S4 lma smb nma
          generalize enc dk[q1]! = cJm at S4 lmb sma smb nmb
          clear S3
          go_wp2_with fail
          go_big_region_o
          clear lma lmb sma smb
          generalize (wr.drew.setCells blk (off + (q1 + 1) * k) cJm).setCells blk (off + q1 * k) cIm = w4 at S4 ⊢
          go_wp2
          go_roundg (q1 - i)
          case measure => omega
          case rel => exact ⟨q1, swp dk (q1 + 1) q1, by first | rfl | go_num, by omega, by omega, Nat.le_refl _, by rw [size_swp]; exact hds, (show Hid _ from by rw [HD.out, show m - q1 = (m - (q1 + 1)) + 1 by omega]; show _ = swp _ _ _; rw [show m - (m - (q1 + 1)) = q1 + 1 by omega]; rfl), S4⟩
        · have hqe : q = i := by omega
          have hqz : ¬ (i : Int) < (q : Int) := by omega
          go_wp2
          refine bodyPost_ret (results_none rfl _ _ _) ?_ ?_
          · rfl
          refine ⟨rfl, _, S3.out, ?_⟩
          rw [HD.out, hqe]
          have hm := HM.out
          rw [hm]
          exact merge2' (by have h0 := HP.out; rw [hm] at h0; exact h0) (by omega) (by omega) CUT.out
end

/-! slices.symMergeCmpFunc: the great case, and the whole. -/
section
set_option linter.unusedVariables false
set_option linter.unusedSimpArgs false
open Go.Shelf Go.RowKit Go.Lib Go.Sort
variable {P : Program} {α : Type} [Inhabited α]

/-- What symMerge does between two numbers, in a row of n places. -/
def SMerge (P : Program) (enc : α → List Value) (k : Nat) (cf : α → α → Int) (K : α → Nat) (g : Nat) (cb : Array Value) (blk off cap : Nat) (w0 : World) (n a m b : Nat) : Prop :=
  ∀ (d : Array α) (w : World), d.size = n → SWK enc k w0 blk off d w → a < m → m < b → b ≤ n → MPre cf K a m b d →
    Calls P 146 #[.slice (some ⟨blk, off, none⟩) n cap, .int .i64 a, .int .i64 m, .int .i64 b, .func (.func g) #[] cb] w fun e w' => e = .returned (.tuple #[]) ∧ ∃ d', SWK enc k w0 blk off d' w' ∧ MPost K a b d d'

set_option maxHeartbeats 16000000 in
set_option maxRecDepth 1000000 in
theorem symMerge_big (k : Nat) (L : StL P k) (enc : α → List Value) (cf : α → α → Int) (K : α → Nat) (g : Nat) (cb : Array Value) (blk off cap : Nat) (d0 : Array α) (w0 : World)
    (eg : ∀ args w, (callFunc g args).run P w = .ok (.enter g args) w) (hcmp : CmpLays P g cb enc k cf blk off d0.size w0) (R : RowK enc k w0 blk off d0) 
    (n a m b : Nat) (hsz : n < 4611686018427387904) (hs0 : d0.size = n) (ham : a < m) (hmb : m < b) (hma : m ≠ a + 1) (hb1 : b ≠ m + 1) (hb : b ≤ n) (hgt : (a + b) / 2 < m)
    (IH : ∀ a' m' b', b' - a' < b - a → SMerge P enc k cf K g cb blk off cap w0 n a' m' b') :
    SMerge P enc k cf K g cb blk off cap w0 n a m b := by
  intro d w hd S _ _ _ hpre
  subst hd
  have mixed := L.mixed; have t0 := L.t0; have a0 := L.a0; have z0 := L.z0; have v0 := L.v0; have t3 := L.t3; have a3 := L.a3; have z3 := L.z3; have v3 := L.v3; have t4 := L.t4; have a4 := L.a4; have z4 := L.z4; have v4 := L.v4; have t58 := L.t58; have a58 := L.a58; have z58 := L.z58; have v58 := L.v58; have t130 := L.t130; have a130 := L.a130; have z130 := L.z130; have v130 := L.v130; have t133 := L.t133; have a133 := L.a133; have z133 := L.z133; have v133 := L.v133; have aE := L.aE; have zE := L.zE
  have e147 := L.e147
  have e146 := L.e146
  have FG := L.f146
  have HC : Aside _ := hcmp
  have S0 : Aside _ := S
  have hs : d0.size = d.size := hs0
  have K147 : Hid (∀ (x y c : Nat) (dk : Array α) (wr : World), dk.size = d.size → SWK enc k w0 blk off dk wr → x < y → y < c → c ≤ d.size → Calls P 147 #[.slice (some ⟨blk, off, none⟩) d.size cap, .int .i64 x, .int .i64 y, .int .i64 c, .func (.func g) #[] cb] wr fun e w' => e = .returned (.tuple #[]) ∧
      ∃ d', SWK enc k w0 blk off d' w' ∧ PermIn x c dk d' ∧ ∀ q, d'[q]! = rotF (fun i => dk[i]!) x y c q) := fun x y c dk wr h1 h2 h3 h4 h5 => by
    rw [← h1]
    exact rotate_any k L enc _ blk off cap x y c d0 dk w0 wr R (by omega) h2 h3 h4 (by omega) (by omega)
  have hm1 : IntKind.i64.wrap ((m : Int) - (a : Int)) = ((m - a : Nat) : Int) := by rw [IntKind.wrap_i64]; omega
  obtain ⟨ma, hmae⟩ : ∃ q, q = m - a := ⟨_, rfl⟩
  rw [← hmae] at hm1
  have hm2 : ((ma : Int) == 1) = false := by simp; omega
  have hb2 : IntKind.i64.wrap ((b : Int) - (m : Int)) = ((b - m : Nat) : Int) := by rw [IntKind.wrap_i64]; omega
  obtain ⟨mb, hmbe⟩ : ∃ q, q = b - m := ⟨_, rfl⟩
  rw [← hmbe] at hb2
  have hb3 : ((mb : Int) == 1) = false := by simp; omega
  -- the middle, and the number n
  obtain ⟨md, hmd⟩ : ∃ q, q = (a + b) / 2 := ⟨_, rfl⟩
  obtain ⟨nn, hnn⟩ : ∃ q, q = md + m := ⟨_, rfl⟩
  obtain ⟨pp, hpp⟩ : ∃ q, q = nn - 1 := ⟨_, rfl⟩
  have rs0 : IntKind.i64.wrap ((a : Int) + (b : Int)) = (a : Int) + (b : Int) := by rw [IntKind.wrap_i64]; omega
  have rh0 : ((a : Int) + (b : Int)) / 2 = (md : Int) := by omega
  have rn0 : IntKind.i64.wrap ((md : Int) + (m : Int)) = (nn : Int) := by rw [IntKind.wrap_i64]; omega
  have rp0 : IntKind.i64.wrap ((nn : Int) - 1) = (pp : Int) := by rw [IntKind.wrap_i64]; omega
  obtain ⟨lo, hlo⟩ : ∃ q, q = nn - b := ⟨_, rfl⟩
  have hloe : sLo a m b = lo := by rw [hlo, hnn, hmd]; unfold sLo; rw [if_pos hgt]
  have hhie : sHi a m b = md := by rw [hmd]; unfold sHi; rw [if_pos hgt]
  have rlo : IntKind.i64.wrap ((nn : Int) - (b : Int)) = (lo : Int) := by rw [IntKind.wrap_i64]; omega
  have hgz : (md : Int) < (m : Int) := by omega
  have hlohi : lo ≤ md := by have h := sLo_le a m b ham hmb; rw [hloe, hhie] at h; exact h
  have hloa : a ≤ lo := by have h := sLo_ge a m b ham hmb; rw [hloe] at h; exact h
  have hpe : (a + b) / 2 + m - 1 = pp := by omega
  have DN : Hid (Down (fun h => 0 ≤ cf d[pp - h]! d[h]!) lo md) := by have h := down3' hpre ham hmb; rw [hhie, hpe, hloe] at h; exact h
  have MIR : Hid (∀ c, lo ≤ c → c < md → m ≤ pp - c ∧ pp - c < b) := fun c c1 c2 => by have h := sMir a m b c ham hmb (by rw [hloe]; exact c1) (by rw [hhie]; exact c2); rw [hpe] at h; exact h
  have NUM : Hid (md = (a + b) / 2 ∧ nn = md + m ∧ pp = nn - 1) := ⟨hmd, hnn, hpp⟩
  have hppn : pp < nn := by omega
  have hnnb : nn < 9223372036854775808 := by omega
  have hmdn : md ≤ nn ∧ m ≤ nn := by omega
  have ENDS : Hid (∀ s e, lo ≤ s → s ≤ md → e = nn - s → a ≤ s ∧ s ≤ m ∧ s ≤ md ∧ m ≤ e ∧ md ≤ e ∧ e ≤ b ∧ e - m = md - s) := fun s e s1 s2 s3 => by
    have h := sEnd a m b s ham hmb (by rw [hloe]; exact s1) (by rw [hhie]; exact s2)
    rw [s3, hnn, hmd]; exact ⟨h.1, h.2.1, h.2.2.1, h.2.2.2.1, h.2.2.2.2.1, h.2.2.2.2.2, by omega⟩
  have HALF0 : Hid (∀ s e, e = nn - s → Cut (fun h => 0 ≤ cf d[pp - h]! d[h]!) lo md s → ∀ d1 : Array α, (∀ x, d1[x]! = rotF (fun i => d[i]!) s m e x) →
      MPre cf K a s md d1 ∧ MPre cf K md e b d1 ∧ ∀ i j, a ≤ i → i < md → md ≤ j → j < b → K d1[i]! ≤ K d1[j]!) := fun s e he hc d1 h1 => by
    have h := halves' (s := s) hpre ham hmb (by rw [hhie, hpe, hloe]; exact hc) (d1 := d1) (fun x => by rw [h1 x, he, hnn, hmd])
    rw [he, hnn, hmd]
    exact h
  have hmda : a ≤ md ∧ md ≤ b := by omega
  have KIH : Hid (∀ a' m' b', b' - a' < b - a → SMerge P enc k cf K g cb blk off cap w0 d.size a' m' b') := IH
  have hmd2 : a + 1 < md ∧ md + 1 < b := by omega
  clear hcmp S hpre IH hs0 hmae hmbe hmd hnn hpp hlo hloe hhie hpe hgt
  go_enter FG, Try.ntmps146
  go_wp2
  go_loopg [20, 21] (md - lo) (fun kx si sj wr => ∃ i j : Nat, si = .int .i64 i ∧ sj = .int .i64 j ∧ lo ≤ i ∧ i ≤ j ∧ j ≤ md ∧ j - i ≤ kx ∧ Aside (SWK enc k w0 blk off d wr) ∧ Hid ((∀ h, lo ≤ h → h < i → 0 ≤ cf d[pp - h]! d[h]!) ∧ (∀ h, j ≤ h → h < md → cf d[pp - h]! d[h]! < 0)))
  case atStart => exact ⟨lo, md, rfl, rfl, Nat.le_refl _, by omega, Nat.le_refl _, Nat.le_refl _, S0, ⟨fun h h1 h2 => by omega, fun h h1 h2 => by omega⟩⟩
  case round =>
    clear S0
    obtain ⟨i, j, rfl, rfl, hlo, hij, hhi, hkx, S1, HI⟩ := hrel
    by_cases hlt : i < j
    · have hltz : (i : Int) < (j : Int) := by omega
      obtain ⟨h, hh⟩ : ∃ h, h = (i + j) / 2 := ⟨_, rfl⟩
      have h1 : i ≤ h := by omega
      have h2 : h < j := by omega
      have rs : IntKind.i64.wrap ((i : Int) + (j : Int)) = (i : Int) + (j : Int) := by rw [IntKind.wrap_i64]; omega
      have rh : ((i : Int) + (j : Int)) / 2 = (h : Int) := by omega
      have HH : Hid (h = (i + j) / 2) := hh
      clear hh
      obtain ⟨M1, M2⟩ := MIR.out h (by omega) (by omega)
      obtain ⟨mi, hmi⟩ : ∃ q, q = pp - h := ⟨_, rfl⟩
      have hph : h ≤ pp := by omega
      have rmi : IntKind.i64.wrap ((pp : Int) - (h : Int)) = (mi : Int) := by rw [IntKind.wrap_i64]; omega
      have bh : (h : Int) < (d.size : Int) := by omega
      have bha : (mi : Int) < (d.size : Int) := by omega
      have bhn : h < d.size := by omega
      have bmn : mi < d.size := by omega
      have rh1 : IntKind.i64.wrap ((h : Int) + 1) = (h : Int) + 1 := by rw [IntKind.wrap_i64]; omega
      have HMI : Hid (mi = pp - h) := hmi
      rw [← hmi] at M1 M2
      clear hmi
      by_cases hcf : cf d[mi]! d[h]! < 0
      · obtain ⟨xta, hxta⟩ : ∃ x, x = d[mi]! := ⟨_, rfl⟩
        obtain ⟨yta, hyta⟩ : ∃ x, x = d[h]! := ⟨_, rfl⟩
        have ltaa := S1.out.ld R (by omega) P mi (by omega)
        have ltab := S1.out.ld R (by omega) P h (by omega)
        rw [← hxta] at ltaa
        rw [← hyta] at ltab
        have hcta := S1.out.cmp HC.out (by omega) xta yta
        have hvta : cf xta yta < 0 := by rw [hxta, hyta]; exact hcf
        have hdta : decide (cf xta yta < 0) = true := decide_eq_true hvta
        clear hxta hyta
        go_wp2_with fail
        go_quiet_grown (first | (go_at_fn g; refine Calls.grown_of (hcta _ _)))
        have S2 : Aside (SWK enc k w0 blk off d (grow (wr.drewN nq) osq)) := S1.out.grown nq osq
        clear ltaa ltab hcta S1
        generalize grow (wr.drewN nq) osq = w2 at S2 ⊢
        clear nq osq
        go_wp2
        go_roundg (h - i)
        case measure => omega
        case rel =>
          have I := HI.out
          exact ⟨i, h, rfl, rfl, hlo, by omega, by omega, Nat.le_refl _, S2, ⟨I.1, fun q q1 q2 => Decidable.byContradiction fun hn => by have := DN.out h q (by omega) q1 q2 (show 0 ≤ cf d[pp - q]! d[q]! by omega); have h3 : 0 ≤ cf d[pp - h]! d[h]! := this; rw [← HMI.out] at h3; omega⟩⟩
      · obtain ⟨xtb, hxtb⟩ : ∃ x, x = d[mi]! := ⟨_, rfl⟩
        obtain ⟨ytb, hytb⟩ : ∃ x, x = d[h]! := ⟨_, rfl⟩
        have ltba := S1.out.ld R (by omega) P mi (by omega)
        have ltbb := S1.out.ld R (by omega) P h (by omega)
        rw [← hxtb] at ltba
        rw [← hytb] at ltbb
        have hctb := S1.out.cmp HC.out (by omega) xtb ytb
        have hvtb : ¬ cf xtb ytb < 0 := by rw [hxtb, hytb]; exact hcf
        have hdtb : decide (cf xtb ytb < 0) = false := decide_eq_false hvtb
        clear hxtb hytb
        go_wp2_with fail
        go_quiet_grown (first | (go_at_fn g; refine Calls.grown_of (hctb _ _)))
        have S2 : Aside (SWK enc k w0 blk off d (grow (wr.drewN nq) osq)) := S1.out.grown nq osq
        clear ltba ltbb hctb S1
        generalize grow (wr.drewN nq) osq = w2 at S2 ⊢
        clear nq osq
        go_wp2
        go_roundg (j - (h + 1))
        case measure => omega
        case rel =>
          have I := HI.out
          exact ⟨h + 1, j, by go_num, rfl, by omega, by omega, hhi, Nat.le_refl _, S2, ⟨fun q q1 q2 => by have := DN.out q h q1 (by omega) (by omega) (show 0 ≤ cf d[pp - h]! d[h]! by rw [← HMI.out]; omega); have h3 : 0 ≤ cf d[pp - q]! d[q]! := this; omega, I.2⟩⟩
    · have hltz : ¬ (i : Int) < (j : Int) := by omega
      have hij : i = j := by omega
      subst hij
      have CUT : Hid (Cut (fun h => 0 ≤ cf d[pp - h]! d[h]!) lo md i) := ⟨hlo, by omega, fun h h1 h2 => by have := HI.out.1 h h1 h2; show 0 ≤ cf d[pp - h]! d[h]!; omega, fun h h1 h2 hn => by have := HI.out.2 h (by omega) h2; have hn2 : 0 ≤ cf d[pp - h]! d[h]! := hn; omega⟩
      clear HI hlt
      clear hkx hltz
      obtain ⟨e, he⟩ : ∃ q, q = nn - i := ⟨_, rfl⟩
      have hin : i ≤ nn := by omega
      have re : IntKind.i64.wrap ((nn : Int) - (i : Int)) = (e : Int) := by rw [IntKind.wrap_i64]; omega
      have HALF : Hid _ := HALF0.out i e he CUT.out
      obtain ⟨E1, E2, E3, E4, E5, E6, E7⟩ := ENDS.out i e (by omega) (by omega) he
      have heb : e ≤ d.size := by omega
      have heb2 : e ≤ b := E6
      have hmde : md ≤ e := E5
      have hmdb : md ≤ d.size := by omega
      have FIN : Hid (∀ d1 d2 d3 : Array α, d1.size = d.size → PermIn i e d d1 → (∀ i j, a ≤ i → i < md → md ≤ j → j < b → K d1[i]! ≤ K d1[j]!) → MPost K a md d1 d2 → MPost K md b d2 d3 → MPost K a b d d3) := fun d1 d2 d3 z1 p1 x1 m2 m3 => by
        have h := halves_end (by omega) hmda.1 hmda.2 x1 m2 m3
        exact ⟨permIn_trans _ _ _ _ _ (permIn_mono _ _ _ _ _ _ E1 E6 (by omega) p1) h.perm, h.srt⟩
      have KL : Hid (SMerge P enc k cf K g cb blk off cap w0 d.size a i md) := KIH.out a i md (by omega)
      have KR : Hid (∀ (d' : Array α) (w' : World), d'.size = d.size → SWK enc k w0 blk off d' w' → md < e → e < b → b ≤ b → MPre cf K md e b d' → _) := fun d' w' q1 q2 q3 q4 _ q5 => KIH.out md e b (by omega) d' w' q1 q2 q3 q4 (by omega) q5
      unfold SMerge at KL
      clear he HALF0 KIH CUT ENDS
      by_cases hr : i < m ∧ m < e
      · obtain ⟨hr1, hr2⟩ := hr
        have hr1z : (i : Int) < (m : Int) := by omega
        have hr2z : (m : Int) < (e : Int) := by omega
        go_wp2_with fail
        go_at_fn 147; (with_reducible refine (K147.out i m e d wr rfl S1.out hr1 hr2 heb).mono ?_); rintro e1 w1 ⟨rfl, d1, S2, P1, F1⟩
        have z1 : d1.size = d.size := P1.1
        obtain ⟨Q1, Q2, Q3⟩ := HALF.out d1 F1
        have HF : Hid (PermIn i e d d1) := P1
        have HQ1 : Hid _ := Q1
        have HQ2 : Hid _ := Q2
        have HQ3 : Hid _ := Q3
        clear P1 F1 Q1 Q2 Q3
        by_cases hx : a < i ∧ i < md
        · obtain ⟨hx1, hx2⟩ := hx
          have hx1z : (a : Int) < (i : Int) := by omega
          have hx2z : (i : Int) < (md : Int) := by omega
          go_wp2_with fail
          go_at_fn 146; (with_reducible refine (KL.out d1 w1 z1 S2 hx1 hx2 hmdb HQ1.out).mono ?_); rintro e2 w2 ⟨rfl, d2, S3, M2⟩
          have HM2 : Hid (MPost K a md d1 d2) := M2
          have z2 : d2.size = d.size := M2.perm.1.trans z1
          clear M2
          have HQ4 : Hid (MPre cf K md e b d2) := HQ2.out.congr (fun q q1 q2 => HM2.out.perm.2.1 q (by omega)) heb2 hmde
          by_cases hy : md < e ∧ e < b
          · obtain ⟨hy1, hy2⟩ := hy
            have hy1z : (md : Int) < (e : Int) := by omega
            have hy2z : (e : Int) < (b : Int) := by omega
            go_wp2_with fail
            go_at_fn 146; (with_reducible refine (KR.out d2 w2 z2 S3 hy1 hy2 (Nat.le_refl _) HQ4.out).mono ?_); rintro e3 w3 ⟨rfl, d3, S4, M3⟩
            have HM3 : Hid (MPost K md b d2 d3) := M3
            clear M3
            go_wp2_with fail
            refine bodyPost_end (results_none rfl _ _ _) ?_ ?_
            · rfl
            exact ⟨rfl, d3, S4, FIN.out d1 d2 d3 z1 HF.out HQ3.out HM2.out HM3.out⟩
          · have HM3 : Hid (MPost K md b d2 d2) := MPost.left HQ4.out (by omega)
            have hy3 : ¬ md < e ∨ (md < e ∧ ¬ e < b) := by omega
            rcases hy3 with hy3 | ⟨hy3, hy4⟩
            · go_wp2_with fail
              refine bodyPost_end (results_none rfl _ _ _) ?_ ?_
              · rfl
              exact ⟨rfl, d2, S3, FIN.out d1 d2 d2 z1 HF.out HQ3.out HM2.out HM3.out⟩
            · go_wp2_with fail
              refine bodyPost_end (results_none rfl _ _ _) ?_ ?_
              · rfl
              exact ⟨rfl, d2, S3, FIN.out d1 d2 d2 z1 HF.out HQ3.out HM2.out HM3.out⟩
        · obtain ⟨d2, hd2⟩ : ∃ q, q = d1 := ⟨_, rfl⟩
          have HM2 : Hid (MPost K a md d1 d2) := by rw [hd2]; exact MPost.left HQ1.out (by omega)
          have z2 : d2.size = d.size := by rw [hd2]; exact z1
          have S3 : SWK enc k w0 blk off d2 w1 := by rw [hd2]; exact S2
          clear hd2
          have hx3 : ¬ a < i ∨ (a < i ∧ ¬ i < md) := by omega
          rcases hx3 with hx3 | ⟨hx3, hx4⟩
          · have HQ4 : Hid (MPre cf K md e b d2) := HQ2.out.congr (fun q q1 q2 => HM2.out.perm.2.1 q (by omega)) heb2 hmde
            by_cases hy : md < e ∧ e < b
            · obtain ⟨hy1, hy2⟩ := hy
              have hy1z : (md : Int) < (e : Int) := by omega
              have hy2z : (e : Int) < (b : Int) := by omega
              go_wp2_with fail
              go_at_fn 146; (with_reducible refine (KR.out d2 w1 z2 S3 hy1 hy2 (Nat.le_refl _) HQ4.out).mono ?_); rintro e3 w3 ⟨rfl, d3, S4, M3⟩
              have HM3 : Hid (MPost K md b d2 d3) := M3
              clear M3
              go_wp2_with fail
              refine bodyPost_end (results_none rfl _ _ _) ?_ ?_
              · rfl
              exact ⟨rfl, d3, S4, FIN.out d1 d2 d3 z1 HF.out HQ3.out HM2.out HM3.out⟩
            · have HM3 : Hid (MPost K md b d2 d2) := MPost.left HQ4.out (by omega)
              have hy3 : ¬ md < e ∨ (md < e ∧ ¬ e < b) := by omega
              rcases hy3 with hy3 | ⟨hy3, hy4⟩
              · go_wp2_with fail
                refine bodyPost_end (results_none rfl _ _ _) ?_ ?_
                · rfl
                exact ⟨rfl, d2, S3, FIN.out d1 d2 d2 z1 HF.out HQ3.out HM2.out HM3.out⟩
              · go_wp2_with fail
                refine bodyPost_end (results_none rfl _ _ _) ?_ ?_
                · rfl
                exact ⟨rfl, d2, S3, FIN.out d1 d2 d2 z1 HF.out HQ3.out HM2.out HM3.out⟩
          · have HQ4 : Hid (MPre cf K md e b d2) := HQ2.out.congr (fun q q1 q2 => HM2.out.perm.2.1 q (by omega)) heb2 hmde
            by_cases hy : md < e ∧ e < b
            · obtain ⟨hy1, hy2⟩ := hy
              have hy1z : (md : Int) < (e : Int) := by omega
              have hy2z : (e : Int) < (b : Int) := by omega
              go_wp2_with fail
              go_at_fn 146; (with_reducible refine (KR.out d2 w1 z2 S3 hy1 hy2 (Nat.le_refl _) HQ4.out).mono ?_); rintro e3 w3 ⟨rfl, d3, S4, M3⟩
              have HM3 : Hid (MPost K md b d2 d3) := M3
              clear M3
              go_wp2_with fail
              refine bodyPost_end (results_none rfl _ _ _) ?_ ?_
              · rfl
              exact ⟨rfl, d3, S4, FIN.out d1 d2 d3 z1 HF.out HQ3.out HM2.out HM3.out⟩
            · have HM3 : Hid (MPost K md b d2 d2) := MPost.left HQ4.out (by omega)
              have hy3 : ¬ md < e ∨ (md < e ∧ ¬ e < b) := by omega
              rcases hy3 with hy3 | ⟨hy3, hy4⟩
              · go_wp2_with fail
                refine bodyPost_end (results_none rfl _ _ _) ?_ ?_
                · rfl
                exact ⟨rfl, d2, S3, FIN.out d1 d2 d2 z1 HF.out HQ3.out HM2.out HM3.out⟩
              · go_wp2_with fail
                refine bodyPost_end (results_none rfl _ _ _) ?_ ?_
                · rfl
                exact ⟨rfl, d2, S3, FIN.out d1 d2 d2 z1 HF.out HQ3.out HM2.out HM3.out⟩
      · obtain ⟨d1, hd1⟩ : ∃ q, q = d := ⟨_, rfl⟩
        have P1 : PermIn i e d d1 := by rw [hd1]; exact permIn_refl _ _ _
        have F1 : ∀ q, d1[q]! = rotF (fun z => d[z]!) i m e q := fun q => by
          rw [hd1]; unfold rotF
          by_cases c1 : i ≤ q ∧ q < i + (e - m)
          · rw [if_pos c1]; congr 1; omega
          · rw [if_neg c1]
            by_cases c2 : i + (e - m) ≤ q ∧ q < e
            · rw [if_pos c2]; congr 1; omega
            · rw [if_neg c2]
        have z1 : d1.size = d.size := by rw [hd1]
        have S2 : SWK enc k w0 blk off d1 wr := by rw [hd1]; exact S1.out
        clear hd1
        obtain ⟨Q1, Q2, Q3⟩ := HALF.out d1 F1
        have HF : Hid (PermIn i e d d1) := P1
        have HQ1 : Hid _ := Q1
        have HQ2 : Hid _ := Q2
        have HQ3 : Hid _ := Q3
        clear P1 F1 Q1 Q2 Q3
        have hr3 : ¬ i < m ∨ (i < m ∧ ¬ m < e) := by omega
        rcases hr3 with hr3 | ⟨hr3, hr4⟩
        · by_cases hx : a < i ∧ i < md
          · obtain ⟨hx1, hx2⟩ := hx
            have hx1z : (a : Int) < (i : Int) := by omega
            have hx2z : (i : Int) < (md : Int) := by omega
            go_wp2_with fail
            go_at_fn 146; (with_reducible refine (KL.out d1 wr z1 S2 hx1 hx2 hmdb HQ1.out).mono ?_); rintro e2 w2 ⟨rfl, d2, S3, M2⟩
            have HM2 : Hid (MPost K a md d1 d2) := M2
            have z2 : d2.size = d.size := M2.perm.1.trans z1
            clear M2
            have HQ4 : Hid (MPre cf K md e b d2) := HQ2.out.congr (fun q q1 q2 => HM2.out.perm.2.1 q (by omega)) heb2 hmde
            by_cases hy : md < e ∧ e < b
            · obtain ⟨hy1, hy2⟩ := hy
              have hy1z : (md : Int) < (e : Int) := by omega
              have hy2z : (e : Int) < (b : Int) := by omega
              go_wp2_with fail
              go_at_fn 146; (with_reducible refine (KR.out d2 w2 z2 S3 hy1 hy2 (Nat.le_refl _) HQ4.out).mono ?_); rintro e3 w3 ⟨rfl, d3, S4, M3⟩
              have HM3 : Hid (MPost K md b d2 d3) := M3
              clear M3
              go_wp2_with fail
              refine bodyPost_end (results_none rfl _ _ _) ?_ ?_
              · rfl
              exact ⟨rfl, d3, S4, FIN.out d1 d2 d3 z1 HF.out HQ3.out HM2.out HM3.out⟩
            · have HM3 : Hid (MPost K md b d2 d2) := MPost.left HQ4.out (by omega)
              have hy3 : ¬ md < e ∨ (md < e ∧ ¬ e < b) := by omega
              rcases hy3 with hy3 | ⟨hy3, hy4⟩
              · go_wp2_with fail
                refine bodyPost_end (results_none rfl _ _ _) ?_ ?_
                · rfl
                exact ⟨rfl, d2, S3, FIN.out d1 d2 d2 z1 HF.out HQ3.out HM2.out HM3.out⟩
              · go_wp2_with fail
                refine bodyPost_end (results_none rfl _ _ _) ?_ ?_
                · rfl
                exact ⟨rfl, d2, S3, FIN.out d1 d2 d2 z1 HF.out HQ3.out HM2.out HM3.out⟩
          · obtain ⟨d2, hd2⟩ : ∃ q, q = d1 := ⟨_, rfl⟩
            have HM2 : Hid (MPost K a md d1 d2) := by rw [hd2]; exact MPost.left HQ1.out (by omega)
            have z2 : d2.size = d.size := by rw [hd2]; exact z1
            have S3 : SWK enc k w0 blk off d2 wr := by rw [hd2]; exact S2
            clear hd2
            have hx3 : ¬ a < i ∨ (a < i ∧ ¬ i < md) := by omega
            rcases hx3 with hx3 | ⟨hx3, hx4⟩
            · have HQ4 : Hid (MPre cf K md e b d2) := HQ2.out.congr (fun q q1 q2 => HM2.out.perm.2.1 q (by omega)) heb2 hmde
              by_cases hy : md < e ∧ e < b
              · obtain ⟨hy1, hy2⟩ := hy
                have hy1z : (md : Int) < (e : Int) := by omega
                have hy2z : (e : Int) < (b : Int) := by omega
                go_wp2_with fail
                go_at_fn 146; (with_reducible refine (KR.out d2 wr z2 S3 hy1 hy2 (Nat.le_refl _) HQ4.out).mono ?_); rintro e3 w3 ⟨rfl, d3, S4, M3⟩
                have HM3 : Hid (MPost K md b d2 d3) := M3
                clear M3
                go_wp2_with fail
                refine bodyPost_end (results_none rfl _ _ _) ?_ ?_
                · rfl
                exact ⟨rfl, d3, S4, FIN.out d1 d2 d3 z1 HF.out HQ3.out HM2.out HM3.out⟩
              · have HM3 : Hid (MPost K md b d2 d2) := MPost.left HQ4.out (by omega)
                have hy3 : ¬ md < e ∨ (md < e ∧ ¬ e < b) := by omega
                rcases hy3 with hy3 | ⟨hy3, hy4⟩
                · go_wp2_with fail
                  refine bodyPost_end (results_none rfl _ _ _) ?_ ?_
                  · rfl
                  exact ⟨rfl, d2, S3, FIN.out d1 d2 d2 z1 HF.out HQ3.out HM2.out HM3.out⟩
                · go_wp2_with fail
                  refine bodyPost_end (results_none rfl _ _ _) ?_ ?_
                  · rfl
                  exact ⟨rfl, d2, S3, FIN.out d1 d2 d2 z1 HF.out HQ3.out HM2.out HM3.out⟩
            · have HQ4 : Hid (MPre cf K md e b d2) := HQ2.out.congr (fun q q1 q2 => HM2.out.perm.2.1 q (by omega)) heb2 hmde
              by_cases hy : md < e ∧ e < b
              · obtain ⟨hy1, hy2⟩ := hy
                have hy1z : (md : Int) < (e : Int) := by omega
                have hy2z : (e : Int) < (b : Int) := by omega
                go_wp2_with fail
                go_at_fn 146; (with_reducible refine (KR.out d2 wr z2 S3 hy1 hy2 (Nat.le_refl _) HQ4.out).mono ?_); rintro e3 w3 ⟨rfl, d3, S4, M3⟩
                have HM3 : Hid (MPost K md b d2 d3) := M3
                clear M3
                go_wp2_with fail
                refine bodyPost_end (results_none rfl _ _ _) ?_ ?_
                · rfl
                exact ⟨rfl, d3, S4, FIN.out d1 d2 d3 z1 HF.out HQ3.out HM2.out HM3.out⟩
              · have HM3 : Hid (MPost K md b d2 d2) := MPost.left HQ4.out (by omega)
                have hy3 : ¬ md < e ∨ (md < e ∧ ¬ e < b) := by omega
                rcases hy3 with hy3 | ⟨hy3, hy4⟩
                · go_wp2_with fail
                  refine bodyPost_end (results_none rfl _ _ _) ?_ ?_
                  · rfl
                  exact ⟨rfl, d2, S3, FIN.out d1 d2 d2 z1 HF.out HQ3.out HM2.out HM3.out⟩
                · go_wp2_with fail
                  refine bodyPost_end (results_none rfl _ _ _) ?_ ?_
                  · rfl
                  exact ⟨rfl, d2, S3, FIN.out d1 d2 d2 z1 HF.out HQ3.out HM2.out HM3.out⟩
        · by_cases hx : a < i ∧ i < md
          · obtain ⟨hx1, hx2⟩ := hx
            have hx1z : (a : Int) < (i : Int) := by omega
            have hx2z : (i : Int) < (md : Int) := by omega
            go_wp2_with fail
            go_at_fn 146; (with_reducible refine (KL.out d1 wr z1 S2 hx1 hx2 hmdb HQ1.out).mono ?_); rintro e2 w2 ⟨rfl, d2, S3, M2⟩
            have HM2 : Hid (MPost K a md d1 d2) := M2
            have z2 : d2.size = d.size := M2.perm.1.trans z1
            clear M2
            have HQ4 : Hid (MPre cf K md e b d2) := HQ2.out.congr (fun q q1 q2 => HM2.out.perm.2.1 q (by omega)) heb2 hmde
            by_cases hy : md < e ∧ e < b
            · obtain ⟨hy1, hy2⟩ := hy
              have hy1z : (md : Int) < (e : Int) := by omega
              have hy2z : (e : Int) < (b : Int) := by omega
              go_wp2_with fail
              go_at_fn 146; (with_reducible refine (KR.out d2 w2 z2 S3 hy1 hy2 (Nat.le_refl _) HQ4.out).mono ?_); rintro e3 w3 ⟨rfl, d3, S4, M3⟩
              have HM3 : Hid (MPost K md b d2 d3) := M3
              clear M3
              go_wp2_with fail
              refine bodyPost_end (results_none rfl _ _ _) ?_ ?_
              · rfl
              exact ⟨rfl, d3, S4, FIN.out d1 d2 d3 z1 HF.out HQ3.out HM2.out HM3.out⟩
            · have HM3 : Hid (MPost K md b d2 d2) := MPost.left HQ4.out (by omega)
              have hy3 : ¬ md < e ∨ (md < e ∧ ¬ e < b) := by omega
              rcases hy3 with hy3 | ⟨hy3, hy4⟩
              · go_wp2_with fail
                refine bodyPost_end (results_none rfl _ _ _) ?_ ?_
                · rfl
                exact ⟨rfl, d2, S3, FIN.out d1 d2 d2 z1 HF.out HQ3.out HM2.out HM3.out⟩
              · go_wp2_with fail
                refine bodyPost_end (results_none rfl _ _ _) ?_ ?_
                · rfl
                exact ⟨rfl, d2, S3, FIN.out d1 d2 d2 z1 HF.out HQ3.out HM2.out HM3.out⟩
          · obtain ⟨d2, hd2⟩ : ∃ q, q = d1 := ⟨_, rfl⟩
            have HM2 : Hid (MPost K a md d1 d2) := by rw [hd2]; exact MPost.left HQ1.out (by omega)
            have z2 : d2.size = d.size := by rw [hd2]; exact z1
            have S3 : SWK enc k w0 blk off d2 wr := by rw [hd2]; exact S2
            clear hd2
            have hx3 : ¬ a < i ∨ (a < i ∧ ¬ i < md) := by omega
            rcases hx3 with hx3 | ⟨hx3, hx4⟩
            · have HQ4 : Hid (MPre cf K md e b d2) := HQ2.out.congr (fun q q1 q2 => HM2.out.perm.2.1 q (by omega)) heb2 hmde
              by_cases hy : md < e ∧ e < b
              · obtain ⟨hy1, hy2⟩ := hy
                have hy1z : (md : Int) < (e : Int) := by omega
                have hy2z : (e : Int) < (b : Int) := by omega
                go_wp2_with fail
                go_at_fn 146; (with_reducible refine (KR.out d2 wr z2 S3 hy1 hy2 (Nat.le_refl _) HQ4.out).mono ?_); rintro e3 w3 ⟨rfl, d3, S4, M3⟩
                have HM3 : Hid (MPost K md b d2 d3) := M3
                clear M3
                go_wp2_with fail
                refine bodyPost_end (results_none rfl _ _ _) ?_ ?_
                · rfl
                exact ⟨rfl, d3, S4, FIN.out d1 d2 d3 z1 HF.out HQ3.out HM2.out HM3.out⟩
              · have HM3 : Hid (MPost K md b d2 d2) := MPost.left HQ4.out (by omega)
                have hy3 : ¬ md < e ∨ (md < e ∧ ¬ e < b) := by omega
                rcases hy3 with hy3 | ⟨hy3, hy4⟩
                · go_wp2_with fail
                  refine bodyPost_end (results_none rfl _ _ _) ?_ ?_
                  · rfl
                  exact ⟨rfl, d2, S3, FIN.out d1 d2 d2 z1 HF.out HQ3.out HM2.out HM3.out⟩
                · go_wp2_with fail
                  refine bodyPost_end (results_none rfl _ _ _) ?_ ?_
                  · rfl
                  exact ⟨rfl, d2, S3, FIN.out d1 d2 d2 z1 HF.out HQ3.out HM2.out HM3.out⟩
            · have HQ4 : Hid (MPre cf K md e b d2) := HQ2.out.congr (fun q q1 q2 => HM2.out.perm.2.1 q (by omega)) heb2 hmde
              by_cases hy : md < e ∧ e < b
              · obtain ⟨hy1, hy2⟩ := hy
                have hy1z : (md : Int) < (e : Int) := by omega
                have hy2z : (e : Int) < (b : Int) := by omega
                go_wp2_with fail
                go_at_fn 146; (with_reducible refine (KR.out d2 wr z2 S3 hy1 hy2 (Nat.le_refl _) HQ4.out).mono ?_); rintro e3 w3 ⟨rfl, d3, S4, M3⟩
                have HM3 : Hid (MPost K md b d2 d3) := M3
                clear M3
                go_wp2_with fail
                refine bodyPost_end (results_none rfl _ _ _) ?_ ?_
                · rfl
                exact ⟨rfl, d3, S4, FIN.out d1 d2 d3 z1 HF.out HQ3.out HM2.out HM3.out⟩
              · have HM3 : Hid (MPost K md b d2 d2) := MPost.left HQ4.out (by omega)
                have hy3 : ¬ md < e ∨ (md < e ∧ ¬ e < b) := by omega
                rcases hy3 with hy3 | ⟨hy3, hy4⟩
                · go_wp2_with fail
                  refine bodyPost_end (results_none rfl _ _ _) ?_ ?_
                  · rfl
                  exact ⟨rfl, d2, S3, FIN.out d1 d2 d2 z1 HF.out HQ3.out HM2.out HM3.out⟩
                · go_wp2_with fail
                  refine bodyPost_end (results_none rfl _ _ _) ?_ ?_
                  · rfl
                  exact ⟨rfl, d2, S3, FIN.out d1 d2 d2 z1 HF.out HQ3.out HM2.out HM3.out⟩

set_option maxHeartbeats 16000000 in
set_option maxRecDepth 1000000 in
theorem symMerge_low (k : Nat) (L : StL P k) (enc : α → List Value) (cf : α → α → Int) (K : α → Nat) (g : Nat) (cb : Array Value) (blk off cap : Nat) (d0 : Array α) (w0 : World)
    (eg : ∀ args w, (callFunc g args).run P w = .ok (.enter g args) w) (hcmp : CmpLays P g cb enc k cf blk off d0.size w0) (R : RowK enc k w0 blk off d0) 
    (n a m b : Nat) (hsz : n < 4611686018427387904) (hs0 : d0.size = n) (ham : a < m) (hmb : m < b) (hma : m ≠ a + 1) (hb1 : b ≠ m + 1) (hb : b ≤ n) (hgt : m ≤ (a + b) / 2)
    (IH : ∀ a' m' b', b' - a' < b - a → SMerge P enc k cf K g cb blk off cap w0 n a' m' b') :
    SMerge P enc k cf K g cb blk off cap w0 n a m b := by
  intro d w hd S _ _ _ hpre
  subst hd
  have mixed := L.mixed; have t0 := L.t0; have a0 := L.a0; have z0 := L.z0; have v0 := L.v0; have t3 := L.t3; have a3 := L.a3; have z3 := L.z3; have v3 := L.v3; have t4 := L.t4; have a4 := L.a4; have z4 := L.z4; have v4 := L.v4; have t58 := L.t58; have a58 := L.a58; have z58 := L.z58; have v58 := L.v58; have t130 := L.t130; have a130 := L.a130; have z130 := L.z130; have v130 := L.v130; have t133 := L.t133; have a133 := L.a133; have z133 := L.z133; have v133 := L.v133; have aE := L.aE; have zE := L.zE
  have e147 := L.e147
  have e146 := L.e146
  have FG := L.f146
  have HC : Aside _ := hcmp
  have S0 : Aside _ := S
  have hs : d0.size = d.size := hs0
  have K147 : Hid (∀ (x y c : Nat) (dk : Array α) (wr : World), dk.size = d.size → SWK enc k w0 blk off dk wr → x < y → y < c → c ≤ d.size → Calls P 147 #[.slice (some ⟨blk, off, none⟩) d.size cap, .int .i64 x, .int .i64 y, .int .i64 c, .func (.func g) #[] cb] wr fun e w' => e = .returned (.tuple #[]) ∧
      ∃ d', SWK enc k w0 blk off d' w' ∧ PermIn x c dk d' ∧ ∀ q, d'[q]! = rotF (fun i => dk[i]!) x y c q) := fun x y c dk wr h1 h2 h3 h4 h5 => by
    rw [← h1]
    exact rotate_any k L enc _ blk off cap x y c d0 dk w0 wr R (by omega) h2 h3 h4 (by omega) (by omega)
  have hm1 : IntKind.i64.wrap ((m : Int) - (a : Int)) = ((m - a : Nat) : Int) := by rw [IntKind.wrap_i64]; omega
  obtain ⟨ma, hmae⟩ : ∃ q, q = m - a := ⟨_, rfl⟩
  rw [← hmae] at hm1
  have hm2 : ((ma : Int) == 1) = false := by simp; omega
  have hb2 : IntKind.i64.wrap ((b : Int) - (m : Int)) = ((b - m : Nat) : Int) := by rw [IntKind.wrap_i64]; omega
  obtain ⟨mb, hmbe⟩ : ∃ q, q = b - m := ⟨_, rfl⟩
  rw [← hmbe] at hb2
  have hb3 : ((mb : Int) == 1) = false := by simp; omega
  -- the middle, and the number n
  obtain ⟨md, hmd⟩ : ∃ q, q = (a + b) / 2 := ⟨_, rfl⟩
  obtain ⟨nn, hnn⟩ : ∃ q, q = md + m := ⟨_, rfl⟩
  obtain ⟨pp, hpp⟩ : ∃ q, q = nn - 1 := ⟨_, rfl⟩
  have rs0 : IntKind.i64.wrap ((a : Int) + (b : Int)) = (a : Int) + (b : Int) := by rw [IntKind.wrap_i64]; omega
  have rh0 : ((a : Int) + (b : Int)) / 2 = (md : Int) := by omega
  have rn0 : IntKind.i64.wrap ((md : Int) + (m : Int)) = (nn : Int) := by rw [IntKind.wrap_i64]; omega
  have rp0 : IntKind.i64.wrap ((nn : Int) - 1) = (pp : Int) := by rw [IntKind.wrap_i64]; omega
  have hloe : sLo a m b = a := by unfold sLo; rw [if_neg (by omega)]
  have hhie : sHi a m b = m := by unfold sHi; rw [if_neg (by omega)]
  have hgz : ¬ (md : Int) < (m : Int) := by omega
  have hlohi : a ≤ m := by have h := sLo_le a m b ham hmb; rw [hloe, hhie] at h; exact h
  have hloa : a ≤ a := by have h := sLo_ge a m b ham hmb; rw [hloe] at h; exact h
  have hpe : (a + b) / 2 + m - 1 = pp := by omega
  have DN : Hid (Down (fun h => 0 ≤ cf d[pp - h]! d[h]!) a m) := by have h := down3' hpre ham hmb; rw [hhie, hpe, hloe] at h; exact h
  have MIR : Hid (∀ c, a ≤ c → c < m → m ≤ pp - c ∧ pp - c < b) := fun c c1 c2 => by have h := sMir a m b c ham hmb (by rw [hloe]; exact c1) (by rw [hhie]; exact c2); rw [hpe] at h; exact h
  have NUM : Hid (md = (a + b) / 2 ∧ nn = md + m ∧ pp = nn - 1) := ⟨hmd, hnn, hpp⟩
  have hppn : pp < nn := by omega
  have hnnb : nn < 9223372036854775808 := by omega
  have hmdn : md ≤ nn ∧ m ≤ nn := by omega
  have ENDS : Hid (∀ s e, a ≤ s → s ≤ m → e = nn - s → a ≤ s ∧ s ≤ m ∧ s ≤ md ∧ m ≤ e ∧ md ≤ e ∧ e ≤ b ∧ e - m = md - s) := fun s e s1 s2 s3 => by
    have h := sEnd a m b s ham hmb (by rw [hloe]; exact s1) (by rw [hhie]; exact s2)
    rw [s3, hnn, hmd]; exact ⟨h.1, h.2.1, h.2.2.1, h.2.2.2.1, h.2.2.2.2.1, h.2.2.2.2.2, by omega⟩
  have HALF0 : Hid (∀ s e, e = nn - s → Cut (fun h => 0 ≤ cf d[pp - h]! d[h]!) a m s → ∀ d1 : Array α, (∀ x, d1[x]! = rotF (fun i => d[i]!) s m e x) →
      MPre cf K a s md d1 ∧ MPre cf K md e b d1 ∧ ∀ i j, a ≤ i → i < md → md ≤ j → j < b → K d1[i]! ≤ K d1[j]!) := fun s e he hc d1 h1 => by
    have h := halves' (s := s) hpre ham hmb (by rw [hhie, hpe, hloe]; exact hc) (d1 := d1) (fun x => by rw [h1 x, he, hnn, hmd])
    rw [he, hnn, hmd]
    exact h
  have hmda : a ≤ md ∧ md ≤ b := by omega
  have KIH : Hid (∀ a' m' b', b' - a' < b - a → SMerge P enc k cf K g cb blk off cap w0 d.size a' m' b') := IH
  have hmd2 : a + 1 < md ∧ md + 1 < b := by omega
  clear hcmp S hpre IH hs0 hmae hmbe hmd hnn hpp hloe hhie hpe hgt
  go_enter FG, Try.ntmps146
  go_wp2
  go_loopg [20, 21] (m - a) (fun kx si sj wr => ∃ i j : Nat, si = .int .i64 i ∧ sj = .int .i64 j ∧ a ≤ i ∧ i ≤ j ∧ j ≤ m ∧ j - i ≤ kx ∧ Aside (SWK enc k w0 blk off d wr) ∧ Hid ((∀ h, a ≤ h → h < i → 0 ≤ cf d[pp - h]! d[h]!) ∧ (∀ h, j ≤ h → h < m → cf d[pp - h]! d[h]! < 0)))
  case atStart => exact ⟨a, m, rfl, rfl, Nat.le_refl _, by omega, Nat.le_refl _, Nat.le_refl _, S0, ⟨fun h h1 h2 => by omega, fun h h1 h2 => by omega⟩⟩
  case round =>
    clear S0
    obtain ⟨i, j, rfl, rfl, hlo, hij, hhi, hkx, S1, HI⟩ := hrel
    by_cases hlt : i < j
    · have hltz : (i : Int) < (j : Int) := by omega
      obtain ⟨h, hh⟩ : ∃ h, h = (i + j) / 2 := ⟨_, rfl⟩
      have h1 : i ≤ h := by omega
      have h2 : h < j := by omega
      have rs : IntKind.i64.wrap ((i : Int) + (j : Int)) = (i : Int) + (j : Int) := by rw [IntKind.wrap_i64]; omega
      have rh : ((i : Int) + (j : Int)) / 2 = (h : Int) := by omega
      have HH : Hid (h = (i + j) / 2) := hh
      clear hh
      obtain ⟨M1, M2⟩ := MIR.out h (by omega) (by omega)
      obtain ⟨mi, hmi⟩ : ∃ q, q = pp - h := ⟨_, rfl⟩
      have hph : h ≤ pp := by omega
      have rmi : IntKind.i64.wrap ((pp : Int) - (h : Int)) = (mi : Int) := by rw [IntKind.wrap_i64]; omega
      have bh : (h : Int) < (d.size : Int) := by omega
      have bha : (mi : Int) < (d.size : Int) := by omega
      have bhn : h < d.size := by omega
      have bmn : mi < d.size := by omega
      have rh1 : IntKind.i64.wrap ((h : Int) + 1) = (h : Int) + 1 := by rw [IntKind.wrap_i64]; omega
      have HMI : Hid (mi = pp - h) := hmi
      rw [← hmi] at M1 M2
      clear hmi
      by_cases hcf : cf d[mi]! d[h]! < 0
      · obtain ⟨xta, hxta⟩ : ∃ x, x = d[mi]! := ⟨_, rfl⟩
        obtain ⟨yta, hyta⟩ : ∃ x, x = d[h]! := ⟨_, rfl⟩
        have ltaa := S1.out.ld R (by omega) P mi (by omega)
        have ltab := S1.out.ld R (by omega) P h (by omega)
        rw [← hxta] at ltaa
        rw [← hyta] at ltab
        have hcta := S1.out.cmp HC.out (by omega) xta yta
        have hvta : cf xta yta < 0 := by rw [hxta, hyta]; exact hcf
        have hdta : decide (cf xta yta < 0) = true := decide_eq_true hvta
        clear hxta hyta
        go_wp2_with fail
        go_quiet_grown (first | (go_at_fn g; refine Calls.grown_of (hcta _ _)))
        have S2 : Aside (SWK enc k w0 blk off d (grow (wr.drewN nq) osq)) := S1.out.grown nq osq
        clear ltaa ltab hcta S1
        generalize grow (wr.drewN nq) osq = w2 at S2 ⊢
        clear nq osq
        go_wp2
        go_roundg (h - i)
        case measure => omega
        case rel =>
          have I := HI.out
          exact ⟨i, h, rfl, rfl, hlo, by omega, by omega, Nat.le_refl _, S2, ⟨I.1, fun q q1 q2 => Decidable.byContradiction fun hn => by have := DN.out h q (by omega) q1 q2 (show 0 ≤ cf d[pp - q]! d[q]! by omega); have h3 : 0 ≤ cf d[pp - h]! d[h]! := this; rw [← HMI.out] at h3; omega⟩⟩
      · obtain ⟨xtb, hxtb⟩ : ∃ x, x = d[mi]! := ⟨_, rfl⟩
        obtain ⟨ytb, hytb⟩ : ∃ x, x = d[h]! := ⟨_, rfl⟩
        have ltba := S1.out.ld R (by omega) P mi (by omega)
        have ltbb := S1.out.ld R (by omega) P h (by omega)
        rw [← hxtb] at ltba
        rw [← hytb] at ltbb
        have hctb := S1.out.cmp HC.out (by omega) xtb ytb
        have hvtb : ¬ cf xtb ytb < 0 := by rw [hxtb, hytb]; exact hcf
        have hdtb : decide (cf xtb ytb < 0) = false := decide_eq_false hvtb
        clear hxtb hytb
        go_wp2_with fail
        go_quiet_grown (first | (go_at_fn g; refine Calls.grown_of (hctb _ _)))
        have S2 : Aside (SWK enc k w0 blk off d (grow (wr.drewN nq) osq)) := S1.out.grown nq osq
        clear ltba ltbb hctb S1
        generalize grow (wr.drewN nq) osq = w2 at S2 ⊢
        clear nq osq
        go_wp2
        go_roundg (j - (h + 1))
        case measure => omega
        case rel =>
          have I := HI.out
          exact ⟨h + 1, j, by go_num, rfl, by omega, by omega, hhi, Nat.le_refl _, S2, ⟨fun q q1 q2 => by have := DN.out q h q1 (by omega) (by omega) (show 0 ≤ cf d[pp - h]! d[h]! by rw [← HMI.out]; omega); have h3 : 0 ≤ cf d[pp - q]! d[q]! := this; omega, I.2⟩⟩
    · have hltz : ¬ (i : Int) < (j : Int) := by omega
      have hij : i = j := by omega
      subst hij
      have CUT : Hid (Cut (fun h => 0 ≤ cf d[pp - h]! d[h]!) a m i) := ⟨hlo, by omega, fun h h1 h2 => by have := HI.out.1 h h1 h2; show 0 ≤ cf d[pp - h]! d[h]!; omega, fun h h1 h2 hn => by have := HI.out.2 h (by omega) h2; have hn2 : 0 ≤ cf d[pp - h]! d[h]! := hn; omega⟩
      clear HI hlt
      clear hkx hltz
      obtain ⟨e, he⟩ : ∃ q, q = nn - i := ⟨_, rfl⟩
      have hin : i ≤ nn := by omega
      have re : IntKind.i64.wrap ((nn : Int) - (i : Int)) = (e : Int) := by rw [IntKind.wrap_i64]; omega
      have HALF : Hid _ := HALF0.out i e he CUT.out
      obtain ⟨E1, E2, E3, E4, E5, E6, E7⟩ := ENDS.out i e (by omega) (by omega) he
      have heb : e ≤ d.size := by omega
      have heb2 : e ≤ b := E6
      have hmde : md ≤ e := E5
      have hmdb : md ≤ d.size := by omega
      have FIN : Hid (∀ d1 d2 d3 : Array α, d1.size = d.size → PermIn i e d d1 → (∀ i j, a ≤ i → i < md → md ≤ j → j < b → K d1[i]! ≤ K d1[j]!) → MPost K a md d1 d2 → MPost K md b d2 d3 → MPost K a b d d3) := fun d1 d2 d3 z1 p1 x1 m2 m3 => by
        have h := halves_end (by omega) hmda.1 hmda.2 x1 m2 m3
        exact ⟨permIn_trans _ _ _ _ _ (permIn_mono _ _ _ _ _ _ E1 E6 (by omega) p1) h.perm, h.srt⟩
      have KL : Hid (SMerge P enc k cf K g cb blk off cap w0 d.size a i md) := KIH.out a i md (by omega)
      have KR : Hid (∀ (d' : Array α) (w' : World), d'.size = d.size → SWK enc k w0 blk off d' w' → md < e → e < b → b ≤ b → MPre cf K md e b d' → _) := fun d' w' q1 q2 q3 q4 _ q5 => KIH.out md e b (by omega) d' w' q1 q2 q3 q4 (by omega) q5
      unfold SMerge at KL
      clear he HALF0 KIH CUT ENDS
      by_cases hr : i < m ∧ m < e
      · obtain ⟨hr1, hr2⟩ := hr
        have hr1z : (i : Int) < (m : Int) := by omega
        have hr2z : (m : Int) < (e : Int) := by omega
        go_wp2_with fail
        go_at_fn 147; (with_reducible refine (K147.out i m e d wr rfl S1.out hr1 hr2 heb).mono ?_); rintro e1 w1 ⟨rfl, d1, S2, P1, F1⟩
        have z1 : d1.size = d.size := P1.1
        obtain ⟨Q1, Q2, Q3⟩ := HALF.out d1 F1
        have HF : Hid (PermIn i e d d1) := P1
        have HQ1 : Hid _ := Q1
        have HQ2 : Hid _ := Q2
        have HQ3 : Hid _ := Q3
        clear P1 F1 Q1 Q2 Q3
        by_cases hx : a < i ∧ i < md
        · obtain ⟨hx1, hx2⟩ := hx
          have hx1z : (a : Int) < (i : Int) := by omega
          have hx2z : (i : Int) < (md : Int) := by omega
          go_wp2_with fail
          go_at_fn 146; (with_reducible refine (KL.out d1 w1 z1 S2 hx1 hx2 hmdb HQ1.out).mono ?_); rintro e2 w2 ⟨rfl, d2, S3, M2⟩
          have HM2 : Hid (MPost K a md d1 d2) := M2
          have z2 : d2.size = d.size := M2.perm.1.trans z1
          clear M2
          have HQ4 : Hid (MPre cf K md e b d2) := HQ2.out.congr (fun q q1 q2 => HM2.out.perm.2.1 q (by omega)) heb2 hmde
          by_cases hy : md < e ∧ e < b
          · obtain ⟨hy1, hy2⟩ := hy
            have hy1z : (md : Int) < (e : Int) := by omega
            have hy2z : (e : Int) < (b : Int) := by omega
            go_wp2_with fail
            go_at_fn 146; (with_reducible refine (KR.out d2 w2 z2 S3 hy1 hy2 (Nat.le_refl _) HQ4.out).mono ?_); rintro e3 w3 ⟨rfl, d3, S4, M3⟩
            have HM3 : Hid (MPost K md b d2 d3) := M3
            clear M3
            go_wp2_with fail
            refine bodyPost_end (results_none rfl _ _ _) ?_ ?_
            · rfl
            exact ⟨rfl, d3, S4, FIN.out d1 d2 d3 z1 HF.out HQ3.out HM2.out HM3.out⟩
          · have HM3 : Hid (MPost K md b d2 d2) := MPost.left HQ4.out (by omega)
            have hy3 : ¬ md < e ∨ (md < e ∧ ¬ e < b) := by omega
            rcases hy3 with hy3 | ⟨hy3, hy4⟩
            · go_wp2_with fail
              refine bodyPost_end (results_none rfl _ _ _) ?_ ?_
              · rfl
              exact ⟨rfl, d2, S3, FIN.out d1 d2 d2 z1 HF.out HQ3.out HM2.out HM3.out⟩
            · go_wp2_with fail
              refine bodyPost_end (results_none rfl _ _ _) ?_ ?_
              · rfl
              exact ⟨rfl, d2, S3, FIN.out d1 d2 d2 z1 HF.out HQ3.out HM2.out HM3.out⟩
        · obtain ⟨d2, hd2⟩ : ∃ q, q = d1 := ⟨_, rfl⟩
          have HM2 : Hid (MPost K a md d1 d2) := by rw [hd2]; exact MPost.left HQ1.out (by omega)
          have z2 : d2.size = d.size := by rw [hd2]; exact z1
          have S3 : SWK enc k w0 blk off d2 w1 := by rw [hd2]; exact S2
          clear hd2
          have hx3 : ¬ a < i ∨ (a < i ∧ ¬ i < md) := by omega
          rcases hx3 with hx3 | ⟨hx3, hx4⟩
          · have HQ4 : Hid (MPre cf K md e b d2) := HQ2.out.congr (fun q q1 q2 => HM2.out.perm.2.1 q (by omega)) heb2 hmde
            by_cases hy : md < e ∧ e < b
            · obtain ⟨hy1, hy2⟩ := hy
              have hy1z : (md : Int) < (e : Int) := by omega
              have hy2z : (e : Int) < (b : Int) := by omega
              go_wp2_with fail
              go_at_fn 146; (with_reducible refine (KR.out d2 w1 z2 S3 hy1 hy2 (Nat.le_refl _) HQ4.out).mono ?_); rintro e3 w3 ⟨rfl, d3, S4, M3⟩
              have HM3 : Hid (MPost K md b d2 d3) := M3
              clear M3
              go_wp2_with fail
              refine bodyPost_end (results_none rfl _ _ _) ?_ ?_
              · rfl
              exact ⟨rfl, d3, S4, FIN.out d1 d2 d3 z1 HF.out HQ3.out HM2.out HM3.out⟩
            · have HM3 : Hid (MPost K md b d2 d2) := MPost.left HQ4.out (by omega)
              have hy3 : ¬ md < e ∨ (md < e ∧ ¬ e < b) := by omega
              rcases hy3 with hy3 | ⟨hy3, hy4⟩
              · go_wp2_with fail
                refine bodyPost_end (results_none rfl _ _ _) ?_ ?_
                · rfl
                exact ⟨rfl, d2, S3, FIN.out d1 d2 d2 z1 HF.out HQ3.out HM2.out HM3.out⟩
              · go_wp2_with fail
                refine bodyPost_end (results_none rfl _ _ _) ?_ ?_
                · rfl
                exact ⟨rfl, d2, S3, FIN.out d1 d2 d2 z1 HF.out HQ3.out HM2.out HM3.out⟩
          · have HQ4 : Hid (MPre cf K md e b d2) := HQ2.out.congr (fun q q1 q2 => HM2.out.perm.2.1 q (by omega)) heb2 hmde
            by_cases hy : md < e ∧ e < b
            · obtain ⟨hy1, hy2⟩ := hy
              have hy1z : (md : Int) < (e : Int) := by omega
              have hy2z : (e : Int) < (b : Int) := by omega
              go_wp2_with fail
              go_at_fn 146; (with_reducible refine (KR.out d2 w1 z2 S3 hy1 hy2 (Nat.le_refl _) HQ4.out).mono ?_); rintro e3 w3 ⟨rfl, d3, S4, M3⟩
              have HM3 : Hid (MPost K md b d2 d3) := M3
              clear M3
              go_wp2_with fail
              refine bodyPost_end (results_none rfl _ _ _) ?_ ?_
              · rfl
              exact ⟨rfl, d3, S4, FIN.out d1 d2 d3 z1 HF.out HQ3.out HM2.out HM3.out⟩
            · have HM3 : Hid (MPost K md b d2 d2) := MPost.left HQ4.out (by omega)
              have hy3 : ¬ md < e ∨ (md < e ∧ ¬ e < b) := by omega
              rcases hy3 with hy3 | ⟨hy3, hy4⟩
              · go_wp2_with fail
                refine bodyPost_end (results_none rfl _ _ _) ?_ ?_
                · rfl
                exact ⟨rfl, d2, S3, FIN.out d1 d2 d2 z1 HF.out HQ3.out HM2.out HM3.out⟩
              · go_wp2_with fail
                refine bodyPost_end (results_none rfl _ _ _) ?_ ?_
                · rfl
                exact ⟨rfl, d2, S3, FIN.out d1 d2 d2 z1 HF.out HQ3.out HM2.out HM3.out⟩
      · obtain ⟨d1, hd1⟩ : ∃ q, q = d := ⟨_, rfl⟩
        have P1 : PermIn i e d d1 := by rw [hd1]; exact permIn_refl _ _ _
        have F1 : ∀ q, d1[q]! = rotF (fun z => d[z]!) i m e q := fun q => by
          rw [hd1]; unfold rotF
          by_cases c1 : i ≤ q ∧ q < i + (e - m)
          · rw [if_pos c1]; congr 1; omega
          · rw [if_neg c1]
            by_cases c2 : i + (e - m) ≤ q ∧ q < e
            · rw [if_pos c2]; congr 1; omega
            · rw [if_neg c2]
        have z1 : d1.size = d.size := by rw [hd1]
        have S2 : SWK enc k w0 blk off d1 wr := by rw [hd1]; exact S1.out
        clear hd1
        obtain ⟨Q1, Q2, Q3⟩ := HALF.out d1 F1
        have HF : Hid (PermIn i e d d1) := P1
        have HQ1 : Hid _ := Q1
        have HQ2 : Hid _ := Q2
        have HQ3 : Hid _ := Q3
        clear P1 F1 Q1 Q2 Q3
        have hr3 : ¬ i < m ∨ (i < m ∧ ¬ m < e) := by omega
        rcases hr3 with hr3 | ⟨hr3, hr4⟩
        · by_cases hx : a < i ∧ i < md
          · obtain ⟨hx1, hx2⟩ := hx
            have hx1z : (a : Int) < (i : Int) := by omega
            have hx2z : (i : Int) < (md : Int) := by omega
            go_wp2_with fail
            go_at_fn 146; (with_reducible refine (KL.out d1 wr z1 S2 hx1 hx2 hmdb HQ1.out).mono ?_); rintro e2 w2 ⟨rfl, d2, S3, M2⟩
            have HM2 : Hid (MPost K a md d1 d2) := M2
            have z2 : d2.size = d.size := M2.perm.1.trans z1
            clear M2
            have HQ4 : Hid (MPre cf K md e b d2) := HQ2.out.congr (fun q q1 q2 => HM2.out.perm.2.1 q (by omega)) heb2 hmde
            by_cases hy : md < e ∧ e < b
            · obtain ⟨hy1, hy2⟩ := hy
              have hy1z : (md : Int) < (e : Int) := by omega
              have hy2z : (e : Int) < (b : Int) := by omega
              go_wp2_with fail
              go_at_fn 146; (with_reducible refine (KR.out d2 w2 z2 S3 hy1 hy2 (Nat.le_refl _) HQ4.out).mono ?_); rintro e3 w3 ⟨rfl, d3, S4, M3⟩
              have HM3 : Hid (MPost K md b d2 d3) := M3
              clear M3
              go_wp2_with fail
              refine bodyPost_end (results_none rfl _ _ _) ?_ ?_
              · rfl
              exact ⟨rfl, d3, S4, FIN.out d1 d2 d3 z1 HF.out HQ3.out HM2.out HM3.out⟩
            · have HM3 : Hid (MPost K md b d2 d2) := MPost.left HQ4.out (by omega)
              have hy3 : ¬ md < e ∨ (md < e ∧ ¬ e < b) := by omega
              rcases hy3 with hy3 | ⟨hy3, hy4⟩
              · go_wp2_with fail
                refine bodyPost_end (results_none rfl _ _ _) ?_ ?_
                · rfl
                exact ⟨rfl, d2, S3, FIN.out d1 d2 d2 z1 HF.out HQ3.out HM2.out HM3.out⟩
              · go_wp2_with fail
                refine bodyPost_end (results_none rfl _ _ _) ?_ ?_
                · rfl
                exact ⟨rfl, d2, S3, FIN.out d1 d2 d2 z1 HF.out HQ3.out HM2.out HM3.out⟩
          · obtain ⟨d2, hd2⟩ : ∃ q, q = d1 := ⟨_, rfl⟩
            have HM2 : Hid (MPost K a md d1 d2) := by rw [hd2]; exact MPost.left HQ1.out (by omega)
            have z2 : d2.size = d.size := by rw [hd2]; exact z1
            have S3 : SWK enc k w0 blk off d2 wr := by rw [hd2]; exact S2
            clear hd2
            have hx3 : ¬ a < i ∨ (a < i ∧ ¬ i < md) := by omega
            rcases hx3 with hx3 | ⟨hx3, hx4⟩
            · have HQ4 : Hid (MPre cf K md e b d2) := HQ2.out.congr (fun q q1 q2 => HM2.out.perm.2.1 q (by omega)) heb2 hmde
              by_cases hy : md < e ∧ e < b
              · obtain ⟨hy1, hy2⟩ := hy
                have hy1z : (md : Int) < (e : Int) := by omega
                have hy2z : (e : Int) < (b : Int) := by omega
                go_wp2_with fail
                go_at_fn 146; (with_reducible refine (KR.out d2 wr z2 S3 hy1 hy2 (Nat.le_refl _) HQ4.out).mono ?_); rintro e3 w3 ⟨rfl, d3, S4, M3⟩
                have HM3 : Hid (MPost K md b d2 d3) := M3
                clear M3
                go_wp2_with fail
                refine bodyPost_end (results_none rfl _ _ _) ?_ ?_
                · rfl
                exact ⟨rfl, d3, S4, FIN.out d1 d2 d3 z1 HF.out HQ3.out HM2.out HM3.out⟩
              · have HM3 : Hid (MPost K md b d2 d2) := MPost.left HQ4.out (by omega)
                have hy3 : ¬ md < e ∨ (md < e ∧ ¬ e < b) := by omega
                rcases hy3 with hy3 | ⟨hy3, hy4⟩
                · go_wp2_with fail
                  refine bodyPost_end (results_none rfl _ _ _) ?_ ?_
                  · rfl
                  exact ⟨rfl, d2, S3, FIN.out d1 d2 d2 z1 HF.out HQ3.out HM2.out HM3.out⟩
                · go_wp2_with fail
                  refine bodyPost_end (results_none rfl _ _ _) ?_ ?_
                  · rfl
                  exact ⟨rfl, d2, S3, FIN.out d1 d2 d2 z1 HF.out HQ3.out HM2.out HM3.out⟩
            · have HQ4 : Hid (MPre cf K md e b d2) := HQ2.out.congr (fun q q1 q2 => HM2.out.perm.2.1 q (by omega)) heb2 hmde
              by_cases hy : md < e ∧ e < b
              · obtain ⟨hy1, hy2⟩ := hy
                have hy1z : (md : Int) < (e : Int) := by omega
                have hy2z : (e : Int) < (b : Int) := by omega
                go_wp2_with fail
                go_at_fn 146; (with_reducible refine (KR.out d2 wr z2 S3 hy1 hy2 (Nat.le_refl _) HQ4.out).mono ?_); rintro e3 w3 ⟨rfl, d3, S4, M3⟩
                have HM3 : Hid (MPost K md b d2 d3) := M3
                clear M3
                go_wp2_with fail
                refine bodyPost_end (results_none rfl _ _ _) ?_ ?_
                · rfl
                exact ⟨rfl, d3, S4, FIN.out d1 d2 d3 z1 HF.out HQ3.out HM2.out HM3.out⟩
              · have HM3 : Hid (MPost K md b d2 d2) := MPost.left HQ4.out (by omega)
                have hy3 : ¬ md < e ∨ (md < e ∧ ¬ e < b) := by omega
                rcases hy3 with hy3 | ⟨hy3, hy4⟩
                · go_wp2_with fail
                  refine bodyPost_end (results_none rfl _ _ _) ?_ ?_
                  · rfl
                  exact ⟨rfl, d2, S3, FIN.out d1 d2 d2 z1 HF.out HQ3.out HM2.out HM3.out⟩
                · go_wp2_with fail
                  refine bodyPost_end (results_none rfl _ _ _) ?_ ?_
                  · rfl
                  exact ⟨rfl, d2, S3, FIN.out d1 d2 d2 z1 HF.out HQ3.out HM2.out HM3.out⟩
        · by_cases hx : a < i ∧ i < md
          · obtain ⟨hx1, hx2⟩ := hx
            have hx1z : (a : Int) < (i : Int) := by omega
            have hx2z : (i : Int) < (md : Int) := by omega
            go_wp2_with fail
            go_at_fn 146; (with_reducible refine (KL.out d1 wr z1 S2 hx1 hx2 hmdb HQ1.out).mono ?_); rintro e2 w2 ⟨rfl, d2, S3, M2⟩
            have HM2 : Hid (MPost K a md d1 d2) := M2
            have z2 : d2.size = d.size := M2.perm.1.trans z1
            clear M2
            have HQ4 : Hid (MPre cf K md e b d2) := HQ2.out.congr (fun q q1 q2 => HM2.out.perm.2.1 q (by omega)) heb2 hmde
            by_cases hy : md < e ∧ e < b
            · obtain ⟨hy1, hy2⟩ := hy
              have hy1z : (md : Int) < (e : Int) := by omega
              have hy2z : (e : Int) < (b : Int) := by omega
              go_wp2_with fail
              go_at_fn 146; (with_reducible refine (KR.out d2 w2 z2 S3 hy1 hy2 (Nat.le_refl _) HQ4.out).mono ?_); rintro e3 w3 ⟨rfl, d3, S4, M3⟩
              have HM3 : Hid (MPost K md b d2 d3) := M3
              clear M3
              go_wp2_with fail
              refine bodyPost_end (results_none rfl _ _ _) ?_ ?_
              · rfl
              exact ⟨rfl, d3, S4, FIN.out d1 d2 d3 z1 HF.out HQ3.out HM2.out HM3.out⟩
            · have HM3 : Hid (MPost K md b d2 d2) := MPost.left HQ4.out (by omega)
              have hy3 : ¬ md < e ∨ (md < e ∧ ¬ e < b) := by omega
              rcases hy3 with hy3 | ⟨hy3, hy4⟩
              · go_wp2_with fail
                refine bodyPost_end (results_none rfl _ _ _) ?_ ?_
                · rfl
                exact ⟨rfl, d2, S3, FIN.out d1 d2 d2 z1 HF.out HQ3.out HM2.out HM3.out⟩
              · go_wp2_with fail
                refine bodyPost_end (results_none rfl _ _ _) ?_ ?_
                · rfl
                exact ⟨rfl, d2, S3, FIN.out d1 d2 d2 z1 HF.out HQ3.out HM2.out HM3.out⟩
          · obtain ⟨d2, hd2⟩ : ∃ q, q = d1 := ⟨_, rfl⟩
            have HM2 : Hid (MPost K a md d1 d2) := by rw [hd2]; exact MPost.left HQ1.out (by omega)
            have z2 : d2.size = d.size := by rw [hd2]; exact z1
            have S3 : SWK enc k w0 blk off d2 wr := by rw [hd2]; exact S2
            clear hd2
            have hx3 : ¬ a < i ∨ (a < i ∧ ¬ i < md) := by omega
            rcases hx3 with hx3 | ⟨hx3, hx4⟩
            · have HQ4 : Hid (MPre cf K md e b d2) := HQ2.out.congr (fun q q1 q2 => HM2.out.perm.2.1 q (by omega)) heb2 hmde
              by_cases hy : md < e ∧ e < b
              · obtain ⟨hy1, hy2⟩ := hy
                have hy1z : (md : Int) < (e : Int) := by omega
                have hy2z : (e : Int) < (b : Int) := by omega
                go_wp2_with fail
                go_at_fn 146; (with_reducible refine (KR.out d2 wr z2 S3 hy1 hy2 (Nat.le_refl _) HQ4.out).mono ?_); rintro e3 w3 ⟨rfl, d3, S4, M3⟩
                have HM3 : Hid (MPost K md b d2 d3) := M3
                clear M3
                go_wp2_with fail
                refine bodyPost_end (results_none rfl _ _ _) ?_ ?_
                · rfl
                exact ⟨rfl, d3, S4, FIN.out d1 d2 d3 z1 HF.out HQ3.out HM2.out HM3.out⟩
              · have HM3 : Hid (MPost K md b d2 d2) := MPost.left HQ4.out (by omega)
                have hy3 : ¬ md < e ∨ (md < e ∧ ¬ e < b) := by omega
                rcases hy3 with hy3 | ⟨hy3, hy4⟩
                · go_wp2_with fail
                  refine bodyPost_end (results_none rfl _ _ _) ?_ ?_
                  · rfl
                  exact ⟨rfl, d2, S3, FIN.out d1 d2 d2 z1 HF.out HQ3.out HM2.out HM3.out⟩
                · go_wp2_with fail
                  refine bodyPost_end (results_none rfl _ _ _) ?_ ?_
                  · rfl
                  exact ⟨rfl, d2, S3, FIN.out d1 d2 d2 z1 HF.out HQ3.out HM2.out HM3.out⟩
            · have HQ4 : Hid (MPre cf K md e b d2) := HQ2.out.congr (fun q q1 q2 => HM2.out.perm.2.1 q (by omega)) heb2 hmde
              by_cases hy : md < e ∧ e < b
              · obtain ⟨hy1, hy2⟩ := hy
                have hy1z : (md : Int) < (e : Int) := by omega
                have hy2z : (e : Int) < (b : Int) := by omega
                go_wp2_with fail
                go_at_fn 146; (with_reducible refine (KR.out d2 wr z2 S3 hy1 hy2 (Nat.le_refl _) HQ4.out).mono ?_); rintro e3 w3 ⟨rfl, d3, S4, M3⟩
                have HM3 : Hid (MPost K md b d2 d3) := M3
                clear M3
                go_wp2_with fail
                refine bodyPost_end (results_none rfl _ _ _) ?_ ?_
                · rfl
                exact ⟨rfl, d3, S4, FIN.out d1 d2 d3 z1 HF.out HQ3.out HM2.out HM3.out⟩
              · have HM3 : Hid (MPost K md b d2 d2) := MPost.left HQ4.out (by omega)
                have hy3 : ¬ md < e ∨ (md < e ∧ ¬ e < b) := by omega
                rcases hy3 with hy3 | ⟨hy3, hy4⟩
                · go_wp2_with fail
                  refine bodyPost_end (results_none rfl _ _ _) ?_ ?_
                  · rfl
                  exact ⟨rfl, d2, S3, FIN.out d1 d2 d2 z1 HF.out HQ3.out HM2.out HM3.out⟩
                · go_wp2_with fail
                  refine bodyPost_end (results_none rfl _ _ _) ?_ ?_
                  · rfl
                  exact ⟨rfl, d2, S3, FIN.out d1 d2 d2 z1 HF.out HQ3.out HM2.out HM3.out⟩
end

/-! slices.symMergeCmpFunc, whole; slices.stableCmpFunc up to 160 places; slices.SortStableFunc. -/
section
set_option linter.unusedVariables false
set_option linter.unusedSimpArgs false
open Go.Shelf Go.RowKit Go.Lib Go.Sort
variable {P : Program} {α : Type} [Inhabited α]

theorem symMerge_any (k : Nat) (L : StL P k) (enc : α → List Value) (cf : α → α → Int) (K : α → Nat) (g : Nat) (cb : Array Value) (blk off cap : Nat) (d0 : Array α) (w0 : World)
    (eg : ∀ args w, (callFunc g args).run P w = .ok (.enter g args) w) (hcmp : CmpLays P g cb enc k cf blk off d0.size w0) (R : RowK enc k w0 blk off d0) (n : Nat) (hs0 : d0.size = n) (hsz : n < 4611686018427387904) :
    ∀ N a m b, b - a < N → SMerge P enc k cf K g cb blk off cap w0 n a m b := by
  intro N
  induction N with
  | zero => intro a m b h; exact absurd h (Nat.not_lt_zero _)
  | succ N ih =>
    intro a m b hN d w hd S ham hmb hb hpre
    by_cases h1 : m = a + 1
    · subst hd
      exact symMerge_one k L enc cf K g cb blk off cap d0 w0 eg hcmp R (by omega) a m b d w hs0 S h1 hmb hb hpre
    · by_cases h2 : b = m + 1
      · subst hd
        exact symMerge_two k L enc cf K g cb blk off cap d0 w0 eg hcmp R (by omega) a m b d w hs0 S ham h1 h2 hb hpre
      · by_cases h3 : (a + b) / 2 < m
        · exact symMerge_big k L enc cf K g cb blk off cap d0 w0 eg hcmp R n a m b hsz hs0 ham hmb h1 h2 hb h3 (fun a' m' b' h => ih a' m' b' (by omega)) d w hd S ham hmb hb hpre
        · exact symMerge_low k L enc cf K g cb blk off cap d0 w0 eg hcmp R n a m b hsz hs0 ham hmb h1 h2 hb (by omega) (fun a' m' b' h => ih a' m' b' (by omega)) d w hd S ham hmb hb hpre

set_option maxHeartbeats 8000000 in
set_option maxRecDepth 1000000 in
theorem stable_any (k : Nat) (L : StL P k) (enc : α → List Value) (cf : α → α → Int) (K : α → Nat) (g : Nat) (cb : Array Value) (blk off cap : Nat) (d0 : Array α) (w0 : World)
    (eg : ∀ args w, (callFunc g args).run P w = .ok (.enter g args) w) (hcmp : CmpLays P g cb enc k cf blk off d0.size w0) (R : RowK enc k w0 blk off d0) (n : Nat) (hs0 : d0.size = n) (hsz : n ≤ 160)
    (hins : ∀ (a b : Nat) (d : Array α) (w : World), d.size = n → SWK enc k w0 blk off d w → a ≤ b → b ≤ n → Calls P 145 #[.slice (some ⟨blk, off, none⟩) n cap, .int .i64 a, .int .i64 b, .func (.func g) #[] cb] w fun e w' => e = .returned (.tuple #[]) ∧ SWK enc k w0 blk off (Sort.insertionSort (ltOf cf) d a b) w')
    (hC : ∀ i j, i < j → j < n → Crs cf K d0[i]! d0[j]!) (w : World) (S : SWK enc k w0 blk off d0 w) :
    Calls P 144 #[.slice (some ⟨blk, off, none⟩) n cap, .int .i64 n, .func (.func g) #[] cb] w fun e w' => e = .returned (.tuple #[]) ∧ ∃ d', SWK enc k w0 blk off d' w' ∧ MPost K 0 n d0 d' := by
  have mixed := L.mixed; have t0 := L.t0; have a0 := L.a0; have z0 := L.z0; have v0 := L.v0; have t3 := L.t3; have a3 := L.a3; have z3 := L.z3; have v3 := L.v3; have t4 := L.t4; have a4 := L.a4; have z4 := L.z4; have v4 := L.v4; have t58 := L.t58; have a58 := L.a58; have z58 := L.z58; have v58 := L.v58; have t130 := L.t130; have a130 := L.a130; have z130 := L.z130; have v130 := L.v130; have t133 := L.t133; have a133 := L.a133; have z133 := L.z133; have v133 := L.v133
  have e145 := L.e145
  have e146 := L.e146
  have FG := L.f144
  have HSM : Hid (∀ a m b, SMerge P enc k cf K g cb blk off cap w0 n a m b) := fun a m b => symMerge_any k L enc cf K g cb blk off cap d0 w0 eg hcmp R n hs0 (by omega) (b - a + 1) a m b (by omega)
  have HI : Hid (∀ (a b : Nat) (d : Array α) (w : World), d.size = n → SWK enc k w0 blk off d w → a ≤ b → b ≤ n → Calls P 145 #[.slice (some ⟨blk, off, none⟩) n cap, .int .i64 a, .int .i64 b, .func (.func g) #[] cb] w fun e w' => e = .returned (.tuple #[]) ∧ SWK enc k w0 blk off (Sort.insertionSort (ltOf cf) d a b) w') := hins
  have HCr : Hid (∀ i j, i < j → j < n → Crs cf K d0[i]! d0[j]!) := hC
  have HZ : Hid (d0.size = n) := hs0
  have S0 : Aside (SWK enc k w0 blk off d0 w) := S
  clear hcmp R hins hC S hs0 L
  unfold SMerge at HSM
  go_enter FG, Try.ntmps144
  go_wp2
  go_loopg [7, 8] n (fun kx s7 s8 wr => ∃ (t A B : Nat) (dk : Array α), s7 = .int .i64 A ∧ s8 = .int .i64 B ∧ Hid (A = 20 * t ∧ B = A + 20) ∧ A ≤ n ∧ n - A ≤ kx ∧ Hid (dk.size = n) ∧ Hid (ISt cf K d0 n t dk) ∧ Aside (SWK enc k w0 blk off dk wr))
  case atStart => exact ⟨0, 0, 20, d0, rfl, rfl, ⟨rfl, rfl⟩, by omega, by omega, HZ, ISt.start d0 n, S0⟩
  case round =>
    clear S0
    obtain ⟨t, A, B, dk, rfl, rfl, HAB, hAn, hkx, hds, HS, S1⟩ := hrel
    by_cases hle : B ≤ n
    · have hlez : (B : Int) ≤ (n : Int) := by omega
      obtain ⟨B2, hB2⟩ : ∃ q, q = B + 20 := ⟨_, rfl⟩
      have rB : IntKind.i64.wrap ((B : Int) + 20) = (B2 : Int) := by rw [IntKind.wrap_i64]; omega
      have HB2 : Hid (B2 = B + 20) := hB2
      clear hB2
      have hAB : A ≤ B := by obtain ⟨h1, h2⟩ := HAB.out; omega
      go_wp2_with fail
      go_at_fn 145; (with_reducible refine (HI.out A B dk wr hds.out S1.out hAB hle).mono ?_); rintro e1 w1 ⟨rfl, S2⟩
      have P1 : Hid (ISt cf K d0 n (t + 1) (Sort.insertionSort (ltOf cf) dk A B)) := by
        obtain ⟨h1, h2⟩ := HAB.out
        have hz := hds.out
        have hz0 := HZ.out
        refine HS.out.step (by omega) (by omega) ?_
        rw [← h1, ← h2]
        exact ins_post (ltOf cf) (fun _ _ => rfl) hAB (by omega) (fun i j q1 q2 q3 => HS.out.crs HCr.out hle i j (by omega) q2 q3)
      have hz2 : Hid ((Sort.insertionSort (ltOf cf) dk A B).size = n) := P1.out.perm.1.trans HZ.out
      generalize Sort.insertionSort (ltOf cf) dk A B = d1 at S2 P1 hz2
      have S3 : Aside (SWK enc k w0 blk off d1 w1) := S2
      clear S2
      go_wp2_with fail
      go_roundg (n - B)
      case measure => obtain ⟨h1, h2⟩ := HAB.out; omega
      case rel => exact ⟨t + 1, B, B2, d1, rfl, rfl, ⟨by obtain ⟨h1, h2⟩ := HAB.out; omega, HB2.out⟩, hle, Nat.le_refl _, hz2, P1, S3⟩
    · have hlez : ¬ (B : Int) ≤ (n : Int) := by omega
      go_wp2_with fail
      go_at_fn 145; (with_reducible refine (HI.out A n dk wr hds.out S1.out hAn (Nat.le_refl _)).mono ?_); rintro e1 w1 ⟨rfl, S2⟩
      have P1 : Hid (BSt cf K d0 n 20 (Sort.insertionSort (ltOf cf) dk A n)) := by
        obtain ⟨h1, h2⟩ := HAB.out
        have hz := hds.out
        have hz0 := HZ.out
        refine HS.out.done (by omega) (by omega) (by omega) ?_
        rw [← h1]
        exact ins_post (ltOf cf) (fun _ _ => rfl) hAn (by omega) (fun i j q1 q2 q3 => HS.out.crs HCr.out (Nat.le_refl _) i j (by omega) q2 q3)
      generalize Sort.insertionSort (ltOf cf) dk A n = d1 at S2 P1
      have S3 : Aside (SWK enc k w0 blk off d1 w1) := S2
      clear S2 S1 HS HAB hds hkx hlez hle hAn
      go_wp2_with fail
      go_loopg [6] n (fun kx s6 wr => ∃ (bs : Nat) (dk : Array α), s6 = .int .i64 bs ∧ Hid (Bs bs ∨ bs = 160) ∧ n - bs ≤ kx ∧ bs ≤ 160 ∧ 20 ≤ bs ∧ Hid (BSt cf K d0 n bs dk) ∧ Aside (SWK enc k w0 blk off dk wr))
      case atStart => exact ⟨20, d1, rfl, Or.inl (Or.inl rfl), by omega, by omega, by omega, P1, S3⟩
      case round =>
        clear S3 P1
        obtain ⟨bs, dk, rfl, HBs, hkx, hb160, hb20, HB, S1⟩ := hrel
        by_cases hlt : bs < n
        · have hltz : (bs : Int) < (n : Int) := by omega
          have HBS : Hid (Bs bs) := by rcases HBs.out with h | h; exact h; omega
          obtain ⟨b2, hb2⟩ : ∃ q, q = 2 * bs := ⟨_, rfl⟩
          have r2 : IntKind.i64.wrap (2 * (bs : Int)) = (b2 : Int) := by rw [IntKind.wrap_i64]; omega
          have r2' : IntKind.i64.wrap ((bs : Int) * 2) = (b2 : Int) := by rw [IntKind.wrap_i64]; omega
          have HB2 : Hid (b2 = 2 * bs) := hb2
          have hb2g : bs < b2 := by omega
          clear hb2
          go_wp2_with fail
          go_loopg [7, 8] n (fun kx s7 s8 wr => ∃ (t A B : Nat) (dk : Array α), s7 = .int .i64 A ∧ s8 = .int .i64 B ∧ Hid (A = 2 * bs * t ∧ B = A + b2) ∧ A ≤ n ∧ n - A ≤ kx ∧ Hid (MSt cf K d0 n bs t dk) ∧ Aside (SWK enc k w0 blk off dk wr))
          case atStart => exact ⟨0, 0, b2, dk, rfl, rfl, ⟨by omega, by omega⟩, by omega, by omega, HB.out.go HBS.out, S1⟩
          case round =>
            clear S1
            obtain ⟨t, A, B, dk, rfl, rfl, HAB, hAn, hkx2, HM, S1⟩ := hrel
            have hz : dk.size = n := HM.out.perm.1.trans HZ.out
            have HZ2 : Hid (dk.size = n) := hz
            clear hz
            obtain ⟨m, hm⟩ : ∃ q, q = A + bs := ⟨_, rfl⟩
            have rm : IntKind.i64.wrap ((A : Int) + (bs : Int)) = (m : Int) := by rw [IntKind.wrap_i64]; omega
            have HMm : Hid (m = A + bs) := hm
            have ham : A < m := by omega
            clear hm
            have hBA : B = A + b2 := HAB.out.2
            have hmB : m < B := by have := HMm.out; omega
            have hBn : B ≤ n + 320 := by have := HB2.out; omega
            clear hBA
            by_cases hle : B ≤ n
            · have hlez : (B : Int) ≤ (n : Int) := by omega
              obtain ⟨C, hC⟩ : ∃ q, q = B + b2 := ⟨_, rfl⟩
              have rC : IntKind.i64.wrap ((B : Int) + (b2 : Int)) = (C : Int) := by rw [IntKind.wrap_i64]; have := HB2.out; omega
              have HCC : Hid (C = B + b2) := hC
              clear hC
              go_wp2_with fail
              go_at_fn 146; (with_reducible refine (HSM.out A m B dk wr HZ2.out S1.out ham hmB hle ?pre).mono ?_)
              case pre =>
                obtain ⟨h1, h2⟩ := HAB.out
                have h3 := HMm.out
                have h4 := HB2.out
                rw [h3, h1]
                exact HM.out.pre HBS.out HCr.out hle (by omega) (by omega)
              rintro e2 w2 ⟨rfl, d2, S2, M2⟩
              have HN : Hid (MSt cf K d0 n bs (t + 1) d2) := by
                obtain ⟨h1, h2⟩ := HAB.out
                have h4 := HB2.out
                have hz0 := HZ.out
                rw [h1] at M2
                exact HM.out.step HBS.out (by omega) hle (Or.inl (by omega)) (by omega) M2
              have S3 : Aside (SWK enc k w0 blk off d2 w2) := S2
              clear S2 M2
              go_wp2_with fail
              go_roundg (n - B)
              case measure => omega
              case rel => exact ⟨t + 1, B, C, d2, rfl, rfl, ⟨by obtain ⟨h1, h2⟩ := HAB.out; have h4 := HB2.out; rw [h2, h1, h4, Nat.mul_add, Nat.mul_one], HCC.out⟩, hle, Nat.le_refl _, HN, S3⟩
            · have hlez : ¬ (B : Int) ≤ (n : Int) := by omega
              by_cases hmn : m < n
              · have hmnz : (m : Int) < (n : Int) := by omega
                go_wp2_with fail
                go_at_fn 146; (with_reducible refine (HSM.out A m n dk wr HZ2.out S1.out ham hmn (Nat.le_refl _) ?pre).mono ?_)
                case pre =>
                  obtain ⟨h1, h2⟩ := HAB.out
                  have h3 := HMm.out
                  have h4 := HB2.out
                  rw [h3, h1]
                  exact HM.out.pre HBS.out HCr.out (Nat.le_refl _) (by omega) (by omega)
                rintro e2 w2 ⟨rfl, d2, S2, M2⟩
                have HN : Hid (BSt cf K d0 n b2 d2) := by
                  obtain ⟨h1, h2⟩ := HAB.out
                  have h4 := HB2.out
                  have hz0 := HZ.out
                  rw [h1] at M2
                  rw [h4]
                  exact (HM.out.step HBS.out (by omega) (Nat.le_refl _) (Or.inr ⟨rfl, by omega⟩) (by omega) M2).done HBS.out (by rw [Nat.mul_add, Nat.mul_one]; omega)
                have S3 : Aside (SWK enc k w0 blk off d2 w2) := S2
                clear S2 M2
                go_wp2_with fail
                go_roundg (n - b2)
                case measure => omega
                case rel => exact ⟨b2, d2, rfl, by have h4 := HB2.out; rcases HBS.out with h | h | h; exact Or.inl (Or.inr (Or.inl (by omega))); exact Or.inl (Or.inr (Or.inr (by omega))); exact Or.inr (by omega), Nat.le_refl _, by have h4 := HB2.out; rcases HBS.out with h | h | h <;> omega, by omega, HN, S3⟩
              · have hmnz : ¬ (m : Int) < (n : Int) := by omega
                have HN : Hid (BSt cf K d0 n b2 dk) := by
                  obtain ⟨h1, h2⟩ := HAB.out
                  have h3 := HMm.out
                  have h4 := HB2.out
                  rw [h4]
                  exact HM.out.done HBS.out (by omega)
                go_wp2_with fail
                go_roundg (n - b2)
                case measure => omega
                case rel => exact ⟨b2, dk, rfl, by have h4 := HB2.out; rcases HBS.out with h | h | h; exact Or.inl (Or.inr (Or.inl (by omega))); exact Or.inl (Or.inr (Or.inr (by omega))); exact Or.inr (by omega), Nat.le_refl _, by have h4 := HB2.out; rcases HBS.out with h | h | h <;> omega, by omega, HN, S1⟩
        · have hltz : ¬ (bs : Int) < (n : Int) := by omega
          go_wp2_with fail
          refine bodyPost_end (results_none rfl _ _ _) ?_ ?_
          · rfl
          exact ⟨rfl, dk, S1.out, HB.out.done (by omega)⟩
end
end Go.Proofs.Ytkjnheikimpliaa
