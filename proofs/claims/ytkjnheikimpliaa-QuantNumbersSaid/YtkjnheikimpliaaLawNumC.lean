/- The law QuantNumbers, joined. -/
import Derived.Test.YtkjnheikimpliaaLawNumB
namespace Go.Proofs.Ytkjnheikimpliaa
set_option linter.unusedVariables false
set_option linter.unusedSimpArgs false
open Go.RowKit

theorem quantNumbers_law (w : World) (x y : Int) (A : Option Addr) (l : List Int) (cap : Nat) (_ : I64 x) (_ : I64 y) (hr : RowAt w w.heap.size .u8 A l) (hu : U8s l) (hm : l.length ≤ maxLen) (hcap : l.length ≤ cap) (A1 : Option Addr) (cs : List Col) (cap1 : Nat) (hr1 : RowAt w w.heap.size .u8 A1 (bytesL cs)) (hcs : ∀ k, k < cs.length → (cs.getD k ⟨0, 0, 0, 0⟩).ok) (_ : cs.length ≤ maxLen) (A2 : Option Addr) (l2 : List Int) (cap2 : Nat) (hr2 : RowAt w w.heap.size .i64 A2 l2) (hu2 : ∀ z ∈ l2, I64 z) (_ : l2.length ≤ maxLen) (a : Int) (_ : I64 a) :
    Calls Try.prog 19 #[imgV x y A l.length cap, .slice A1 cs.length cap1, .slice A2 l2.length cap2, .int .i64 a] w fun e w' => e = .returned (.bool true) ∧ Below w.heap.size w w' := by
  by_cases h1 : 600 < l.length
  · exact qn_big0 x y A A1 A2 l l2 cs cap cap1 cap2 a w h1
  by_cases h2 : 40 < cs.length
  · exact qn_big1 x y A A1 A2 l l2 cs cap cap1 cap2 a w ⟨h1, h2⟩
  by_cases h3 : 300 < l2.length
  · exact qn_big2 x y A A1 A2 l l2 cs cap cap1 cap2 a w ⟨h1, h2, h3⟩
  by_cases hbad : a < 1 ∨ 16384 < a ∨ l2.length = 0 ∨ (1 ≤ a ∧ a ≤ 16384 ∧ l2.length % a.toNat ≠ 0)
  · by_cases hR : rightI x y l.length
    · by_cases h0 : cs.length = 0
      · exact qn_p2s x y A A1 A2 l l2 cs cap cap1 cap2 a w h1 h2 h3 hR h0 hbad
      · have hx := hR.1.1
        have hy := hR.2.1.1
        obtain ⟨W, rfl⟩ := Int.eq_ofNat_of_zero_le (show 0 ≤ x by omega)
        obtain ⟨H, rfl⟩ := Int.eq_ofNat_of_zero_le (show 0 ≤ y by omega)
        exact qn_p3s W H A A1 A2 l l2 cs cap cap1 cap2 a w h1 h2 h3 hr hcap hu hr1 hcs hr2 hu2 hR (by omega) hbad
    · exact qn_p1s x y A A1 A2 l l2 cs cap cap1 cap2 a w h1 h2 h3 hR hbad
  · obtain ⟨X, rfl⟩ := Int.eq_ofNat_of_zero_le (show 0 ≤ a by omega)
    have hX : 1 ≤ X ∧ X ≤ 16384 := by omega
    have hn : 1 ≤ l2.length := by omega
    have hmod : l2.length % X = 0 := Decidable.byContradiction fun h => hbad (.inr (.inr (.inr ⟨by omega, by omega, by simpa using h⟩)))
    by_cases hall : allIn l2 cs.length
    · by_cases hR : rightI x y l.length
      · have h0 : ¬ cs.length = 0 := fun h0 => by
          have := hall 0 (by omega)
          rw [h0] at this
          omega
        have hx := hR.1.1
        have hy := hR.2.1.1
        obtain ⟨W, rfl⟩ := Int.eq_ofNat_of_zero_le (show 0 ≤ x by omega)
        obtain ⟨H, rfl⟩ := Int.eq_ofNat_of_zero_le (show 0 ≤ y by omega)
        exact qn_p3g W H A A1 A2 l l2 cs cap cap1 cap2 w X hX hn hmod h1 h2 h3 hr hcap hu hr1 hcs hr2 hu2 hR (by omega) hall
      · exact qn_p1g x y A A1 A2 l l2 cs cap cap1 cap2 w X hX hn hmod h1 h2 h3 hr hcap hu hr1 hcs hr2 hu2 hR hall
    · by_cases hR : rightI x y l.length
      · by_cases h0 : cs.length = 0
        · exact qn_p2b x y A A1 A2 l l2 cs cap cap1 cap2 w X hX hn hmod h1 h2 h3 hr hcap hu hr1 hcs hr2 hu2 hR h0 hall
        · have hx := hR.1.1
          have hy := hR.2.1.1
          obtain ⟨W, rfl⟩ := Int.eq_ofNat_of_zero_le (show 0 ≤ x by omega)
          obtain ⟨H, rfl⟩ := Int.eq_ofNat_of_zero_le (show 0 ≤ y by omega)
          exact qn_p3b W H A A1 A2 l l2 cs cap cap1 cap2 w X hX hn hmod h1 h2 h3 hr hcap hu hr1 hcs hr2 hu2 hR (by omega) hall
      · exact qn_p1b x y A A1 A2 l l2 cs cap cap1 cap2 w X hX hn hmod h1 h2 h3 hr hcap hu hr1 hcs hr2 hu2 hR hall
end Go.Proofs.Ytkjnheikimpliaa
