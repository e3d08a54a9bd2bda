/- How far two colours are apart: palette.far, the reference's square and Far: walked. -/
import Derived.Test.YtkjnheikimpliaaCmpB
import Derived.Test.YtkjnheikimpliaaFrameB
namespace Go.Proofs.Ytkjnheikimpliaa
set_option linter.unusedVariables false
set_option linter.unusedSimpArgs false
open Go.RowKit
attribute [local go_sem ↓] Go.wp_at_zero Go.wp_at_succ

def sqdN (a b : Int) : Int := (a - b) * (a - b)
theorem sq_bd {d : Int} (h : -255 ≤ d ∧ d ≤ 255) : 0 ≤ d * d ∧ d * d ≤ 65025 := by
  have h1 : 0 ≤ d * d := by
    rcases Int.lt_or_le d 0 with h0 | h0
    · exact Int.le_of_lt (Int.mul_pos_of_neg_of_neg h0 h0)
    · exact Int.mul_nonneg h0 h0
  have h2 : 0 ≤ (255 - d) * (255 + d) := Int.mul_nonneg (by omega) (by omega)
  have e : (255 - d) * (255 + d) = 65025 - d * d := by rw [Int.sub_mul, Int.mul_add, Int.mul_add, Int.mul_comm d 255]; omega
  omega
theorem sqdN_bd {a b : Int} (ha : 0 ≤ a ∧ a ≤ 255) (hb : 0 ≤ b ∧ b ≤ 255) : 0 ≤ sqdN a b ∧ sqdN a b ≤ 65025 := sq_bd (by omega)
def farV (c d : Col) : Int := sqdN c.r d.r + sqdN c.g d.g + sqdN c.b d.b + sqdN c.a d.a
theorem farV_bd {c d : Col} (hc : c.ok) (hd : d.ok) : 0 ≤ farV c d ∧ farV c d ≤ 260100 := by
  have h1 := sqdN_bd hc.1 hd.1
  have h2 := sqdN_bd hc.2.1 hd.2.1
  have h3 := sqdN_bd hc.2.2.1 hd.2.2.1
  have h4 := sqdN_bd hc.2.2.2 hd.2.2.2
  unfold farV
  omega

theorem sqd_any (a b : Int) (ha : 0 ≤ a ∧ a ≤ 255) (hb : 0 ≤ b ∧ b ≤ 255) (w : World) : Calls Try.prog 141 #[.int .u8 a, .int .u8 b] w fun e w' => e = .returned (.int .i64 (sqdN a b)) ∧ w = w' := by
  have h1 := sqdN_bd ha hb
  unfold sqdN at *
  have h2 : IntKind.i64.wrap ((a - b) * (a - b)) = (a - b) * (a - b) := IntWalk.i64_in _ (by omega)
  go_enter Try.func141, Try.ntmps141
  go_wp2
  go_ret
  exact ⟨rfl, rfl⟩

set_option maxHeartbeats 2000000 in
theorem refFar_any (c o : Col) (hc : c.ok) (ho : o.ok) (w : World) : Calls Try.prog 131 #[colV c, colV o] w fun e w' => e = .returned (.int .i64 (farV c o)) ∧ Below w.heap.size w w' := by
  have KR := hide (sqd_any c.r o.r hc.1 ho.1)
  have KG := hide (sqd_any c.g o.g hc.2.1 ho.2.1)
  have KB := hide (sqd_any c.b o.b hc.2.2.1 ho.2.2.1)
  have KA := hide (sqd_any c.a o.a hc.2.2.2 ho.2.2.2)
  have b0 := sqdN_bd hc.1 ho.1
  have b1 := sqdN_bd hc.2.1 ho.2.1
  have b2 := sqdN_bd hc.2.2.1 ho.2.2.1
  have b3 := sqdN_bd hc.2.2.2 ho.2.2.2
  unfold farV
  obtain ⟨n0, h0⟩ : ∃ n, n = sqdN c.r o.r := ⟨_, rfl⟩
  obtain ⟨n1, h1⟩ : ∃ n, n = sqdN c.g o.g := ⟨_, rfl⟩
  obtain ⟨n2, h2⟩ : ∃ n, n = sqdN c.b o.b := ⟨_, rfl⟩
  obtain ⟨n3, h3⟩ : ∃ n, n = sqdN c.a o.a := ⟨_, rfl⟩
  rw [← h0] at KR b0 ⊢
  rw [← h1] at KG b1 ⊢
  rw [← h2] at KB b2 ⊢
  rw [← h3] at KA b3 ⊢
  clear h0 h1 h2 h3 hc ho
  obtain ⟨y0, y1, y2, y3⟩ := c
  obtain ⟨z0, z1, z2, z3⟩ := o
  have hbv : Below w.heap.size w ((w.alloc (.cells #[.int .u8 y0, .int .u8 y1, .int .u8 y2, .int .u8 y3] 36)).alloc (.cells #[.int .u8 z0, .int .u8 z1, .int .u8 z2, .int .u8 z3] 36)) := balloc (below_alloc w _) _
  have hC : Blk ((w.alloc (.cells #[.int .u8 y0, .int .u8 y1, .int .u8 y2, .int .u8 y3] 36)).alloc (.cells #[.int .u8 z0, .int .u8 z1, .int .u8 z2, .int .u8 z3] 36)) w.heap.size 36 #[.int .u8 y0, .int .u8 y1, .int .u8 y2, .int .u8 y3] := (Blk.new _ _ _).alloc _
  have hO : Blk ((w.alloc (.cells #[.int .u8 y0, .int .u8 y1, .int .u8 y2, .int .u8 y3] 36)).alloc (.cells #[.int .u8 z0, .int .u8 z1, .int .u8 z2, .int .u8 z3] 36)) (w.heap.size + 1) 36 #[.int .u8 z0, .int .u8 z1, .int .u8 z2, .int .u8 z3] := Blk.new' _ _ _ _ (by simp)
  have w1 : IntKind.i64.wrap (n0 + n1) = n0 + n1 := IntWalk.i64_in _ (by omega)
  have w2 : IntKind.i64.wrap (n0 + n1 + n2) = n0 + n1 + n2 := IntWalk.i64_in _ (by omega)
  have w3 : IntKind.i64.wrap (n0 + n1 + n2 + n3) = n0 + n1 + n2 + n3 := IntWalk.i64_in _ (by omega)
  go_enter Try.func131, Try.ntmps131
  go_wp2_with fail
  generalize (w.alloc (.cells #[.int .u8 y0, .int .u8 y1, .int .u8 y2, .int .u8 y3] 36)).alloc (.cells #[.int .u8 z0, .int .u8 z1, .int .u8 z2, .int .u8 z3] 36) = V at hbv hC hO ⊢
  obtain ⟨c0, c1, c2, c3, -⟩ := blk4 hC
  obtain ⟨o0, o1, o2, o3, -⟩ := blk4 hO
  have HBV := hide hbv
  clear hC hO hbv
  first | (go_region_held3 (fun w' => w'.cell? ⟨w.heap.size, 0, none⟩ = some (.int .u8 y0) ∧ w'.cell? ⟨w.heap.size, 1, none⟩ = some (.int .u8 y1) ∧ w'.cell? ⟨w.heap.size, 2, none⟩ = some (.int .u8 y2) ∧ w'.cell? ⟨w.heap.size, 3, none⟩ = some (.int .u8 y3) ∧ w'.cell? ⟨w.heap.size + 1, 0, none⟩ = some (.int .u8 z0) ∧ w'.cell? ⟨w.heap.size + 1, 1, none⟩ = some (.int .u8 z1) ∧ w'.cell? ⟨w.heap.size + 1, 2, none⟩ = some (.int .u8 z2) ∧ w'.cell? ⟨w.heap.size + 1, 3, none⟩ = some (.int .u8 z3)) (go_keep) (first | (go_at_call 141; (with_reducible refine (KR.out _).mono ?_); rintro e w1 ⟨rfl, rfl⟩) | (go_at_call 141; (with_reducible refine (KG.out _).mono ?_); rintro e w1 ⟨rfl, rfl⟩) | (go_at_call 141; (with_reducible refine (KB.out _).mono ?_); rintro e w1 ⟨rfl, rfl⟩) | (go_at_call 141; (with_reducible refine (KA.out _).mono ?_); rintro e w1 ⟨rfl, rfl⟩))) | fail
  all_goals
    go_wp2_with fail
    go_ret
    exact ⟨rfl, HBV.out.drew⟩

/-- The squares of a list, one behind the other. -/
def sqs (l : List Int) : Int := l.foldl (fun s d => s + d * d) 0
theorem sqs_take (l : List Int) (i : Nat) (h : i < l.length) : sqs (l.take (i + 1)) = sqs (l.take i) + l.getD i 0 * l.getD i 0 := by
  unfold sqs
  rw [List.take_succ_eq_append_getElem h, List.foldl_append]
  simp [List.getD, h]
theorem sqs_bd {l : List Int} (h : ∀ i : Nat, i < l.length → -255 ≤ l.getD i 0 ∧ l.getD i 0 ≤ 255) : ∀ i : Nat, i ≤ l.length → 0 ≤ sqs (l.take i) ∧ sqs (l.take i) ≤ 65025 * i := by
  intro i
  induction i with
  | zero => intro _; simp [sqs]
  | succ i ih =>
    intro hi
    have h1 := ih (by omega)
    have h2 := sq_bd (h i (by omega))
    rw [sqs_take _ _ (by omega)]
    push_cast
    omega

set_option maxRecDepth 100000 in
set_option maxHeartbeats 4000000 in
theorem far_any (c o : Col) (hc : c.ok) (ho : o.ok) (w : World) : Calls Try.prog 140 #[colV c, colV o] w fun e w' => e = .returned (.int .i64 (farV c o)) ∧ Below w.heap.size w w' := by
  obtain ⟨L, hL⟩ : ∃ L, L = [c.r - o.r, c.g - o.g, c.b - o.b, c.a - o.a] := ⟨_, rfl⟩
  have hf : farV c o = sqs L := by
    rw [hL]
    unfold farV sqs sqdN
    simp only [List.foldl_cons, List.foldl_nil]
    omega
  have hL4 : L.length = 4 := by rw [hL]; rfl
  obtain ⟨⟨r0, r1⟩, ⟨g0, g1⟩, ⟨b0, b1⟩, ⟨a0, a1⟩⟩ := hc
  obtain ⟨⟨R0, R1⟩, ⟨G0, G1⟩, ⟨B0, B1⟩, ⟨A0, A1⟩⟩ := ho
  have hbd : ∀ i : Nat, i < L.length → -255 ≤ L.getD i 0 ∧ L.getD i 0 ≤ 255 := fun i hi => by
    rw [hL4] at hi
    rw [hL]
    exact all4 (p := fun z => -255 ≤ z ∧ z ≤ 255) (by omega) (by omega) (by omega) (by omega) i hi
  have hsb := sqs_bd hbd
  rw [hf]
  have hix := index4 (c.r - o.r) (c.g - o.g) (c.b - o.b) (c.a - o.a)
  rw [← hL] at hix
  have HIX := hide hix
  have HBD := hide hbd
  have HSB := hide hsb
  have HL := hide hL
  obtain ⟨y0, y1, y2, y3⟩ := c
  obtain ⟨z0, z1, z2, z3⟩ := o
  simp only at r0 r1 g0 g1 b0 b1 a0 a1 R0 R1 G0 G1 B0 B1 A0 A1
  clear hL hf hbd hsb hix
  have hW := hide (balloc (below_alloc w (.cells #[.int .u8 y0, .int .u8 y1, .int .u8 y2, .int .u8 y3] 36)) (.cells #[.int .u8 z0, .int .u8 z1, .int .u8 z2, .int .u8 z3] 36))
  go_enter Try.func140, Try.ntmps140
  go_wp2_with fail
  go_loopw [37, 5] (fun s n wr => ∃ i : Nat, i ≤ 4 ∧ s = .int .i64 i ∧ n = .int .i64 (sqs (L.take i)) ∧ Below w.heap.size w wr) (fun s _ _ => 4 - (intOf s).toNat)
  case atStart => exact ⟨0, by omega, rfl, rfl, hW.out⟩
  case round =>
    obtain ⟨i, hi, rfl, rfl, hw⟩ := hrel
    by_cases hlt : i < 4
    · have hx := HIX.out i hlt
      have hd := HBD.out i (by omega)
      have hs := HSB.out i (by omega)
      have hst := sqs_take L i (by omega)
      generalize L.getD i 0 = d at hx hd hst
      generalize sqs (L.take i) = S at hs hst ⊢
      have hq := sq_bd hd
      have h2 : IntKind.i64.wrap (d * d) = d * d := IntWalk.i64_in _ (by omega)
      have h3 : IntKind.i64.wrap (S + d * d) = S + d * d := IntWalk.i64_in _ (by omega)
      have HST := hide hst
      have HW := hide hw
      clear hst hw
      go_wp2_with fail
      go_roundw
      case rel => exact ⟨i + 1, by omega, by go_num, by rw [HST.out], HW.out⟩
      case measure => simp [intOf]; omega
    · have hi4 : i = 4 := by omega
      rw [hi4, List.take_of_length_le (by omega)]
      have HW := hide hw
      clear hw
      go_wp2_with fail
      go_ret
      exact ⟨rfl, HW.out⟩
end Go.Proofs.Ytkjnheikimpliaa
