/- Digests: the reference's. -/
import Derived.Test.YtkjnheikimpliaaDigA
import Derived.Test.YtkjnheikimpliaaRefA
namespace Go.Proofs.Ytkjnheikimpliaa
set_option linter.unusedVariables false
set_option linter.unusedSimpArgs false
open Go.RowKit
attribute [local go_sem ↓] Go.wp_at_zero Go.wp_at_succ

/-- A side's four bytes, as the reference tells them. -/
def sideL (v : Int) : List Int := [sideByte v 0, sideByte v 1, sideByte v 2, sideByte v 3]
/-- What the reference's first loop keeps. -/
structure RefR (w : World) (x y : Int) (A : Option Addr) (n cap : Nat) (l : List Int) (g c : Nat) (wr : World) : Prop where
  below : Below w.heap.size w wr
  im : Blk wr w.heap.size 34 #[.int .i64 x, .int .i64 y, .slice A n cap]
  num : Blk wr (w.heap.size + 2) 3 #[.int .i64 x, .int .i64 y]
  own : wr.ownsRow w.heap.size 5 1 (.slice (some ⟨g, 0, none⟩) l.length c) l.length (u8L l)
  n0 : g ≠ w.heap.size
  n2 : g ≠ w.heap.size + 2
  lt : g < wr.heap.size
  two : w.heap.size + 2 < wr.heap.size
theorem RefR.start (w : World) (x y : Int) (A : Option Addr) (n cap : Nat) :
    RefR w x y A n cap [] (w.heap.size + 1) 0 (((w.alloc (.cells #[.int .i64 x, .int .i64 y, .slice A n cap] 34)).alloc (.cells #[] 5)).alloc (.cells #[.int .i64 x, .int .i64 y] 3)) := by
  refine ⟨balloc (balloc (below_alloc w _) _) _, ((Blk.new w 34 _).alloc _).alloc _, Blk.new' _ 3 _ _ (by simp), ?_, by omega, by omega, by simp, by simp⟩
  exact (own_empty (w.alloc (.cells #[.int .i64 x, .int .i64 y, .slice A n cap] 34)) w.heap.size 5 1 (by simp) (w.heap.size + 1) (by simp)).alloc _
theorem u8L_app (l k : List Int) : u8L (l ++ k) = u8L l ++ u8L k := by simp [u8L]
def sides (x y : Int) : Nat → List Int
  | 0 => []
  | 1 => sideL x
  | _ => sideL x ++ sideL y

/-- A side's four bytes, spelt as the reference reckons them. -/
theorem raw_side (v : Int) : [IntKind.u64.wrap (((IntKind.u64.wrap v).tmod 4294967296).tdiv 16777216) % 256, (IntKind.u64.wrap (((IntKind.u64.wrap v).tmod 4294967296).tdiv 65536)).tmod 256 % 256, (IntKind.u64.wrap (((IntKind.u64.wrap v).tmod 4294967296).tdiv 256)).tmod 256 % 256, (IntKind.u64.wrap v).tmod 256 % 256] = sideL v := by
  have hw : ∀ z, IntKind.u64.wrap z = z % 18446744073709551616 := fun z => IntKind.wrap_u64 z
  simp only [hw, sideL, sideByte]
  obtain ⟨u, hu⟩ : ∃ u, u = v % 18446744073709551616 := ⟨_, rfl⟩
  have h0 : 0 ≤ u := by omega
  have e1 : u.tmod 4294967296 = u % 4294967296 := Int.tmod_eq_emod_of_nonneg h0
  have h1 : 0 ≤ u % 4294967296 := by omega
  have e2 : ∀ d, (u % 4294967296).tdiv d = u % 4294967296 / d := fun d => Int.tdiv_eq_ediv_of_nonneg h1
  have e3 : u.tmod 256 = u % 256 := Int.tmod_eq_emod_of_nonneg h0
  rw [← hu, e1, e2, e2, e2, e3]
  have e4 : ∀ d : Int, (u % 4294967296 / d % 18446744073709551616).tmod 256 = u % 4294967296 / d % 18446744073709551616 % 256 := fun d => Int.tmod_eq_emod_of_nonneg (by omega)
  rw [e4, e4]
  have f0 : (2 : Int) ^ (24 - 8 * 0) = 16777216 := by decide
  have f1 : (2 : Int) ^ (24 - 8 * 1) = 65536 := by decide
  have f2 : (2 : Int) ^ (24 - 8 * 2) = 256 := by decide
  have f3 : (2 : Int) ^ (24 - 8 * 3) = 1 := by decide
  rw [f0, f1, f2, f3]
  congr 1
  · omega
  congr 1
  · omega
  congr 1
  · omega
  congr 1
  omega
theorem sideL_len (v : Int) : (sideL v).length = 4 := rfl
theorem digL_sides (x y h : Int) (l : List Int) : digL h (sides x y 2 ++ l) = digL (digS y (digS x h 4) 4) l := by
  show digL h (sideL x ++ sideL y ++ l) = _
  simp only [digL, List.foldl_append]
  rfl
theorem RefR.app {w wr w1 : World} {x y : Int} {A : Option Addr} {n cap : Nat} {l l2 : List Int} {g c g2 c2 : Nat} (h : RefR w x y A n cap l g c wr) (o : Obj) (hg : (wr.alloc o).grownBy w1 (some g))
    (hown : w1.ownsRow w.heap.size 5 1 (.slice (some ⟨g2, 0, none⟩) l2.length c2) l2.length (u8L l2)) (hat : (Value.slice (some ⟨g, 0, none⟩) l.length c).ownBlock = some g2 ∨ g2 = wr.heap.size + 1) (hlt : g2 < w1.heap.size) : RefR w x y A n cap l2 g2 c2 w1 := by
  have h1 := h.below.size
  have h2 := h.two
  have hb : ∀ k, k < wr.heap.size → k ≠ g → w1.heap[k]? = wr.heap[k]? := fun k hk hne => (hg.block k (Nat.lt_of_lt_of_le hk (below_alloc wr o).size) (by simpa using hne)).trans (Below.heap_alloc wr o k hk)
  have hs := hg.size
  simp at hs
  refine ⟨(h.below.alloc h1 o).grown hg (by simp; omega) (fun q hq => by injection hq with hq; have := own_ge h.own; omega), h.im.same (hb _ (by omega) (fun e => h.n0 e.symm)), h.num.same (hb _ (by omega) (fun e => h.n2 e.symm)), hown, ?_, ?_, hlt, by omega⟩
  · rcases hat with e | e
    · simp [Value.ownBlock] at e; subst e; exact h.n0
    · omega
  · rcases hat with e | e
    · simp [Value.ownBlock] at e; subst e; exact h.n2
    · omega

set_option maxRecDepth 100000 in
set_option maxHeartbeats 2000000 in
theorem refDigest_any (x y : Int) (A : Option Addr) (l : List Int) (cap : Nat) (w : World) (hr : RowAt w w.heap.size .u8 A l) (hm : l.length ≤ 1000000) :
    Calls Try.prog 43 #[imgV x y A l.length cap] w fun e w' => e = .returned (.int .u64 (digL (digS y (digS x 14695981039346656037 4) 4) l)) ∧ Below w.heap.size w w' := by
  obtain ⟨i0, hi, hz0, hz1, hz2⟩ := info_parts u8_info
  have HR := hide hr
  clear hr
  have hst := hide (RefR.start w x y A l.length cap)
  go_enter Try.func43, Try.ntmps43
  go_wp2_with fail
  go_loopw [17, 3] (fun i v wr => ∃ k g c : Nat, k ≤ 2 ∧ i = .int .i64 k ∧ v = .slice (some ⟨g, 0, none⟩) (sides x y k).length c ∧ RefR w x y A l.length cap (sides x y k) g c wr) (fun i _ _ => 2 - (intOf i).toNat)
  case atStart => exact ⟨0, _, 0, by omega, rfl, rfl, hst.out⟩
  case round =>
    obtain ⟨k, g, c, hk, rfl, rfl, hD⟩ := hrel
    by_cases hlt : k < 2
    · obtain ⟨v, hv⟩ : ∃ v, wr.cell? ⟨w.heap.size + 1 + 1, k, none⟩ = some (.int .i64 v) ∧ sides x y (k + 1) = sides x y k ++ sideL v := by
        have hk2 : k = 0 ∨ k = 1 := by omega
        rcases hk2 with rfl | rfl
        · exact ⟨x, hD.num.cell 0, rfl⟩
        · exact ⟨y, hD.num.cell 1, rfl⟩
      obtain ⟨hv, hs⟩ := hv
      obtain ⟨L, hL⟩ : ∃ L, L = sides x y k := ⟨_, rfl⟩
      have hLl : L.length ≤ 8 := by
        have hk2 : k = 0 ∨ k = 1 := by omega
        rcases hk2 with rfl | rfl <;> rw [hL] <;> show _ ≤ 8 <;> simp [sides, sideL]
      rw [← hL] at hD hs ⊢
      have hgb := own_ge hD.own
      have hz := hD.below.size
      have HD := hide hD
      have HS := hide hs
      have HL := hide hL
      clear hD hs hL
      go_wp2_with (at_builtin; refine wpList_append_lies _ rfl _ _ _ rfl w.heap.size 5 i0 _ 1 1 Try.underlying32 hi hz0 hz1 hz2 rfl (by omega) (.slice (some ⟨g, 0, none⟩) L.length c) L.length (u8L L) rfl (HD.out.own.alloc _) ⟨wr.heap.size, 0, none⟩ 4 4 (u8L [IntKind.u64.wrap (((IntKind.u64.wrap v).tmod 4294967296).tdiv 16777216) % 256, (IntKind.u64.wrap (((IntKind.u64.wrap v).tmod 4294967296).tdiv 65536)).tmod 256 % 256, (IntKind.u64.wrap (((IntKind.u64.wrap v).tmod 4294967296).tdiv 256)).tmod 256 % 256, (IntKind.u64.wrap v).tmod 256 % 256]) rfl rfl (World.news_of_block (heap_alloc_new wr _)) (u8L_one _) (by omega) (by unfold maxLen; omega) (by omega) (by simp; omega) (wr.heap.size + 1) (by simp) ?_; intro g2 c2 w5 hown2 hg2 hat2 hlt2)
      have HR2 : Hid (RefR w x y A l.length cap (sides x y (k + 1)) g2 c2 w5) := by
        rw [raw_side, ← u8L_app] at hown2
        rw [HS.out]
        refine HD.out.app _ hg2 (by rw [List.length_append, sideL_len]; exact hown2) hat2 hlt2
      have hlen : (sides x y (k + 1)).length = L.length + 4 := by rw [HS.out, List.length_append, sideL_len]
      go_roundw
      case rel => exact ⟨k + 1, g2, c2, by omega, by go_num, by rw [hlen], HR2.out⟩
      case measure => simp [intOf]; omega
    · have hk2 : k = 2 := by omega
      have e8 : (sides x y k).length = 8 := by rw [hk2]; rfl
      rw [e8]
      rw [hk2] at hD
      obtain ⟨S, hS⟩ : ∃ S, S = sides x y 2 := ⟨_, rfl⟩
      have hSl : S.length = 8 := by rw [hS]; rfl
      rw [← hS] at hD
      have HS := hide hS
      have HD := hide hD
      have HSl := hide hSl
      clear hD hS hSl e8 hk2
      go_wp2_with fail
      go_loopw [7, 3] (fun i v wr => ∃ k g c : Nat, k ≤ l.length ∧ i = .int .i64 k ∧ v = .slice (some ⟨g, 0, none⟩) (8 + k) c ∧ RefR w x y A l.length cap (S ++ l.take k) g c wr) (fun i _ _ => l.length - (intOf i).toNat)
      case atStart => exact ⟨0, g, c, by omega, rfl, rfl, by simpa using HD.out⟩
      case round =>
        obtain ⟨k, g, c, hk, rfl, rfl, hD⟩ := hrel
        have m2 := hD.im.cell 2
        simp only [List.getElem?_toArray, List.getElem?_cons_succ, List.getElem?_cons_zero] at m2
        have hLl : (S ++ l.take k).length = 8 + k := by rw [List.length_append, HSl.out, List.length_take]; omega
        by_cases hlt : k < l.length
        · obtain ⟨b, off, rfl, hb, hc⟩ := HR.out k hlt
          have hc' := (hD.below.cell (p := ⟨b, off + k, none⟩) hb).trans hc
          obtain ⟨z, hz⟩ : ∃ z, z = l.getD k 0 := ⟨_, rfl⟩
          rw [← hz] at hc'
          have HZ := hide hz
          have hgb := own_ge hD.own
          have hz' := hD.below.size
          obtain ⟨L, hL⟩ : ∃ L, L = S ++ l.take k := ⟨_, rfl⟩
          rw [← hL] at hD hLl
          have HL := hide hL
          have HD' := hide hD
          have HLl := hide hLl
          have ho := hD.own
          rw [hLl] at ho
          have HO := hide ho
          clear hD hL hLl hz hc hb ho
          go_wp2_with (at_builtin; refine wpList_append_lies _ rfl _ _ _ rfl w.heap.size 5 i0 _ 1 1 Try.underlying32 hi hz0 hz1 hz2 rfl (by omega) (.slice (some ⟨g, 0, none⟩) (8 + k) c) (8 + k) (u8L L) rfl (HO.out.alloc _) ⟨wr.heap.size, 0, none⟩ 1 1 (u8L [z]) rfl rfl (World.news_of_block (heap_alloc_new wr _)) (u8L_one _) (by omega) (by unfold maxLen; omega) (by omega) (by simp; omega) (wr.heap.size + 1) (by simp) ?_; intro g2 c2 w5 hown2 hg2 hat2 hlt2)
          have HR2 : Hid (RefR w x y (some ⟨b, off, none⟩) l.length cap (S ++ l.take (k + 1)) g2 c2 w5) := by
            have e1 : S ++ l.take (k + 1) = L ++ [z] := by
              rw [HL.out, HZ.out, List.take_succ_eq_append_getElem hlt, List.append_assoc]
              congr 2
              simp [List.getD, hlt]
            rw [← u8L_app] at hown2
            rw [e1]
            refine HD'.out.app _ hg2 (by rw [List.length_append, HLl.out]; exact hown2) (by rw [HLl.out]; exact hat2) hlt2
          go_roundw
          case rel => exact ⟨k + 1, g2, c2, by omega, by go_num, rfl, HR2.out⟩
          case measure => simp [intOf]; omega
        · have hkl : k = l.length := by omega
          rw [hkl, List.take_length] at hD
          rw [hkl] at hLl ⊢
          obtain ⟨L, hL⟩ : ∃ L, L = S ++ l := ⟨_, rfl⟩
          have hLl : L.length = 8 + l.length := by rw [hL, List.length_append, HSl.out]
          rw [← hL] at hD
          have ho := hD.own
          rw [hLl] at ho
          obtain ⟨-, hrow⟩ := row_of_own ho
          have HRW := hide hrow
          have HL := hide hL
          have HB := hide hD.below
          rw [← hLl]
          have hm2 : L.length ≤ 1000008 := by omega
          clear hD hL hLl ho hrow
          go_wp2_with fail
          go_loopw [9, 8] (fun i v w' => ∃ k : Nat, k ≤ L.length ∧ i = .int .i64 k ∧ v = .int .u64 (digL 14695981039346656037 (L.take k)) ∧ w' = wr) (fun i _ _ => L.length - (intOf i).toNat)
          case atStart => exact ⟨0, by omega, rfl, rfl, rfl⟩
          case round =>
            obtain ⟨k, hk, rfl, rfl, rfl⟩ := hrel
            by_cases hlt : k < L.length
            · obtain ⟨b, off, e0, hb, hc⟩ := HRW.out.row k hlt
              injection e0 with e0; injection e0 with e0 e1; subst e0 e1
              rw [Nat.zero_add] at hc
              obtain ⟨z, hz⟩ : ∃ z, z = L.getD k 0 := ⟨_, rfl⟩
              rw [← hz] at hc
              have HZ := hide hz
              clear hz hb
              go_wp2_with fail
              go_roundw
              case rel => exact ⟨k + 1, by omega, by go_num, by rw [digL_take _ _ _ hlt, ← HZ.out]; rfl, trivial⟩
              case measure => simp [intOf]; omega
            · have hkl : k = L.length := by omega
              rw [hkl, List.take_length]
              go_wp2_with fail
              go_ret
              exact ⟨by rw [HL.out, HS.out, digL_sides]; rfl, HB.out⟩
end Go.Proofs.Ytkjnheikimpliaa
