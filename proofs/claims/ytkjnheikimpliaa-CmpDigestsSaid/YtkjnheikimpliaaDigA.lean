/- Digests: the program's. -/
import Derived.Test.YtkjnheikimpliaaSame
namespace Go.Proofs.Ytkjnheikimpliaa
set_option linter.unusedVariables false
set_option linter.unusedSimpArgs false
open Go.RowKit
attribute [local go_sem ↓] Go.wp_at_zero Go.wp_at_succ

/-- One byte more in a digest. -/
noncomputable def dig (h b : Int) : Int := IntKind.u64.wrap (bits BinOp.xor IntKind.u64 h (IntKind.u64.wrap b) * 1099511628211)
noncomputable def digL (h : Int) (l : List Int) : Int := l.foldl dig h
theorem digL_snoc (h : Int) (l : List Int) (b : Int) : digL h (l ++ [b]) = dig (digL h l) b := by simp [digL]
theorem digL_take (h : Int) (l : List Int) (k : Nat) (hk : k < l.length) : digL h (l.take (k + 1)) = dig (digL h (l.take k)) (l.getD k 0) := by
  rw [List.take_add_one, List.getElem?_eq_getElem hk]
  simp only [Option.toList_some, digL_snoc, List.getD, List.getElem?_eq_getElem hk, Option.getD_some]
/-- Byte j of a side, the highest first. -/
def sideByte (v : Int) (j : Nat) : Int := v / 2 ^ (24 - 8 * j) % 256
noncomputable def digS (v : Int) (h : Int) : Nat → Int
  | 0 => h
  | j + 1 => dig (digS v h j) (sideByte v j)

theorem put_any (h b : Int) (g : Nat) (w : World) (hc : w.cell? ⟨g, 0, none⟩ = some (.int .u64 h)) (hf : w.frozen? ⟨g, 0, none⟩ = false) :
    Calls Try.prog 99 #[.int .u8 b, .pointer (some ⟨g, 0, none⟩)] w fun e w' => e = .returned (.tuple #[]) ∧ w' = w.setCell ⟨g, 0, none⟩ (.int .u64 (dig h b)) := by
  go_enter Try.func99, Try.ntmps99
  go_wp2
  go_end0
  exact ⟨rfl, rfl⟩

/-- What a digest's loops keep: the image's box, the number's box. -/
structure DigR (w : World) (x y : Int) (A : Option Addr) (n cap : Nat) (h : Int) (wr : World) : Prop where
  below : Below w.heap.size w wr
  im : Blk wr w.heap.size 34 #[.int .i64 x, .int .i64 y, .slice A n cap]
  num : Blk wr (w.heap.size + 1) 47 #[.int .u64 h]
theorem DigR.start (w : World) (x y : Int) (A : Option Addr) (n cap : Nat) (h : Int) : DigR w x y A n cap h ((w.alloc (.cells #[.int .i64 x, .int .i64 y, .slice A n cap] 34)).alloc (.cells #[.int .u64 h] 47)) := by
  refine ⟨balloc (below_alloc w _) _, (Blk.new w 34 _).alloc _, ?_⟩
  have := Blk.new (w.alloc (.cells #[.int .i64 x, .int .i64 y, .slice A n cap] 34)) 47 #[.int .u64 h]
  simpa using this
theorem DigR.put {w wr : World} {x y : Int} {A : Option Addr} {n cap : Nat} {h : Int} (r : DigR w x y A n cap h wr) (h' : Int) : DigR w x y A n cap h' (wr.setCell ⟨w.heap.size + 1, 0, none⟩ (.int .u64 h')) :=
  ⟨bset r.below _ _ (by omega) _, r.im.far (p := ⟨w.heap.size + 1, 0, none⟩) (by simp) _, by simpa using r.num.set_ 0 (.int .u64 h')⟩
theorem DigR.num0 {w wr : World} {x y : Int} {A : Option Addr} {n cap : Nat} {h : Int} (r : DigR w x y A n cap h wr) : wr.cell? ⟨w.heap.size + 1, 0, none⟩ = some (.int .u64 h) := r.num.cell 0
/-- The digest of so many sides. -/
noncomputable def digV (x y h : Int) : Nat → Int
  | 0 => h
  | 1 => digS x h 4
  | _ => digS y (digS x h 4) 4

set_option maxRecDepth 100000 in
set_option maxHeartbeats 2000000 in
theorem digest_any (x y : Int) (A : Option Addr) (l : List Int) (cap : Nat) (w : World) (hr : RowAt w w.heap.size .u8 A l) (hm : l.length ≤ maxLen) :
    Calls Try.prog 42 #[imgV x y A l.length cap] w fun e w' => e = .returned (.int .u64 (digL (digS y (digS x 14695981039346656037 4) 4) l)) ∧ Below w.heap.size w w' := by
  have HR := hide hr
  unfold maxLen at hm
  clear hr
  go_enter Try.func42, Try.ntmps42
  go_wp2_with fail
  go_loopw [16] (fun i wr => ∃ k : Nat, k ≤ 2 ∧ i = .int .i64 k ∧ DigR w x y A l.length cap (digV x y 14695981039346656037 k) wr) (fun i _ => 2 - (intOf i).toNat)
  case atStart => exact ⟨0, by omega, rfl, DigR.start ..⟩
  case round =>
    obtain ⟨k, hk, rfl, hD⟩ := hrel
    by_cases hlt : k < 2
    · have hk2 : k = 0 ∨ k = 1 := by omega
      rcases hk2 with hk2 | hk2
      · have hix : ∀ W, (Instr.index 113 (.agg #[.int .i64 x, .int .i64 y]) (.int .i64 (k : Int))).run Try.prog W = .ok (.int .i64 x) W := fun _ => by rw [hk2]; kernel_rfl
        rw [hk2] at hD
        have hdd : decide ((k : Int) < 2) = true := by simp; omega
        have HK2 := hide hk2
        have HD := hide hD
        clear hD hk2
        go_wp2_with fail
        go_loopw [7] (fun j wr => ∃ m : Nat, m ≤ 4 ∧ j = .int .i64 (24 - 8 * (m : Int)) ∧ DigR w x y A l.length cap (digS x 14695981039346656037 m) wr) (fun j _ => (intOf j + 8).toNat)
        case atStart => exact ⟨0, by omega, rfl, HD.out⟩
        case round =>
          obtain ⟨m, hm4, rfl, hD⟩ := hrel
          by_cases hltm : m < 4
          · have HD' := hide hD
            have n0 := hD.num.cell 0
            have f0 := hD.num.frozen 0
            simp only [List.getElem?_toArray, List.getElem?_cons_succ, List.getElem?_cons_zero] at n0
            obtain ⟨H, hH⟩ : ∃ H, H = digS x 14695981039346656037 m := ⟨_, rfl⟩
            rw [← hH] at n0
            have HH := hide hH
            clear hD hH
            go_wp2_with (go_at_call 99; (with_reducible refine (put_any _ _ _ _ n0 f0).mono ?_); rintro e w1 ⟨rfl, rfl⟩)
            go_roundw
            case rel => exact ⟨m + 1, by omega, by congr 1; push_cast; omega, by have := HD'.out.put (dig H (sideByte x m)); rw [HH.out] at this ⊢; exact this⟩
            case measure => simp [intOf]; omega
          · have hm' : m = 4 := by omega
            subst hm'
            have HD' := hide hD
            clear hD
            go_wp2_with fail
            go_roundw
            case rel => exact ⟨k + 1, by omega, by go_num, by rw [HK2.out]; exact HD'.out⟩
            case measure => simp [intOf]; try omega
      · have hix : ∀ W, (Instr.index 113 (.agg #[.int .i64 x, .int .i64 y]) (.int .i64 (k : Int))).run Try.prog W = .ok (.int .i64 y) W := fun _ => by rw [hk2]; kernel_rfl
        rw [hk2] at hD
        have hdd : decide ((k : Int) < 2) = true := by simp; omega
        have HK2 := hide hk2
        have HD := hide hD
        clear hD hk2
        go_wp2_with fail
        go_loopw [7] (fun j wr => ∃ m : Nat, m ≤ 4 ∧ j = .int .i64 (24 - 8 * (m : Int)) ∧ DigR w x y A l.length cap (digS y (digS x 14695981039346656037 4) m) wr) (fun j _ => (intOf j + 8).toNat)
        case atStart => exact ⟨0, by omega, rfl, HD.out⟩
        case round =>
          obtain ⟨m, hm4, rfl, hD⟩ := hrel
          by_cases hltm : m < 4
          · have HD' := hide hD
            have n0 := hD.num.cell 0
            have f0 := hD.num.frozen 0
            simp only [List.getElem?_toArray, List.getElem?_cons_succ, List.getElem?_cons_zero] at n0
            obtain ⟨H, hH⟩ : ∃ H, H = digS y (digS x 14695981039346656037 4) m := ⟨_, rfl⟩
            rw [← hH] at n0
            have HH := hide hH
            clear hD hH
            go_wp2_with (go_at_call 99; (with_reducible refine (put_any _ _ _ _ n0 f0).mono ?_); rintro e w1 ⟨rfl, rfl⟩)
            go_roundw
            case rel => exact ⟨m + 1, by omega, by congr 1; push_cast; omega, by have := HD'.out.put (dig H (sideByte y m)); rw [HH.out] at this ⊢; exact this⟩
            case measure => simp [intOf]; omega
          · have hm' : m = 4 := by omega
            subst hm'
            have HD' := hide hD
            clear hD
            go_wp2_with fail
            go_roundw
            case rel => exact ⟨k + 1, by omega, by go_num, by rw [HK2.out]; exact HD'.out⟩
            case measure => simp [intOf]; try omega
    · have hk' : k = 2 := by omega
      rw [hk'] at hD
      have i2 := hD.im.cell 2
      simp only [List.getElem?_toArray, List.getElem?_cons_succ, List.getElem?_cons_zero] at i2
      have HD := hide hD
      clear hD hk'
      go_wp2_with fail
      go_loopw [33] (fun i wr => ∃ k : Nat, k ≤ l.length ∧ i = .int .i64 k ∧ DigR w x y A l.length cap (digL (digS y (digS x 14695981039346656037 4) 4) (l.take k)) wr) (fun i _ => l.length - (intOf i).toNat)
      case atStart => exact ⟨0, by omega, rfl, HD.out⟩
      case round =>
        obtain ⟨k, hk, rfl, hD⟩ := hrel
        by_cases hlt : k < l.length
        · obtain ⟨b, off, rfl, hb, hc⟩ := HR.out k hlt
          have hc' := (hD.below.cell (p := ⟨b, off + k, none⟩) hb).trans hc
          obtain ⟨z, hz⟩ : ∃ z, z = l.getD k 0 := ⟨_, rfl⟩
          rw [← hz] at hc'
          have HZ := hide hz
          have n0 := hD.num.cell 0
          have f0 := hD.num.frozen 0
          simp only [List.getElem?_toArray, List.getElem?_cons_succ, List.getElem?_cons_zero] at n0
          obtain ⟨H, hH⟩ : ∃ H, H = digL (digS y (digS x 14695981039346656037 4) 4) (l.take k) := ⟨_, rfl⟩
          rw [← hH] at n0
          have HH := hide hH
          have HD' := hide hD
          clear hD hH hz hc hb
          go_wp2_with (go_at_call 99; (with_reducible refine (put_any _ _ _ _ n0 f0).mono ?_); rintro e w1 ⟨rfl, rfl⟩)
          go_roundw
          case rel => exact ⟨k + 1, by omega, by go_num, by have := HD'.out.put (dig H z); rw [digL_take _ _ _ hlt, ← HZ.out, ← HH.out]; exact this⟩
          case measure => simp [intOf]; omega
        · have hk' : k = l.length := by omega
          subst hk'
          rw [List.take_length] at hD
          have n0 := hD.num0
          have HW := hide hD.below
          clear hD
          go_wp2_with fail
          go_ret
          exact ⟨rfl, HW.out⟩
end Go.Proofs.Ytkjnheikimpliaa
