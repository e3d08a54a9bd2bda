/- The reference's pixel, with its world; Map and Dither of what is no right image; the chapter's example. -/
import Derived.Test.YtkjnheikimpliaaDithB
import Derived.Test.YtkjnheikimpliaaRefA
namespace Go.Proofs.Ytkjnheikimpliaa
set_option linter.unusedVariables false
set_option linter.unusedSimpArgs false
open Go.RowKit
attribute [local go_sem ↓] Go.wp_at_zero Go.wp_at_succ

set_option maxHeartbeats 1000000 in
theorem refPixel_is (x y : Int) (A : Option Addr) (l : List Int) (cap : Nat) (i j : Int) (w : World) (hR : rightI x y l.length) (hr : RowAt w w.heap.size .u8 A l) (hi : 0 ≤ i ∧ i < x) (hj : 0 ≤ j ∧ j < y) :
    Calls Try.prog 39 #[imgV x y A l.length cap, .int .i64 i, .int .i64 j] w fun e w' => e = .returned (colV (pix l (j * x + i).toNat)) ∧ w' = ((w.alloc (.cells #[.int .i64 x, .int .i64 y, .slice A l.length cap] 34)).alloc (.cells #[.int .u8 (pix l (j * x + i).toNat).r, .int .u8 (pix l (j * x + i).toNat).g, .int .u8 (pix l (j * x + i).toNat).b, .int .u8 (pix l (j * x + i).toNat).a] 36)).drew := by
  obtain ⟨b1, b2, b3⟩ := at_bounds hR hi hj
  obtain ⟨⟨h1, h2⟩, ⟨h3, h4⟩, h5⟩ := hR
  have H5 := hide h5
  clear h5
  obtain ⟨m, hm⟩ : ∃ m : Nat, (m : Int) = j * x + i := ⟨(j * x + i).toNat, by omega⟩
  have em : (j * x + i).toNat = m := by omega
  rw [em]
  unfold pix
  obtain ⟨q, hq⟩ : ∃ q, q = 4 * m := ⟨_, rfl⟩
  rw [← hq]
  obtain ⟨b, off, rfl, hb, c0⟩ := hr q (by omega)
  obtain ⟨b', off', e1, _, c1⟩ := hr (q + 1) (by omega)
  injection e1 with e1; injection e1 with e1 e2; subst e1 e2
  obtain ⟨b', off', e1, _, c2⟩ := hr (q + 2) (by omega)
  injection e1 with e1; injection e1 with e1 e2; subst e1 e2
  obtain ⟨b', off', e1, _, c3⟩ := hr (q + 3) (by omega)
  injection e1 with e1; injection e1 with e1 e2; subst e1 e2
  have hqi : 4 * (j * x + i) = (q : Int) := by omega
  have q0 : (q : Int) + 3 < (l.length : Int) := by omega
  obtain ⟨y0, e0⟩ : ∃ y0, y0 = l.getD q 0 := ⟨_, rfl⟩
  obtain ⟨y1, e1⟩ : ∃ y0, y0 = l.getD (q + 1) 0 := ⟨_, rfl⟩
  obtain ⟨y2, e2⟩ : ∃ y0, y0 = l.getD (q + 2) 0 := ⟨_, rfl⟩
  obtain ⟨y3, e3⟩ : ∃ y0, y0 = l.getD (q + 3) 0 := ⟨_, rfl⟩
  rw [← e0, ← e1, ← e2, ← e3]
  rw [← e0] at c0
  rw [← e1] at c1
  rw [← e2] at c2
  rw [← e3] at c3
  have HQ := hide hqi
  have hl : (l.length : Int) ≤ 1073741824 := by
    have := right_le ⟨⟨h1, h2⟩, ⟨h3, h4⟩, H5.out⟩; omega
  clear hm em hr hq hqi e0 e1 e2 e3
  go_enter Try.func39, Try.ntmps39
  go_wp2
  rw [HQ.out]
  obtain ⟨p0, p1, p2, p3, r1, r2, r3, t1, t2, t3, s1, s2, s3⟩ := idx4 q l.length q0 hl
  go_region_held3 (fun w' => w'.cell? ⟨w.heap.size, 2, none⟩ = some (.slice (some ⟨b, off, none⟩) l.length cap) ∧ w'.cell? ⟨b, off + q, none⟩ = some (.int .u8 y0) ∧ w'.cell? ⟨b, off + (q + 1), none⟩ = some (.int .u8 y1) ∧ w'.cell? ⟨b, off + (q + 2), none⟩ = some (.int .u8 y2) ∧ w'.cell? ⟨b, off + (q + 3), none⟩ = some (.int .u8 y3)) (go_keep) (fail)
  go_wp2
  exact bodyPost_ret (v := colV ⟨y0, y1, y2, y3⟩) (by simp [results, Try.results39, go_sem]) rfl ⟨rfl, rfl⟩

set_option maxHeartbeats 1000000 in
theorem map_no {x y : Int} {n : Nat} (h : ¬ rightI x y n) (A : Option Addr) (cap : Nat) (F : Value) (hF : F.oneCell' = true) (w : World) : Calls Try.prog 56 #[imgV x y A n cap, F] w (Refused w 11) := by
  have K1 := hide (right_no h A cap)
  clear h
  unfold Refused
  go_enter Try.func56, Try.ntmps56
  go_wp2_with (go_at_call 94; (with_reducible refine (K1.out _).mono ?_); rintro e w1 ⟨rfl, hb1⟩; obtain ⟨B1, B2, B3, hz, HW⟩ := own3 hb1; obtain ⟨r0, r1, r2, f0, f1, f2⟩ := blk3 B3; clear hb1)
  exact bodyPost_ret (v := .tuple #[imgV 0 0 none 0 0, .int .i64 11]) (by simp [results, Try.results56, go_sem, hz, r0, r1, r2]) rfl ⟨rfl, bset (bset (bset HW _ _ (by omega) _) _ _ (by omega) _) _ _ (by omega) _⟩
set_option maxHeartbeats 1000000 in
theorem dither_no {x y : Int} {n : Nat} (h : ¬ rightI x y n) (A : Option Addr) (cap : Nat) (w : World) : Calls Try.prog 47 #[imgV x y A n cap] w (Refused w 11) := by
  have KM := hide fun (caps : Array Value) => map_no h A cap (.func (.func 101) #[] caps) rfl
  clear h
  unfold Refused at KM ⊢
  go_enter Try.func47, Try.ntmps47
  go_wp2_with (go_at_call 56; (with_reducible refine (KM.out _ _).mono ?_); rintro e w1 ⟨rfl, hb1⟩; obtain ⟨B1, B2, B3, hz, HW⟩ := own3 hb1; obtain ⟨r0, r1, r2, f0, f1, f2⟩ := blk3 B2; clear hb1)
  exact bodyPost_ret (v := .tuple #[imgV 0 0 none 0 0, .int .i64 11]) (by simp [results, Try.results47, go_sem, hz, r0, r1, r2]) rfl ⟨rfl, bset (bset (bset HW _ _ (by omega) _) _ _ (by omega) _) _ _ (by omega) _⟩
end Go.Proofs.Ytkjnheikimpliaa
