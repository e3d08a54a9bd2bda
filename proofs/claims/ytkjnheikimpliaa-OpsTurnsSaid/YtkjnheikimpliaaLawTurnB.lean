/- The law OpsTurns, at a right image: walked; and the law. -/
import Derived.Test.YtkjnheikimpliaaLawTurn
namespace Go.Proofs.Ytkjnheikimpliaa
set_option linter.unusedVariables false
set_option linter.unusedSimpArgs false
open Go.RowKit
attribute [local go_sem ↓] Go.wp_at_zero Go.wp_at_succ

/-- Four images in boxes. -/
structure Pics (w : World) (p p1 p2 p3 : Nat) (x y x1 y1 : Int) (A A1 A2 A3 : Option Addr) (l l1 l2 l3 : List Int) (c c1 c2 c3 : Nat) : Prop where
  a : Pic w p x y A l c
  b : Pic w p1 x1 y1 A1 l1 c1
  c : Pic w p2 x y A2 l2 c2
  d : Pic w p3 x y A3 l3 c3
theorem Pics.below {w w' : World} {p p1 p2 p3 : Nat} {x y x1 y1 : Int} {A A1 A2 A3 : Option Addr} {l l1 l2 l3 : List Int} {c c1 c2 c3 : Nat} (h : Pics w p p1 p2 p3 x y x1 y1 A A1 A2 A3 l l1 l2 l3 c c1 c2 c3) (hb : Below w.heap.size w w') :
    Pics w' p p1 p2 p3 x y x1 y1 A A1 A2 A3 l l1 l2 l3 c c1 c2 c3 := ⟨h.a.below hb, h.b.below hb, h.c.below hb, h.d.below hb⟩
theorem Pics.alloc {w : World} {p p1 p2 p3 : Nat} {x y x1 y1 : Int} {A A1 A2 A3 : Option Addr} {l l1 l2 l3 : List Int} {c c1 c2 c3 : Nat} (h : Pics w p p1 p2 p3 x y x1 y1 A A1 A2 A3 l l1 l2 l3 c c1 c2 c3) (o : Obj) :
    Pics (w.alloc o) p p1 p2 p3 x y x1 y1 A A1 A2 A3 l l1 l2 l3 c c1 c2 c3 := h.below (below_alloc w o)
theorem Pics.cells {w : World} {p p1 p2 p3 : Nat} {x y x1 y1 : Int} {A A1 A2 A3 : Option Addr} {l l1 l2 l3 : List Int} {c c1 c2 c3 : Nat} (h : Pics w p p1 p2 p3 x y x1 y1 A A1 A2 A3 l l1 l2 l3 c c1 c2 c3) :
    (w.cell? ⟨p, 0, none⟩ = some (.int .i64 x) ∧ w.cell? ⟨p, 1, none⟩ = some (.int .i64 y) ∧ w.cell? ⟨p, 2, none⟩ = some (.slice A l.length c)) ∧
    (w.cell? ⟨p1, 0, none⟩ = some (.int .i64 x1) ∧ w.cell? ⟨p1, 1, none⟩ = some (.int .i64 y1) ∧ w.cell? ⟨p1, 2, none⟩ = some (.slice A1 l1.length c1)) ∧
    (w.cell? ⟨p2, 0, none⟩ = some (.int .i64 x) ∧ w.cell? ⟨p2, 1, none⟩ = some (.int .i64 y) ∧ w.cell? ⟨p2, 2, none⟩ = some (.slice A2 l2.length c2)) ∧
    (w.cell? ⟨p3, 0, none⟩ = some (.int .i64 x) ∧ w.cell? ⟨p3, 1, none⟩ = some (.int .i64 y) ∧ w.cell? ⟨p3, 2, none⟩ = some (.slice A3 l3.length c3)) := ⟨h.a.cells, h.b.cells, h.c.cells, h.d.cells⟩
theorem Pics.cellsA {w : World} {p p1 p2 p3 : Nat} {x y x1 y1 : Int} {A A1 A2 A3 : Option Addr} {l l1 l2 l3 : List Int} {c c1 c2 c3 : Nat} (h : Pics w p p1 p2 p3 x y x1 y1 A A1 A2 A3 l l1 l2 l3 c c1 c2 c3) :
    ((∀ o, (w.alloc o).cell? ⟨p, 0, none⟩ = some (.int .i64 x)) ∧ (∀ o, (w.alloc o).cell? ⟨p, 1, none⟩ = some (.int .i64 y)) ∧ (∀ o, (w.alloc o).cell? ⟨p, 2, none⟩ = some (.slice A l.length c))) ∧
    ((∀ o, (w.alloc o).cell? ⟨p2, 0, none⟩ = some (.int .i64 x)) ∧ (∀ o, (w.alloc o).cell? ⟨p2, 1, none⟩ = some (.int .i64 y)) ∧ (∀ o, (w.alloc o).cell? ⟨p2, 2, none⟩ = some (.slice A2 l2.length c2))) ∧
    ((∀ o, (w.alloc o).cell? ⟨p3, 0, none⟩ = some (.int .i64 x)) ∧ (∀ o, (w.alloc o).cell? ⟨p3, 1, none⟩ = some (.int .i64 y)) ∧ (∀ o, (w.alloc o).cell? ⟨p3, 2, none⟩ = some (.slice A3 l3.length c3))) := ⟨h.a.cellsA, h.c.cellsA, h.d.cellsA⟩

set_option maxRecDepth 100000 in
set_option maxHeartbeats 16000000 in
theorem turns_yes (X Y : Nat) (A : Option Addr) (l : List Int) (cap : Nat) (n : Int) (k : Nat) (w : World) (hu : U8s l) (hr : RowAt w w.heap.size .u8 A l) (hcap : l.length ≤ cap) (h : ¬ 600 < l.length) (hR : rightI X Y l.length) (hk : k < 4) (hn : quart n = k) (ht : n.tmod 4 = k ∨ (n.tmod 4 = (k : Int) - 4 ∧ 1 ≤ k)) :
    Calls Try.prog 13 #[imgV X Y A l.length cap, .int .i64 n] w fun e w' => e = .returned (.bool true) ∧ Below w.heap.size w w' := by
  have hX : 1 ≤ X ∧ X ≤ 16384 := by have := hR.1; omega
  have hY : 1 ≤ Y ∧ Y ≤ 16384 := by have := hR.2.1; omega
  have hXY : X * Y ≤ 268435456 := Nat.le_trans (Nat.mul_le_mul hX.2 hY.2) (by decide)
  have hpo : ∀ a b, (imgPx l X a b).ok := fun a b => imgPx_ok hu X a b
  have K1 := hide (big_no h X Y A cap)
  have K2 := hide fun (w' : World) (hr' : RowAt w' w'.heap.size .u8 A l) => turn_any X Y A l cap n k w' hR hr' hcap hn hk
  have K3 := hide fun (w' : World) (hr' : RowAt w' w'.heap.size .u8 A l) => (flipRows_yes X Y A l cap w' hR hr' hcap).mono fun _ _ h => Made.toL h
  have K4 := hide fun (w' : World) (hr' : RowAt w' w'.heap.size .u8 A l) => (flipColumns_yes X Y A l cap w' hR hr' hcap).mono fun _ _ h => Made.toL h
  have K5 := hide (refRight_yes hR A cap)
  have L0 := hide fun (w' : World) (hr' : RowAt w' w'.heap.size .u8 A l) => refRows_any X Y A l cap w' hR hr'
  have tb := tq_bd (imgPx l X) hX hY
  have tm := tq_mul (imgPx l X) X Y
  have tok := tq_ok hpo X Y
  have KQ := hide fun (i g c : Nat) (w' : World) (hro : RowsAt w' w'.heap.size (some ⟨g, 0, none⟩) (grid (tq (imgPx l X) X Y i).1 (tq (imgPx l X) X Y i).2.1 (tq (imgPx l X) X Y i).2.2)) => (quarter_any g c (tq (imgPx l X) X Y i).2.1 (tq (imgPx l X) X Y i).2.2 (tq (imgPx l X) X Y i).1 w' hro (tb i).1 (tb i).2)
  have KQ : Hid (∀ (i g c : Nat) (w' : World) (hro : RowsAt w' w'.heap.size (some ⟨g, 0, none⟩) (grid (tq (imgPx l X) X Y i).1 (tq (imgPx l X) X Y i).2.1 (tq (imgPx l X) X Y i).2.2)), Calls Try.prog 64 #[.slice (some ⟨g, 0, none⟩) (tq (imgPx l X) X Y i).2.2 c] w' fun e w'' => ∃ g' c', e = .returned (.slice (some ⟨g', 0, none⟩) (tq (imgPx l X) X Y (i + 1)).2.2 c') ∧ OutR w'' w'.heap.size w''.heap.size g' c' (grid (tq (imgPx l X) X Y (i + 1)).1 (tq (imgPx l X) X Y (i + 1)).2.1 (tq (imgPx l X) X Y (i + 1)).2.2) ∧ Below w'.heap.size w' w'') := KQ
  obtain ⟨X1, hX1⟩ : ∃ X1, X1 = (tq (imgPx l X) X Y k).2.1 := ⟨_, rfl⟩
  obtain ⟨Y1, hY1⟩ : ∃ Y1, Y1 = (tq (imgPx l X) X Y k).2.2 := ⟨_, rfl⟩
  obtain ⟨l1, hl1⟩ : ∃ l1, l1 = bytesL (grid (tq (imgPx l X) X Y k).1 (tq (imgPx l X) X Y k).2.1 (tq (imgPx l X) X Y k).2.2).flatten := ⟨_, rfl⟩
  obtain ⟨l2, hl2⟩ : ∃ l2, l2 = bytesL (pxs (flipRPx l X Y) X (X * Y)) := ⟨_, rfl⟩
  obtain ⟨l3, hl3⟩ : ∃ l3, l3 = bytesL (pxs (flipCPx l X) X (X * Y)) := ⟨_, rfl⟩
  have L1 := hide fun (g c : Nat) (w' : World) (hro : RowsAt w' w'.heap.size (some ⟨g, 0, none⟩) (grid (tq (imgPx l X) X Y k).1 (tq (imgPx l X) X Y k).2.1 (tq (imgPx l X) X Y k).2.2)) => gridImage_any g c (tq (imgPx l X) X Y k).2.1 (tq (imgPx l X) X Y k).2.2 (tq (imgPx l X) X Y k).1 w' hro (tb k).1 (tb k).2 (by rw [tm k]; exact hXY) (tok k)
  have el2 : l2 = bytesL (grid (fun a b => imgPx l X a (Y - 1 - b)) X Y).flatten := by
    rw [hl2, ← pxs_grid, pxs_congr (flipRPx l X Y) (fun a b => imgPx l X a (Y - 1 - b)) X Y (by omega) (fun a b ha hb => by unfold flipRPx imgPx; rw [nat_sub1 hb, nat_idx])]
  have el3 : l3 = bytesL (grid (fun a b => imgPx l X (X - 1 - a) b) X Y).flatten := by
    rw [hl3, ← pxs_grid, pxs_congr (flipCPx l X) (fun a b => imgPx l X (X - 1 - a) b) X Y (by omega) (fun a b ha hb => by unfold flipCPx imgPx; rw [nat_sub1 ha, nat_idx])]
  have L2 := hide fun (g c : Nat) (w' : World) (hro : RowsAt w' w'.heap.size (some ⟨g, 0, none⟩) (grid (imgPx l X) X Y)) => flipT_any g c X Y (imgPx l X) w' hro hX hY
  have L4 := hide fun (g c : Nat) (w' : World) (hro : RowsAt w' w'.heap.size (some ⟨g, 0, none⟩) (grid (imgPx l X) X Y)) => flipF_any g c X Y (imgPx l X) w' hro hX hY
  have L3 := fun (g c : Nat) (w' : World) (hro : RowsAt w' w'.heap.size (some ⟨g, 0, none⟩) (grid (fun a b => imgPx l X a (Y - 1 - b)) X Y)) => gridImage_any g c X Y (fun a b => imgPx l X a (Y - 1 - b)) w' hro hX hY hXY (fun a b => hpo _ _)
  have L5 := fun (g c : Nat) (w' : World) (hro : RowsAt w' w'.heap.size (some ⟨g, 0, none⟩) (grid (fun a b => imgPx l X (X - 1 - a) b) X Y)) => gridImage_any g c X Y (fun a b => imgPx l X (X - 1 - a) b) w' hro hX hY hXY (fun a b => hpo _ _)
  rw [← el2] at L3
  rw [← el3] at L5
  have L3 := hide L3
  have L5 := hide L5
  have R1 : rightI X1 Y1 l1.length := by rw [hl1, hX1, hY1]; exact right_grid _ (tb k).1 (tb k).2
  have R2 : rightI X Y l2.length := by rw [el2]; exact right_grid _ hX hY
  have R3 : rightI X Y l3.length := by rw [el3]; exact right_grid _ hX hY
  have HU1 := hide (show U8s l1 by rw [hl1]; exact grid_u8s (tok k) _ _)
  have HU2 := hide (show U8s l2 by rw [el2]; exact grid_u8s (fun a b => hpo _ _) _ _)
  have HU3 := hide (show U8s l3 by rw [el3]; exact grid_u8s (fun a b => hpo _ _) _ _)
  have HU := hide hu
  have M1 := hide fun (A1 : Option Addr) (cap1 : Nat) (hc : l1.length ≤ cap1) (w' : World) (hr' : RowAt w' w'.heap.size .u8 A1 l1) => (by
    have h1 := turn_any X1 Y1 A1 l1 cap1 (4 - (k : Int)) ((4 - k) % 4) w' R1 hr' hc (quart_neg k hk) (Nat.mod_lt _ (by decide))
    obtain ⟨e1, e2, e3⟩ := tq_back hR hk l1 hl1 _ rfl
    rw [← hX1, ← hY1] at e1 e2 e3
    rw [e3, e1, e2] at h1
    exact h1 : Calls Try.prog 61 #[imgV X1 Y1 A1 l1.length cap1, .int .i64 (4 - (k : Int))] w' (MadeL w' X Y l))
  have M2 := hide fun (A1 : Option Addr) (cap1 : Nat) (hc : l2.length ≤ cap1) (w' : World) (hr' : RowAt w' w'.heap.size .u8 A1 l2) => (by
    have h1 := (flipRows_yes X Y A1 l2 cap1 w' R2 hr' hc).mono fun _ _ h => Made.toL h
    have e : bytesL (pxs (flipRPx l2 X Y) X (X * Y)) = l := by
      rw [pxs_congr (flipRPx l2 X Y) (imgPx l X) X Y (by omega) (fun a b ha hb => by
        have e0 : flipRPx l2 X Y a b = imgPx l2 X a (Y - 1 - b) := by unfold flipRPx imgPx; rw [nat_sub1 hb, nat_idx]
        rw [e0, el2, img_grid _ ha (by omega), show Y - 1 - (Y - 1 - b) = b from by omega]), bytes_img hR]
    rw [e] at h1
    exact h1 : Calls Try.prog 62 #[imgV X Y A1 l2.length cap1] w' (MadeL w' X Y l))
  have M3 := hide fun (A1 : Option Addr) (cap1 : Nat) (hc : l3.length ≤ cap1) (w' : World) (hr' : RowAt w' w'.heap.size .u8 A1 l3) => (by
    have h1 := (flipColumns_yes X Y A1 l3 cap1 w' R3 hr' hc).mono fun _ _ h => Made.toL h
    have e : bytesL (pxs (flipCPx l3 X) X (X * Y)) = l := by
      rw [pxs_congr (flipCPx l3 X) (imgPx l X) X Y (by omega) (fun a b ha hb => by
        have e0 : flipCPx l3 X a b = imgPx l3 X (X - 1 - a) b := by unfold flipCPx imgPx; rw [nat_sub1 ha, nat_idx]
        rw [e0, el3, img_grid _ (by omega) hb, show X - 1 - (X - 1 - a) = a from by omega]), bytes_img hR]
    rw [e] at h1
    exact h1 : Calls Try.prog 63 #[imgV X Y A1 l3.length cap1] w' (MadeL w' X Y l))
  unfold MadeL at K2 K3 K4 M1 M2 M3
  rw [← hl1, ← hX1, ← hY1] at K2
  rw [← hl1, ← hX1, ← hY1] at L1
  rw [← hl2] at K3
  rw [← hl3] at K4
  have HXY := hide (And.intro hX1 (And.intro hY1 hl1))
  have HX := hide hX
  have hr0 := hr
  have HY := hide hY
  clear hR hr hcap hn hu hpo tb tm tok el2 el3 R1 R2 R3 h hX1 hY1 hl1 hl2 hl3 hXY hX hY
  have HR0 := hide hr0
  clear hr0
  have c1 : IntKind.i64.wrap ((k : Int) - 4 + 4) = k := (IntWalk.i64_in ((k : Int) - 4 + 4) (by omega)).trans (by omega)
  have c2 : IntKind.i64.wrap (4 - (k : Int)) = 4 - k := IntWalk.i64_in (4 - (k : Int)) (by omega)
  have hdk : decide ((k : Int) - 4 < 0) = true := by simp; omega
  rcases ht with ht | ⟨ht, hk1⟩
  all_goals
    go_enter Try.func13, Try.ntmps13
    go_wp2_with (first | (go_at_call 50; (with_reducible refine (K1.out _).mono ?_); rintro e w1 ⟨rfl, hb1⟩; obtain ⟨B1, hz, HW⟩ := own1 hb1; have P0 : Pic w1 w.heap.size X Y A l cap := ⟨B1, (HR0.out.below HW (Nat.le_refl _)).more HW.size⟩; obtain ⟨a0, a1, a2⟩ := P0.cells; clear hb1 B1) | (go_at_call 61; (with_reducible refine (K2.out _ P0.row).mono ?_); rintro e w2 ⟨A1, cap1, rfl, him1, hb2⟩; have P0 := P0.below hb2; have R1 := him1.row; have HI1 := hide him1; have HW2 := bstep HW hb2; obtain ⟨b0, b1, b2⟩ := P0.cellsA; clear him1 hb2 HW) | (go_at_call 62; (with_reducible refine (K3.out _ (P0.alloc _).row).mono ?_); rintro e w3 ⟨A2, cap2, rfl, him2, hb3⟩; have P0 := (P0.alloc _).below hb3; have P1 := (Pic.new (x := X1) (y := Y1) (cap := cap1) R1).below hb3; have R2 := him2.row; have HI2 := hide him2; have HW3 := bstep (balloc HW2 _) hb3; obtain ⟨c0, c1, c2⟩ := P0.cellsA; clear him2 hb3 HW2) | (go_at_call 63; (with_reducible refine (K4.out _ (P0.alloc _).row).mono ?_); rintro e w4 ⟨A3, cap3, rfl, him3, hb4⟩; have P0 := (P0.alloc _).below hb4; have P1 := (P1.alloc _).below hb4; have P2 := (Pic.new (x := X) (y := Y) (cap := cap2) R2).below hb4; have R3 := him3.row; have HI3 := hide him3; have HW4 := bstep (balloc HW3 _) hb4; obtain ⟨d0, d1, d2⟩ := P0.cellsA; clear him3 hb4 HW3) | (go_at_call 36; (with_reducible refine (K5.out _).mono ?_); rintro e w5 ⟨rfl, hb5⟩; have P0 := (P0.alloc _).below hb5; have P1 := (P1.alloc _).below hb5; have P2 := (P2.alloc _).below hb5; have P3 := (Pic.new (x := X) (y := Y) (cap := cap3) R3).below hb5; have HW5 := bstep (balloc HW4 _) hb5; obtain ⟨e0, e1, e2⟩ := P0.cells; clear hb5 HW4) | (go_at_call 60; (with_reducible refine (L0.out _ P0.row).mono ?_); rintro e w6 ⟨g, c, rfl, hO, hb6⟩; have P0 := P0.below hb6; have P1 := P1.below hb6; have P2 := P2.below hb6; have P3 := P3.below hb6; have RR := hO.rows; have HW6 := bstep HW5 hb6; clear hO hb6 HW5))
    have Q : Pics w6 w.heap.size w2.heap.size w3.heap.size w4.heap.size X Y X1 Y1 A A1 A2 A3 l l1 l2 l3 cap cap1 cap2 cap3 := ⟨P0, P1, P2, P3⟩
    clear P0 P1 P2 P3 K1 K2 K3 K4 K5 a0 a1 a2 b0 b1 b2 c0 c1 c2 d0 d1 d2 e0 e1 e2
    go_loopw [66, 11] (fun j v wr => ∃ i g c : Nat, i ≤ k ∧ j = .int .i64 i ∧ v = .slice (some ⟨g, 0, none⟩) (tq (imgPx l X) X Y i).2.2 c ∧ RowsAt wr wr.heap.size (some ⟨g, 0, none⟩) (grid (tq (imgPx l X) X Y i).1 (tq (imgPx l X) X Y i).2.1 (tq (imgPx l X) X Y i).2.2) ∧ Below w6.heap.size w6 wr) (fun j _ _ => k - (intOf j).toNat)
    case atStart => exact ⟨0, g, c, Nat.zero_le _, rfl, rfl, RR, Below.refl _ _⟩
    case round =>
      obtain ⟨i, gi, ci, hi, rfl, rfl, hRo, hw⟩ := hrel
      by_cases hlt : i < k
      · have KQ' := hide (KQ.out i gi ci wr hRo)
        obtain ⟨Yi, hYi⟩ : ∃ Yi, Yi = (tq (imgPx l X) X Y i).2.2 := ⟨_, rfl⟩
        rw [← hYi] at KQ' ⊢
        obtain ⟨Yj, hYj⟩ : ∃ Yj, Yj = (tq (imgPx l X) X Y (i + 1)).2.2 := ⟨_, rfl⟩
        rw [← hYj] at KQ'
        have HYj := hide hYj
        clear hRo hYi hYj
        have HW' := hide hw
        clear hw
        go_wp2_with (go_at_call 64; (with_reducible refine KQ'.out.mono ?_); rintro e wq ⟨g', c', rfl, hO, hbq⟩; have RQ := hide hO.rows; have HWq := hide (bstep HW'.out hbq); clear hO hbq)
        go_roundw
        case rel => first | exact ⟨i + 1, g', c', by omega, by go_num, by rw [HYj.out], by rw [← HYj.out]; exact RQ.out, HWq.out⟩ | exact ⟨.slice (some ⟨g', 0, none⟩) Yj c', .int .i64 ((i : Int) + 1), .bool true, .slice (some ⟨gi, 0, none⟩) Yi ci, .slice (some ⟨g', 0, none⟩) Yj c', .int .i64 ((i : Int) + 1), ⟨i + 1, g', c', by omega, by go_num, by rw [HYj.out], by rw [← HYj.out]; exact RQ.out, HWq.out⟩, rfl⟩
        case measure => simp [intOf]; omega
      · have hik : i = k := by omega
        subst hik
        obtain ⟨V, rfl⟩ : ∃ V : World, V = wr := ⟨_, rfl⟩
        have hVd : Below w6.heap.size w6 V.drew := hw.drew
        have Q := Q.below hVd
        have HR := hide (show RowsAt V.drew V.drew.heap.size (some ⟨gi, 0, none⟩) (grid (tq (imgPx l X) X Y i).1 X1 Y1) by rw [HXY.out.1, HXY.out.2.1]; exact hRo)
        have hd0 := bstep HW6 hVd
        have Q0 := (⟨Q.a.blk, Q.b.blk, Q.c.blk, Q.d.blk⟩ : Blk V w.heap.size 34 _ ∧ Blk V w2.heap.size 34 _ ∧ Blk V w3.heap.size 34 _ ∧ Blk V w4.heap.size 34 _)
        obtain ⟨a0, a1, a2, -⟩ := blk3 Q0.1
        obtain ⟨b0, b1, b2, -⟩ := blk3 Q0.2.1
        obtain ⟨c0, c1, c2, -⟩ := blk3 Q0.2.2.1
        obtain ⟨d0, d1, d2, -⟩ := blk3 Q0.2.2.2
        rw [← HXY.out.2.1]
        clear hRo hw hVd HW6 Q0 KQ
        go_wp2_with fail
        go_region_held3 (fun w' => w'.cell? ⟨w.heap.size, 0, none⟩ = some (.int .i64 (X : Int)) ∧ w'.cell? ⟨w.heap.size, 1, none⟩ = some (.int .i64 (Y : Int)) ∧ w'.cell? ⟨w.heap.size, 2, none⟩ = some (.slice A l.length cap) ∧ w'.cell? ⟨w2.heap.size, 0, none⟩ = some (.int .i64 (X1 : Int)) ∧ w'.cell? ⟨w2.heap.size, 1, none⟩ = some (.int .i64 (Y1 : Int)) ∧ w'.cell? ⟨w2.heap.size, 2, none⟩ = some (.slice A1 l1.length cap1) ∧ w'.cell? ⟨w3.heap.size, 0, none⟩ = some (.int .i64 (X : Int)) ∧ w'.cell? ⟨w3.heap.size, 1, none⟩ = some (.int .i64 (Y : Int)) ∧ w'.cell? ⟨w3.heap.size, 2, none⟩ = some (.slice A2 l2.length cap2) ∧ w'.cell? ⟨w4.heap.size, 0, none⟩ = some (.int .i64 (X : Int)) ∧ w'.cell? ⟨w4.heap.size, 1, none⟩ = some (.int .i64 (Y : Int)) ∧ w'.cell? ⟨w4.heap.size, 2, none⟩ = some (.slice A3 l3.length cap3)) (go_keep) (first | (go_at_call 55; (with_reducible refine (L1.out _ _ _ HR.out).mono ?_); rintro e x1 ⟨A4, cap4, rfl, him4, hx1⟩; have Q := Q.below hx1; obtain ⟨⟨a0, a1, a2⟩, ⟨b0, b1, b2⟩, ⟨c0, c1, c2⟩, ⟨d0, d1, d2⟩⟩ := Q.cells; have R4 := him4.row; have hd1 := bstep hd0 hx1; clear him4) | (go_at_call 54; (with_reducible refine (is_true _ _ A1 l1 cap1 A4 cap4 _ Q.b.row R4 HU1.out).mono ?_); rintro e x2 ⟨rfl, hx2⟩; have Q := Q.below hx2; obtain ⟨⟨a0, a1, a2⟩, ⟨b0, b1, b2⟩, ⟨c0, c1, c2⟩, ⟨d0, d1, d2⟩⟩ := Q.cells; have hd2 := bstep hd1 hx2; clear R4) | (go_at_call 60; (with_reducible refine (L0.out _ Q.a.row).mono ?_); rintro e x3 ⟨g5, c5, rfl, hO5, hx3⟩; have Q := Q.below hx3; obtain ⟨⟨a0, a1, a2⟩, ⟨b0, b1, b2⟩, ⟨c0, c1, c2⟩, ⟨d0, d1, d2⟩⟩ := Q.cells; have R5 := hO5.rows; have hd3 := bstep hd2 hx3; clear hd2 hO5) | (go_at_call 65; (with_reducible refine (L2.out _ _ _ R5).mono ?_); rintro e x4 ⟨g6, c6, rfl, hO6, hx4⟩; have Q := Q.below hx4; obtain ⟨⟨a0, a1, a2⟩, ⟨b0, b1, b2⟩, ⟨c0, c1, c2⟩, ⟨d0, d1, d2⟩⟩ := Q.cells; have R6 := hO6.rows; have hd4 := bstep hd3 hx4; clear hO6 R5) | (go_at_call 55; (with_reducible refine (L3.out _ _ _ R6).mono ?_); rintro e x5 ⟨A7, cap7, rfl, him7, hx5⟩; have Q := Q.below hx5; obtain ⟨⟨a0, a1, a2⟩, ⟨b0, b1, b2⟩, ⟨c0, c1, c2⟩, ⟨d0, d1, d2⟩⟩ := Q.cells; have R7 := him7.row; have hd5 := bstep hd4 hx5; clear him7 R6) | (go_at_call 54; (with_reducible refine (is_true _ _ A2 l2 cap2 A7 cap7 _ Q.c.row R7 HU2.out).mono ?_); rintro e x6 ⟨rfl, hx6⟩; have Q := Q.below hx6; obtain ⟨⟨a0, a1, a2⟩, ⟨b0, b1, b2⟩, ⟨c0, c1, c2⟩, ⟨d0, d1, d2⟩⟩ := Q.cells; have hd6 := bstep hd5 hx6; clear R7) | (go_at_call 60; (with_reducible refine (L0.out _ Q.a.row).mono ?_); rintro e x7 ⟨g8, c8, rfl, hO8, hx7⟩; have Q := Q.below hx7; obtain ⟨⟨a0, a1, a2⟩, ⟨b0, b1, b2⟩, ⟨c0, c1, c2⟩, ⟨d0, d1, d2⟩⟩ := Q.cells; have R8 := hO8.rows; have hd7 := bstep hd6 hx7; clear hO8) | (go_at_call 65; (with_reducible refine (L4.out _ _ _ R8).mono ?_); rintro e x8 ⟨g9, c9, rfl, hO9, hx8⟩; have Q := Q.below hx8; obtain ⟨⟨a0, a1, a2⟩, ⟨b0, b1, b2⟩, ⟨c0, c1, c2⟩, ⟨d0, d1, d2⟩⟩ := Q.cells; have R9 := hO9.rows; have hd8 := bstep hd7 hx8; clear hO9 R8) | (go_at_call 55; (with_reducible refine (L5.out _ _ _ R9).mono ?_); rintro e x9 ⟨A10, cap10, rfl, him10, hx9⟩; have Q := Q.below hx9; obtain ⟨⟨a0, a1, a2⟩, ⟨b0, b1, b2⟩, ⟨c0, c1, c2⟩, ⟨d0, d1, d2⟩⟩ := Q.cells; have R10 := him10.row; have hd9 := bstep hd8 hx9; clear him10 R9) | (go_at_call 54; (with_reducible refine (is_true _ _ A3 l3 cap3 A10 cap10 _ Q.d.row R10 HU3.out).mono ?_); rintro e x10 ⟨rfl, hx10⟩; have Q := Q.below hx10; obtain ⟨⟨a0, a1, a2⟩, ⟨b0, b1, b2⟩, ⟨c0, c1, c2⟩, ⟨d0, d1, d2⟩⟩ := Q.cells; have hd10 := bstep hd9 hx10; clear R10))
        go_wp2_with (first | (go_at_call 61; have hc1 := HI1.out.2; (with_reducible refine (M1.out _ _ hc1 _ Q.b.row).mono ?_); rintro e y1 ⟨A5, cap5, rfl, him5, hy1⟩; have Q := Q.below hy1; have S5 := him5.row; obtain ⟨⟨a0, a1, a2⟩, ⟨c0, c1, c2⟩, ⟨d0, d1, d2⟩⟩ := Q.cellsA; have hd11 := bstep hd10 hy1; clear him5) | (go_at_call 62; have hc2 := HI2.out.2; (with_reducible refine (M2.out _ _ hc2 _ (Q.alloc _).c.row).mono ?_); rintro e y2 ⟨A6, cap6, rfl, him6, hy2⟩; have Q := (Q.alloc _).below hy2; have P5 := (Pic.new (x := X) (y := Y) (cap := cap5) S5).below hy2; have S6 := him6.row; obtain ⟨⟨a0, a1, a2⟩, ⟨c0, c1, c2⟩, ⟨d0, d1, d2⟩⟩ := Q.cellsA; have hd12 := bstep (balloc hd11 _) hy2; clear him6) | (go_at_call 63; have hc3 := HI3.out.2; (with_reducible refine (M3.out _ _ hc3 _ (Q.alloc _).d.row).mono ?_); rintro e y3 ⟨A7, cap7, rfl, him7, hy3⟩; have Q := (Q.alloc _).below hy3; have P5 := (P5.alloc _).below hy3; have P6 := (Pic.new (x := X) (y := Y) (cap := cap6) S6).below hy3; have S7 := him7.row; obtain ⟨⟨a0, a1, a2⟩, ⟨c0, c1, c2⟩, ⟨d0, d1, d2⟩⟩ := Q.cellsA; obtain ⟨b0, b1, b2⟩ := P5.cellsA; have hd13 := bstep (balloc hd12 _) hy3; clear him7) | (go_at_call 54; (with_reducible refine (is_true _ _ A5 l cap5 A cap _ (P5.alloc _).row (Q.alloc _).a.row HU.out).mono ?_); rintro e y4 ⟨rfl, hy4⟩; have Q := (Q.alloc _).below hy4; have P6 := (P6.alloc _).below hy4; have P7 := (Pic.new (x := X) (y := Y) (cap := cap7) S7).below hy4; obtain ⟨⟨a0, a1, a2⟩, -⟩ := Q.cells; obtain ⟨b0, b1, b2⟩ := P6.cells; have hd14 := bstep (balloc hd13 _) hy4) | (go_at_call 54; (with_reducible refine (is_true _ _ A6 l cap6 A cap _ P6.row Q.a.row HU.out).mono ?_); rintro e y5 ⟨rfl, hy5⟩; have Q := Q.below hy5; have P7 := P7.below hy5; obtain ⟨⟨a0, a1, a2⟩, -⟩ := Q.cells; obtain ⟨b0, b1, b2⟩ := P7.cells; have hd15 := bstep hd14 hy5) | (go_at_call 54; (with_reducible refine (is_true _ _ A7 l cap7 A cap _ P7.row Q.a.row HU.out).mono ?_); rintro e y6 ⟨rfl, hy6⟩; have hd16 := bstep hd15 hy6) | (go_at_call 51; (with_reducible refine (awake34 _).mono ?_); rintro e y7 ⟨rfl, hy7⟩))
        go_ret
        exact ⟨rfl, bstep hd16 hy7⟩

theorem opsTurns_law (w : World) (x y : Int) (A : Option Addr) (l : List Int) (cap : Nat) (_ : I64 x) (_ : I64 y) (hr : RowAt w w.heap.size .u8 A l) (hu : U8s l) (hm : l.length ≤ maxLen) (hcap : l.length ≤ cap) (n : Int) (_ : I64 n) :
    Calls Try.prog 13 #[imgV x y A l.length cap, .int .i64 n] w fun e w' => e = .returned (.bool true) ∧ Below w.heap.size w w' := by
  by_cases h : 600 < l.length
  · exact turns_big x y A _ cap n w h
  by_cases hR : rightI x y l.length
  · have hx := hR.1.1
    have hy := hR.2.1.1
    obtain ⟨W, rfl⟩ := Int.eq_ofNat_of_zero_le (show 0 ≤ x by omega)
    obtain ⟨H, rfl⟩ := Int.eq_ofNat_of_zero_le (show 0 ≤ y by omega)
    obtain ⟨k, hk, hn, ht⟩ := quart_of n
    exact turns_yes W H A l cap n k w hu hr hcap h hR hk hn ht
  · exact turns_no x y A _ cap n w h hR
end Go.Proofs.Ytkjnheikimpliaa
