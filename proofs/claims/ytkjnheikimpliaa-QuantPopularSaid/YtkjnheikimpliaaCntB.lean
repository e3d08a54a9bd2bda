/- Counting in a map, and the function value of cmp.counts. -/
import Derived.Test.YtkjnheikimpliaaKeys
import Derived.Test.YtkjnheikimpliaaLawDithB
import Derived.WideKeyEntry
import Derived.Test.YtkjnheikimpliaaQImg
namespace Go.Proofs.Ytkjnheikimpliaa
section
set_option linter.unusedVariables false
set_option linter.unusedSimpArgs false
open Go.RowKit Go.Maps Go.MapKept Go.ChangeMaps

/-- One step of counting, each of its four runs: the value is looked up, the entry is made ready, the value is still the same, the new value is stored. -/
def EntrySteps (w : World) (b n : Nat) (D : DataW Unit) (key : Value) (kl : Lit) : Prop :=
    ∃ (c : Int) (st : Nat) (w1 : World), D.atKey kl (.lit (.int .i64 0)) = .lit (.int .i64 c) ∧ (Lit.int .i64 c).wf = true ∧
      (Instr.lookup 110 (.map (some b)) key false).run Try.prog w = .ok (.int .i64 c) w ∧
      (Instr.mapEntry 110 (.map (some b)) key).run Try.prog w = .ok (.tuple #[.int .i64 c, .int .i64 st]) w1 ∧
      (Instr.lookup 110 (.map (some b)) key false).run Try.prog w1 = .ok (.int .i64 c) w1 ∧ w.grownBy w1 (some b) ∧ w1.heap.size = w.heap.size ∧
      ∀ (val : Value) (d : DataW Unit) (ps : List MemPlace), plainElem Try.prog 3 val = some (d, ps) → ∃ w2, (Instr.entryStore 110 (.map (some b)) (.int .i64 st) val).run Try.prog w1 = .ok () w2 ∧
        w2.ownsMap Try.prog 36 (plainElem Try.prog 3) b (n + 1) (D.put kl d) ∧ w.grownBy w2 (some b) ∧ w2.heap.size = w.heap.size
theorem entry_steps {w : World} {b n : Nat} {D : DataW Unit} (h : w.ownsMap Try.prog 36 (plainElem Try.prog 3) b n D) (hn : n < maxLen) {key : Value} {kl : Lit} (hkey : keyOf Try.prog 36 key = some kl) : EntrySteps w b n D key kl := by
  have K := law36
  have ht := Try.underlying110
  obtain ⟨c, hl, hat, hwf⟩ := h.lookup_int K ht Try.underlying3 (zero3 w) hkey
  obtain ⟨es, clock, hb, F, hs, hD⟩ := h
  obtain ⟨s1, s2, s3⟩ := F.stamped
  have hkn : ∀ e ∈ es.toList, ∃ l, keyOf Try.prog 36 e.key = some l := F.keys
  -- what follows from the array and the clock behind the entry
  have fin : ∀ (st clock1 : Nat) (es1 : Array MapEntry), (Instr.mapEntry 110 (.map (some b)) key).run Try.prog w = .ok (.tuple #[.int .i64 c, .int .i64 st]) (setBlock w b (.map es1 clock1)) →
      (Instr.lookup 110 (.map (some b)) key false).run Try.prog (setBlock w b (.map es1 clock1)) = .ok (.int .i64 c) (setBlock w b (.map es1 clock1)) →
      (∀ val, ∃ es2 clock2, (Instr.entryStore 110 (.map (some b)) (.int .i64 st) val).run Try.prog (setBlock w b (.map es1 clock1)) = .ok () (setBlock (setBlock w b (.map es1 clock1)) b (.map es2 clock2)) ∧
        (Instr.mapUpdate 110 (.map (some b)) key val).run Try.prog w = .ok () (setBlock w b (.map es2 clock2))) → EntrySteps w b n D key kl := fun st clock1 es1 h1 h2 h3 => by
    have hb1 : (setBlock w b (.map es1 clock1)).heap[b]? = some (.map es1 clock1) := heap_setBlock_same hb _
    have h0 : w.ownsMap Try.prog 36 (plainElem Try.prog 3) b n D := ⟨es, clock, hb, F, hs, hD⟩
    refine ⟨c, st, setBlock w b (.map es1 clock1), hat, hwf, hl, h1, h2, ⟨rfl, rfl, rfl, by simp [setBlock], fun i _ hi => heap_setBlock_other hb _ (fun e => hi (by rw [e]))⟩, by simp [setBlock], fun val d ps hv => ?_⟩
    obtain ⟨es2, clock2, hr2, hr3⟩ := h3 val
    obtain ⟨w', hu, ho, -⟩ := h0.update K ht hn hkey hv
    rw [hr3] at hu
    injection hu with _ hu
    subst hu
    obtain ⟨es3, clock3, hb3, F3, hs3, hD3⟩ := ho
    have e3 : (setBlock w b (.map es2 clock2)).heap[b]? = some (.map es2 clock2) := heap_setBlock_same hb _
    rw [e3] at hb3
    injection hb3 with hb3
    injection hb3 with ha hc
    subst ha hc
    refine ⟨_, hr2, ⟨es2, clock2, heap_setBlock_same hb1 _, F3, hs3, hD3⟩, ⟨rfl, rfl, rfl, by simp [setBlock], fun i _ hi => ?_⟩, by simp [setBlock]⟩
    rw [heap_setBlock_other hb1 _ (fun e => hi (by rw [e])), heap_setBlock_other hb _ (fun e => hi (by rw [e]))]
  rcases K.find w hkey es.toList hkn with ⟨h1, h2⟩ | ⟨j, e0, h1, h2, h3⟩
  · have hz := zero3
    have hlz : c = 0 := by
      have := hl
      simp [Instr.lookup, run_underlying ht, MapKept.run_getObj_map hb, K.check w _ hkey, h1, hz, Result.andThen] at this
      exact this.symm
    subst hlz
    refine fin clock (clock + 1) (es.push ⟨key, .int .i64 0, clock⟩) ?_ ?_ ?_
    · simp [Instr.mapEntry, run_underlying ht, MapKept.run_getObj_map hb, K.check w false hkey, h1, hz, MapKept.run_setObj_map _ hb, Result.andThen, setBlock, goInt]
    · have hb1 : (setBlock w b (.map (es.push ⟨key, .int .i64 0, clock⟩) (clock + 1))).heap[b]? = some (.map (es.push ⟨key, .int .i64 0, clock⟩) (clock + 1)) := heap_setBlock_same hb _
      generalize setBlock w b (.map (es.push ⟨key, .int .i64 0, clock⟩) (clock + 1)) = w1 at hb1
      rcases K.find w1 hkey (es.push ⟨key, .int .i64 0, clock⟩).toList (fun e he => by
        simp only [Array.toList_push, List.mem_append, List.mem_singleton] at he
        rcases he with he | rfl
        · exact hkn e he
        · exact ⟨kl, hkey⟩) with ⟨_, q2⟩ | ⟨j, e1, q1, q2, q3⟩
      · exact absurd rfl (q2 ⟨key, .int .i64 0, clock⟩ (by simp))
      · have hm : e1 ∈ (es.push ⟨key, .int .i64 0, clock⟩).toList := List.mem_of_getElem? q2
        simp only [Array.toList_push, List.mem_append, List.mem_singleton] at hm
        have he : e1 = ⟨key, .int .i64 0, clock⟩ := by
          rcases hm with hm | hm
          · exact absurd q3 (h2 e1 hm)
          · exact hm
        simp only [Array.toList_push] at q1
        simp [Instr.lookup, run_underlying ht, MapKept.run_getObj_map hb1, K.check w1 _ hkey, q1, Result.andThen, he]
    · intro val
      refine ⟨es.push ⟨key, val, clock⟩, clock + 1, ?_, ?_⟩
      · have hb1 : (setBlock w b (.map (es.push ⟨key, .int .i64 0, clock⟩) (clock + 1))).heap[b]? = some (.map (es.push ⟨key, .int .i64 0, clock⟩) (clock + 1)) := heap_setBlock_same hb _
        generalize setBlock w b (.map (es.push ⟨key, .int .i64 0, clock⟩) (clock + 1)) = w1 at hb1
        have hidx : (es.push ⟨key, .int .i64 0, clock⟩).findIdx? (fun e => ((e.born : Nat) : Int) == ((clock : Nat) : Int)) = some es.size := by
          rw [WideElems.findIdx_arr]
          exact WideElems.findIdx_born (l := (es.push ⟨key, .int .i64 0, clock⟩).toList) (j := es.size) (e0 := ⟨key, .int .i64 0, clock⟩) (by
            simp only [Array.toList_push, List.map_append, List.map_cons, List.map_nil]
            refine List.nodup_append.2 ⟨s2, by simp, fun a ha c hc e1 => ?_⟩
            simp only [List.mem_singleton] at hc
            obtain ⟨x, hx, rfl⟩ := List.mem_map.1 ha
            have := s1 x hx
            omega) (by simp)
        have hmod : (es.push ⟨key, .int .i64 0, clock⟩).modify es.size (fun e => { e with val := val }) = es.push ⟨key, val, clock⟩ := by
          apply Array.ext'
          rw [Array.toList_modify, Array.toList_push, Array.toList_push, ← Array.length_toList, WideElems.modify_last]
        simp [Instr.entryStore, MapKept.run_getObj_map hb1, asInt, asIntOf, goInt, hidx, hmod, MapKept.run_setObj_map _ hb1, Result.andThen, setBlock]
      · simp [Instr.mapUpdate, run_underlying ht, MapKept.run_getObj_map hb, K.check w false hkey, h1, MapKept.run_setObj_map _ hb, Result.andThen, setBlock]
  · have hj : es[j]? = some e0 := by simpa using h2
    have hv0 : e0.val = .int .i64 c := by
      have := hl
      simp [Instr.lookup, run_underlying ht, MapKept.run_getObj_map hb, K.check w _ hkey, h1, Result.andThen] at this
      exact this
    have hsame : es.modify j (fun e => { e with key := key }) = es := by
      apply Array.ext'
      rw [Array.toList_modify, modify_eq_set _ _ _ _ h2]
      have e1 : ({ e0 with key := key } : MapEntry) = e0 := by rw [← h3]
      rw [e1]
      exact WideElems.set_self _ _ _ h2
    have hset : setBlock w b (.map es clock) = w := by
      unfold setBlock
      have : w.heap.setIfInBounds b (.map es clock) = w.heap := by
        apply Array.ext_getElem?
        intro i
        rw [Array.getElem?_setIfInBounds]
        split
        · rename_i e
          subst e
          have hlt : b < w.heap.size := (Array.getElem?_eq_some_iff.1 hb).1
          rw [if_pos hlt, hb]
        · rfl
      rw [this]
    refine fin e0.born clock es ?_ ?_ ?_
    · simp [Instr.mapEntry, run_underlying ht, MapKept.run_getObj_map hb, K.check w false hkey, h1, hj, h3, K.stays w hkey, hsame, MapKept.run_setObj_map _ hb, Result.andThen, setBlock, hv0, goInt]
    · rw [hset]; exact hl
    · intro val
      rw [hset]
      refine ⟨es.modify j (fun e' => { e' with key := key, val := val }), clock, ?_, ?_⟩
      · have hidx : es.findIdx? (fun e => ((e.born : Nat) : Int) == ((e0.born : Nat) : Int)) = some j := by
          rw [WideElems.findIdx_arr]
          exact WideElems.findIdx_born s2 h2
        have hmod : es.modify j (fun e => { e with val := val }) = es.modify j (fun e' => { e' with key := key, val := val }) := by
          apply Array.ext'
          rw [Array.toList_modify, Array.toList_modify, modify_eq_set _ _ _ _ h2, modify_eq_set _ _ _ _ h2, ← h3]
        simp [Instr.entryStore, MapKept.run_getObj_map hb, asInt, asIntOf, goInt, hidx, hmod, MapKept.run_setObj_map _ hb, Result.andThen, setBlock]
      · simp [Instr.mapUpdate, run_underlying ht, MapKept.run_getObj_map hb, K.check w false hkey, h1, hj, h3, K.stays w hkey, MapKept.run_setObj_map _ hb, Result.andThen, setBlock]
end
set_option linter.unusedVariables false
set_option linter.unusedSimpArgs false
open Go.RowKit
attribute [local go_sem ↓] Go.wp_at_zero Go.wp_at_succ

set_option maxRecDepth 100000 in
set_option maxHeartbeats 8000000 in
theorem count_one (w : World) (m b n : Nat) (D : DataW Unit) (c : Col) (hc : c.ok) (x y : Int) (hm : w.cell? ⟨m, 0, none⟩ = some (.map (some b))) (hmb : ¬ m = b) (ho : w.ownsMap Try.prog 36 (plainElem Try.prog 3) b n D) (hn : n < maxLen)
    (hv : ∀ v, D.atKey (colK c) (.lit (.int .i64 0)) = .lit (.int .i64 v) → 0 ≤ v ∧ v ≤ 1073741824) :
    Calls Try.prog 136 #[.int .i64 x, .int .i64 y, colV c, .pointer (some ⟨m, 0, none⟩)] w fun e w' => e = .returned (.tuple #[]) ∧ ∃ v, D.atKey (colK c) (.lit (.int .i64 0)) = .lit (.int .i64 v) ∧
      w'.ownsMap Try.prog 36 (plainElem Try.prog 3) b (n + 1) (D.put (colK c) (.lit (.int .i64 (v + 1)))) ∧ w.grownBy w' (some b) := by
  have hml : m < w.heap.size := World.block_lt_of_cell? w _ hm
  have hbl := ho.lt
  have HO := hide ho
  have HC := hide hc
  have HV := hide hv
  clear ho hc hv
  go_enter Try.func136, Try.ntmps136
  go_wp2_with fail
  have hOV := (HO.out.alloc (.cells #[.int .u8 c.r, .int .u8 c.g, .int .u8 c.b, .int .u8 c.a] 36)).drew
  have hB := (Blk.new w 36 #[.int .u8 c.r, .int .u8 c.g, .int .u8 c.b, .int .u8 c.a])
  have hg0 : w.grownBy (w.alloc (.cells #[.int .u8 c.r, .int .u8 c.g, .int .u8 c.b, .int .u8 c.a] 36)).drew (some b) := by
    have h := World.grownBy_alloc w (.cells #[.int .u8 c.r, .int .u8 c.g, .int .u8 c.b, .int .u8 c.a] 36) (some b)
    exact ⟨h.os, h.tape, h.output, h.size, h.block⟩
  have hm0 : (w.alloc (.cells #[.int .u8 c.r, .int .u8 c.g, .int .u8 c.b, .int .u8 c.a] 36)).drew.cell? ⟨m, 0, none⟩ = some (.map (some b)) := hg0.cell hm (by simpa using hmb)
  have hB1 : Blk (w.alloc (.cells #[.int .u8 c.r, .int .u8 c.g, .int .u8 c.b, .int .u8 c.a] 36)).drew w.heap.size 36 #[.int .u8 c.r, .int .u8 c.g, .int .u8 c.b, .int .u8 c.a] := hB
  obtain ⟨x0, x1, x2, x3, -⟩ := blk4 hB1
  refine wp_region_noPanic ?_
  refine wp_region_held_drew (S := (fun w' => w'.cell? ⟨m, 0, none⟩ = some (.map (some b)) ∧ w'.cell? ⟨w.heap.size, 0, none⟩ = some (.int .u8 c.r) ∧ w'.cell? ⟨w.heap.size, 1, none⟩ = some (.int .u8 c.g) ∧ w'.cell? ⟨w.heap.size, 2, none⟩ = some (.int .u8 c.b) ∧ w'.cell? ⟨w.heap.size, 3, none⟩ = some (.int .u8 c.a))) (by kernel_rfl) ?_ (fun hHeld => ?_)
  · ((try dsimp only); exact ⟨hm0, x0, x1, x2, x3⟩)
  generalize (w.alloc (.cells #[.int .u8 c.r, .int .u8 c.g, .int .u8 c.b, .int .u8 c.a] 36)).drew = V at hHeld hOV hg0 hm0 hB1 x0 x1 x2 x3 ⊢
  obtain ⟨v, st, w1, hat, hwf, r1, r2, r3, g1, z1, hst⟩ := entry_steps hOV hn (keyCol HC.out)
  obtain ⟨v0, v1⟩ := HV.out v hat
  have ew : IntKind.i64.wrap (v + 1) = v + 1 := IntWalk.i64_in _ (by omega)
  obtain ⟨w2, hw2, ho2, g2, z2⟩ := hst (.int .i64 (v + 1)) _ _ (plainElem_int Try.underlying3 (WalkArith.wf_i64 (by omega)))
  have nb : ¬ w.heap.size = b := by omega
  have s1 : w1.cell? ⟨m, 0, none⟩ = some (.map (some b)) ∧ w1.cell? ⟨w.heap.size, 0, none⟩ = some (.int .u8 c.r) ∧ w1.cell? ⟨w.heap.size, 1, none⟩ = some (.int .u8 c.g) ∧ w1.cell? ⟨w.heap.size, 2, none⟩ = some (.int .u8 c.b) ∧ w1.cell? ⟨w.heap.size, 3, none⟩ = some (.int .u8 c.a) :=
    ⟨g1.cell hm0 (by simpa using hmb), g1.cell x0 (by simpa using nb), g1.cell x1 (by simpa using nb), g1.cell x2 (by simpa using nb), g1.cell x3 (by simpa using nb)⟩
  have s2 : w2.cell? ⟨m, 0, none⟩ = some (.map (some b)) ∧ w2.cell? ⟨w.heap.size, 0, none⟩ = some (.int .u8 c.r) ∧ w2.cell? ⟨w.heap.size, 1, none⟩ = some (.int .u8 c.g) ∧ w2.cell? ⟨w.heap.size, 2, none⟩ = some (.int .u8 c.b) ∧ w2.cell? ⟨w.heap.size, 3, none⟩ = some (.int .u8 c.a) :=
    ⟨g2.cell hm0 (by simpa using hmb), g2.cell x0 (by simpa using nb), g2.cell x1 (by simpa using nb), g2.cell x2 (by simpa using nb), g2.cell x3 (by simpa using nb)⟩
  have HAT := hide hat
  have HO2 := hide ho2
  have HG2 := hide (hg0.trans g2)
  have S1 := hide s1
  have S2 := hide s2
  clear hat ho2 g2 s1 s2 hst g1 hOV hg0 hB hB1 z1 z2 hwf
  simp only [colV] at r1 r2 r3
  refine wpAnyH_take (i := 0) (v := ?vx0) rfl (by kernel_rfl) (by kernel_rfl) (by kernel_rfl) (fun _ _ _ h => h) (Or.inl ⟨by rfl, ?hyx0⟩) (by assumption) ?restx0
  case hyx0 => (intro w hSw; (try dsimp only at hSw); go_simp; try with_reducible rfl)
  try simp only [Act.put, List.setIfInBounds_toArray, List.set_cons_zero, List.set_cons_succ, List.getElem_toArray, List.getElem_cons_succ, List.getElem_cons_zero]
  refine wpAnyH_take (i := 1) (v := ?vx1) rfl (by kernel_rfl) (by kernel_rfl) (by kernel_rfl) (fun _ _ _ h => h) (Or.inl ⟨by rfl, ?hyx1⟩) (by assumption) ?restx1
  case hyx1 => (intro w hSw; (try dsimp only at hSw); go_simp; try with_reducible rfl)
  try simp only [Act.put, List.setIfInBounds_toArray, List.set_cons_zero, List.set_cons_succ, List.getElem_toArray, List.getElem_cons_succ, List.getElem_cons_zero]
  refine wpAnyH_ready (rs := [2, 4]) (by kernel_rfl) (by simp) ?_
  refine AllReadyH.cons rfl (fun K hK => ?_) (AllReadyH.cons rfl (fun K hK => ?_) AllReadyH.nil)
  · go_simp
    refine hK.out _ _ hHeld (fun hHeld => ?_)
    clear hK K
    try simp only [Act.put, List.setIfInBounds_toArray, List.set_cons_zero, List.set_cons_succ, List.getElem_toArray, List.getElem_cons_succ, List.getElem_cons_zero]
    refine wpAnyH_take (i := 3) (v := ?va3) rfl (by kernel_rfl) (by kernel_rfl) (by kernel_rfl) (fun _ _ _ h => h) (Or.inl ⟨by rfl, ?hya3⟩) (by assumption) ?resta3
    case hya3 => (intro w hSw; (try dsimp only at hSw); go_simp; try with_reducible rfl)
    try simp only [Act.put, List.setIfInBounds_toArray, List.set_cons_zero, List.set_cons_succ, List.getElem_toArray, List.getElem_cons_succ, List.getElem_cons_zero]
    refine wpAnyH_ready (rs := [4]) (by kernel_rfl) (by simp) ?_
    refine AllReadyH.cons rfl (fun K hK => ?_) AllReadyH.nil
    go_simp
    refine hK.out _ _ S1.out (fun hHeld => ?_)
    clear hK K
    try simp only [Act.put, List.setIfInBounds_toArray, List.set_cons_zero, List.set_cons_succ, List.getElem_toArray, List.getElem_cons_succ, List.getElem_cons_zero]
    refine wpAnyH_take (i := 5) (v := ?va5) rfl (by kernel_rfl) (by kernel_rfl) (by kernel_rfl) (fun _ _ _ h => h) (Or.inl ⟨by rfl, ?hya5⟩) (by assumption) ?resta5
    case hya5 => (intro w hSw; (try dsimp only at hSw); go_simp; try with_reducible rfl)
    try simp only [Act.put, List.setIfInBounds_toArray, List.set_cons_zero, List.set_cons_succ, List.getElem_toArray, List.getElem_cons_succ, List.getElem_cons_zero]
    refine wpAnyH_ready (rs := [6]) (by kernel_rfl) (by simp) ?_
    refine AllReadyH.cons rfl (fun K hK => ?_) AllReadyH.nil
    go_simp
    refine hK.out _ _ S2.out (fun hHeld => ?_)
    clear hK K
    refine wpAnyH_done (by kernel_rfl) ?_ _
    refine NoPanic.normal ?_
    go_wp2_with fail
    go_end0
    exact ⟨rfl, v, HAT.out, HO2.out, HG2.out⟩
  · go_simp
    refine hK.out _ _ S1.out (fun hHeld => ?_)
    clear hK K
    try simp only [Act.put, List.setIfInBounds_toArray, List.set_cons_zero, List.set_cons_succ, List.getElem_toArray, List.getElem_cons_succ, List.getElem_cons_zero]
    refine wpAnyH_take (i := 5) (v := ?vb5) rfl (by kernel_rfl) (by kernel_rfl) (by kernel_rfl) (fun _ _ _ h => h) (Or.inl ⟨by rfl, ?hyb5⟩) (by assumption) ?restb5
    case hyb5 => (intro w hSw; (try dsimp only at hSw); go_simp; try with_reducible rfl)
    try simp only [Act.put, List.setIfInBounds_toArray, List.set_cons_zero, List.set_cons_succ, List.getElem_toArray, List.getElem_cons_succ, List.getElem_cons_zero]
    refine wpAnyH_ready (rs := [2]) (by kernel_rfl) (by simp) ?_
    refine AllReadyH.cons rfl (fun K hK => ?_) AllReadyH.nil
    go_simp
    refine hK.out _ _ S1.out (fun hHeld => ?_)
    clear hK K
    try simp only [Act.put, List.setIfInBounds_toArray, List.set_cons_zero, List.set_cons_succ, List.getElem_toArray, List.getElem_cons_succ, List.getElem_cons_zero]
    refine wpAnyH_take (i := 3) (v := ?vb3) rfl (by kernel_rfl) (by kernel_rfl) (by kernel_rfl) (fun _ _ _ h => h) (Or.inl ⟨by rfl, ?hyb3⟩) (by assumption) ?restb3
    case hyb3 => (intro w hSw; (try dsimp only at hSw); go_simp; try with_reducible rfl)
    try simp only [Act.put, List.setIfInBounds_toArray, List.set_cons_zero, List.set_cons_succ, List.getElem_toArray, List.getElem_cons_succ, List.getElem_cons_zero]
    refine wpAnyH_ready (rs := [6]) (by kernel_rfl) (by simp) ?_
    refine AllReadyH.cons rfl (fun K hK => ?_) AllReadyH.nil
    go_simp
    refine hK.out _ _ S2.out (fun hHeld => ?_)
    clear hK K
    refine wpAnyH_done (by kernel_rfl) ?_ _
    refine NoPanic.normal ?_
    go_wp2_with fail
    go_end0
    exact ⟨rfl, v, HAT.out, HO2.out, HG2.out⟩
end Go.Proofs.Ytkjnheikimpliaa
