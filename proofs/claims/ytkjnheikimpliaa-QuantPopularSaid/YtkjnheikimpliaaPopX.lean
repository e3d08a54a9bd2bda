/- The colours that most pixels have: the plain law; slices.SortStableFunc, quant.popular, Popular, Reduce and the reference's Popular, walked. -/
import Derived.Test.YtkjnheikimpliaaStX
import Derived.Test.YtkjnheikimpliaaColsA
import Derived.Test.YtkjnheikimpliaaNums
namespace Go.Proofs.Ytkjnheikimpliaa
/-! slices.SortStableFunc over colours, by how often they are counted: walked at this program. -/
section
set_option linter.unusedVariables false
set_option linter.unusedSimpArgs false
open Go.Shelf Go.RowKit Go.Lib Go.Sort
attribute [local go_sem ↓] Go.wp_at_zero Go.wp_at_succ

/-- A colour whose channels are bytes. -/
abbrev OkC := { c : Col // c.ok }
instance : Inhabited OkC := ⟨⟨⟨0, 0, 0, 0⟩, by simp [Col.ok]⟩⟩
/-- Its cells. -/
def encC (c : OkC) : List Value := [.int .u8 c.1.r, .int .u8 c.1.g, .int .u8 c.1.b, .int .u8 c.1.a]
/-- What the comparison of two colours hands back: how many times more the other one is counted. -/
def cfC (l : List Int) (N : Nat) (x y : OkC) : Int := (cntN l y.1 N : Int) - (cntN l x.1 N : Int)

theorem stL : StL Try.prog 4 where
  mixed := by kernel_rfl
  t0 := Try.underlying0
  a0 := Try.isAgg0
  z0 := Try.sizeOf0
  v0 := Try.zeroValue0
  t3 := Try.underlying3
  a3 := Try.isAgg3
  z3 := Try.sizeOf3
  v3 := Try.zeroValue3
  t4 := Try.underlying4
  a4 := Try.isAgg4
  z4 := Try.sizeOf4
  v4 := Try.zeroValue4
  t58 := Try.underlying58
  a58 := Try.isAgg58
  z58 := Try.sizeOf58
  v58 := Try.zeroValue58
  t130 := Try.underlying130
  a130 := Try.isAgg130
  z130 := Try.sizeOf130
  v130 := Try.zeroValue130
  t133 := Try.underlying133
  a133 := Try.isAgg133
  z133 := Try.sizeOf133
  v133 := Try.zeroValue133
  aE := Try.isAgg36
  zE := Try.sizeOf36
  f144 := Try.func144
  f146 := Try.func146
  f147 := Try.func147
  f148 := Try.func148
  e145 := enters_of Try.func145 (by kernel_rfl) rfl

def slRen : Go.Shelf.Ren := ⟨fun | 20 => 145 | n => n, fun | 22 => 58 | 24 => 36 | 25 => 130 | n => n, fun | n => n⟩
theorem slIns : SlLaysF0.n20 Try.prog slRen where
  mixed := by kernel_rfl
  f20 := ⟨Try.f145.name, by kernel_rfl, Try.func145.trans (congrArg some (by kernel_rfl))⟩
  t0 := Try.underlying0
  a0 := Try.isAgg0
  z0 := Try.sizeOf0
  v0 := Try.zeroValue0
  t3 := Try.underlying3
  a3 := Try.isAgg3
  z3 := Try.sizeOf3
  v3 := Try.zeroValue3
  t4 := Try.underlying4
  a4 := Try.isAgg4
  z4 := Try.sizeOf4
  v4 := Try.zeroValue4
  t22 := Try.underlying58
  a22 := Try.isAgg58
  z22 := Try.sizeOf58
  v22 := Try.zeroValue58
  t25 := Try.underlying130
  a25 := Try.isAgg130
  z25 := Try.sizeOf130
  v25 := Try.zeroValue130

set_option maxHeartbeats 2000000 in
set_option maxRecDepth 100000 in
theorem closure143_any (l : List Int) (N n m b : Nat) (D : DataW Unit) (x y : OkC) (w : World) (hN : N ≤ 268435456) (hm : w.cell? ⟨m, 0, none⟩ = some (.map (some b))) (ho : w.ownsMap Try.prog 36 (plainElem Try.prog 3) b n D) (hD : CntD l N D) :
    Calls Try.prog 143 #[.agg (encC x).toArray, .agg (encC y).toArray, .pointer (some ⟨m, 0, none⟩)] w fun e w' => e = .returned (.int .i64 (cfC l N x y)) ∧ ∃ q os', w' = grow (w.drewN q) os' := by
  have hml : m < w.heap.size := World.block_lt_of_cell? w _ hm
  have hbl := ho.lt
  unfold cfC encC
  obtain ⟨x, hx⟩ := x
  obtain ⟨y, hy⟩ := y
  have cx := cntN_le l x N
  have cy := cntN_le l y N
  have HD := hide hD
  have hlk : ∀ (c : Col) (hc : c.ok) (V : World), V.ownsMap Try.prog 36 (plainElem Try.prog 3) b n D → (Instr.lookup 110 (.map (some b)) (colV c) false).run Try.prog V = .ok (.int .i64 (cntN l c N : Nat)) V := fun c hc V hV => by
    obtain ⟨v, h1, h2, -⟩ := hV.lookup_int law36 Try.underlying110 Try.underlying3 (zero3 _) (keyCol hc)
    rw [HD.out.at_ c hc] at h2
    injection h2 with h2; injection h2 with _ h2
    rw [h1, h2]
  have hoV := (ho.alloc (.cells #[.int .u8 x.r, .int .u8 x.g, .int .u8 x.b, .int .u8 x.a] 36)).alloc (.cells #[.int .u8 y.r, .int .u8 y.g, .int .u8 y.b, .int .u8 y.a] 36)
  have hmV : ((w.alloc (.cells #[.int .u8 x.r, .int .u8 x.g, .int .u8 x.b, .int .u8 x.a] 36)).alloc (.cells #[.int .u8 y.r, .int .u8 y.g, .int .u8 y.b, .int .u8 y.a] 36)).cell? ⟨m, 0, none⟩ = some (.map (some b)) := (balloc (below_alloc w _) _).cell (p := ⟨m, 0, none⟩) hml |>.trans hm
  have hX : Blk ((w.alloc (.cells #[.int .u8 x.r, .int .u8 x.g, .int .u8 x.b, .int .u8 x.a] 36)).alloc (.cells #[.int .u8 y.r, .int .u8 y.g, .int .u8 y.b, .int .u8 y.a] 36)) w.heap.size 36 #[.int .u8 x.r, .int .u8 x.g, .int .u8 x.b, .int .u8 x.a] := (Blk.new _ _ _).alloc _
  have hY : Blk ((w.alloc (.cells #[.int .u8 x.r, .int .u8 x.g, .int .u8 x.b, .int .u8 x.a] 36)).alloc (.cells #[.int .u8 y.r, .int .u8 y.g, .int .u8 y.b, .int .u8 y.a] 36)) (w.heap.size + 1) 36 #[.int .u8 y.r, .int .u8 y.g, .int .u8 y.b, .int .u8 y.a] := Blk.new' _ _ _ _ (by simp)
  have hlX : ∀ q, (Instr.lookup 110 (.map (some b)) (colV x) false).run Try.prog (((w.alloc (.cells #[.int .u8 x.r, .int .u8 x.g, .int .u8 x.b, .int .u8 x.a] 36)).alloc (.cells #[.int .u8 y.r, .int .u8 y.g, .int .u8 y.b, .int .u8 y.a] 36)).drewN q) = .ok (.int .i64 (cntN l x N : Nat)) (((w.alloc (.cells #[.int .u8 x.r, .int .u8 x.g, .int .u8 x.b, .int .u8 x.a] 36)).alloc (.cells #[.int .u8 y.r, .int .u8 y.g, .int .u8 y.b, .int .u8 y.a] 36)).drewN q) := fun q => hlk x hx _ hoV
  have hlY : ∀ q, (Instr.lookup 110 (.map (some b)) (colV y) false).run Try.prog (((w.alloc (.cells #[.int .u8 x.r, .int .u8 x.g, .int .u8 x.b, .int .u8 x.a] 36)).alloc (.cells #[.int .u8 y.r, .int .u8 y.g, .int .u8 y.b, .int .u8 y.a] 36)).drewN q) = .ok (.int .i64 (cntN l y N : Nat)) (((w.alloc (.cells #[.int .u8 x.r, .int .u8 x.g, .int .u8 x.b, .int .u8 x.a] 36)).alloc (.cells #[.int .u8 y.r, .int .u8 y.g, .int .u8 y.b, .int .u8 y.a] 36)).drewN q) := fun q => hlk y hy _ hoV
  have hfin : ∀ q, ((w.alloc (.cells #[.int .u8 x.r, .int .u8 x.g, .int .u8 x.b, .int .u8 x.a] 36)).alloc (.cells #[.int .u8 y.r, .int .u8 y.g, .int .u8 y.b, .int .u8 y.a] 36)).drewN q = grow (w.drewN q) #[.cells #[.int .u8 x.r, .int .u8 x.g, .int .u8 x.b, .int .u8 x.a] 36, .cells #[.int .u8 y.r, .int .u8 y.g, .int .u8 y.b, .int .u8 y.a] 36] := fun q => by
    rw [alloc_eq_grow, alloc_eq_grow, grow_grow]; rfl
  have HF := hide hfin
  have mixed : Try.prog.follows .mixedOrders = true := by kernel_rfl
  dsimp only
  clear ho hD hlk hoV hm hfin
  generalize cntN l x N = px at cx hlX ⊢
  generalize cntN l y N = py at cy hlY ⊢
  have ew : IntKind.i64.wrap ((py : Int) - (px : Int)) = (py : Int) - (px : Int) := IntWalk.i64_in _ (by omega)
  simp only [colV] at hlX hlY
  go_enter Try.func143, Try.ntmps143
  go_wp2_with fail
  generalize (w.alloc (.cells #[.int .u8 x.r, .int .u8 x.g, .int .u8 x.b, .int .u8 x.a] 36)).alloc (.cells #[.int .u8 y.r, .int .u8 y.g, .int .u8 y.b, .int .u8 y.a] 36) = V at hmV hX hY hlX hlY HF ⊢
  obtain ⟨x0, x1, x2, x3, -⟩ := blk4 hX
  obtain ⟨y0, y1, y2, y3, -⟩ := blk4 hY
  clear hX hY
  go_quiet (fail)
  go_wp2_with fail
  go_ret
  exact ⟨rfl, nq, _, HF.out nq⟩

/-- What a world of the sort's holds beside its row. -/
theorem sw_heap {w : World} {blk off : Nat} (m : Nat) (dk : Array OkC) (os : Array Obj) (j : Nat) (hj : j < w.heap.size) (hne : j ≠ blk) : (sortWorldK encC 4 w blk off m dk os).heap[j]? = w.heap[j]? := by
  unfold sortWorldK putRowK putRow
  simp [grow, mapBlock, Sort.ahead, Array.getElem?_append, hj, Array.getElem_modify, Ne.symm hne]
theorem cmpLays143 (l : List Int) (N n m b : Nat) (D : DataW Unit) (blk off size : Nat) (w : World) (hN : N ≤ 268435456) (hm : w.cell? ⟨m, 0, none⟩ = some (.map (some b))) (ho : w.ownsMap Try.prog 36 (plainElem Try.prog 3) b n D) (hD : CntD l N D) (hmb : m ≠ blk) (hbb : b ≠ blk) :
    CmpLays Try.prog 143 #[.pointer (some ⟨m, 0, none⟩)] encC 4 (cfC l N) blk off size w := fun q os dk _ x y => by
  have hml : m < w.heap.size := World.block_lt_of_cell? w _ hm
  have hbl := ho.lt
  refine closure143_any l N n m b D x y _ hN ?_ (owns_map_same ho (sw_heap q dk os b hbl hbb)) hD
  rw [← hm]
  unfold World.cell?
  simp only [sw_heap q dk os m hml hmb]
end

/-! The colours that most pixels have: the plain law. No program here. -/
section
set_option linter.unusedVariables false
set_option linter.unusedSimpArgs false

theorem dl_nodup (l : List Int) : ∀ k, (dl l k).Nodup
  | 0 => by simp [dl]
  | k + 1 => by
    have ih := dl_nodup l k
    unfold dl
    by_cases h : pix l k ∈ dl l k
    · rw [if_pos h]; exact ih
    · rw [if_neg h, List.nodup_append]
      exact ⟨ih, by simp, fun a ha b hb e => h (by simp at hb; rw [← hb, ← e]; exact ha)⟩
/-- The order of colours: by how often they are met, then by where they are first met. -/
def popK (l : List Int) (N : Nat) (c : Col) : Nat := (N - cntN l c N) * (N + 1) + (dl l N).idxOf c
theorem popK_lt {l : List Int} {N : Nat} {c d : Col} (hc : c ∈ dl l N) (hd : d ∈ dl l N) : popK l N c < popK l N d ↔ cntN l d N < cntN l c N ∨ (cntN l c N = cntN l d N ∧ (dl l N).idxOf c < (dl l N).idxOf d) := by
  have i1 := List.idxOf_lt_length_iff.2 hc
  have i2 := List.idxOf_lt_length_iff.2 hd
  have hl : (dl l N).length ≤ N := by rw [dl_len]; exact dcN_le l N
  have c1 := cntN_le l c N
  have c2 := cntN_le l d N
  unfold popK
  generalize (dl l N).idxOf c = x at *
  generalize (dl l N).idxOf d = y at *
  rcases Nat.lt_trichotomy (cntN l c N) (cntN l d N) with h | h | h
  · have h1 : (N - cntN l d N + 1) * (N + 1) ≤ (N - cntN l c N) * (N + 1) := Nat.mul_le_mul_right _ (by omega)
    rw [Nat.add_mul, Nat.one_mul] at h1
    omega
  · rw [h]; omega
  · have h1 : (N - cntN l c N + 1) * (N + 1) ≤ (N - cntN l d N) * (N + 1) := Nat.mul_le_mul_right _ (by omega)
    rw [Nat.add_mul, Nat.one_mul] at h1
    omega
theorem idx_inj {L : List Col} {c d : Col} (hc : c ∈ L) (h : L.idxOf c = L.idxOf d) (hd : d ∈ L) : c = d := by
  have i1 := List.idxOf_lt_length_iff.2 hc
  have i2 := List.idxOf_lt_length_iff.2 hd
  rw [← List.getElem_idxOf i1, ← List.getElem_idxOf i2]
  simp [h]
theorem popK_inj {l : List Int} {N : Nat} {c d : Col} (hc : c ∈ dl l N) (hd : d ∈ dl l N) (h : popK l N c = popK l N d) : c = d := by
  have h1 := (popK_lt hc hd)
  have h2 := (popK_lt hd hc)
  exact idx_inj hc (by omega) hd
/-- The colours in this order. -/
def popL (l : List Int) (N : Nat) : List Col := (dl l N).mergeSort (fun a b => decide (popK l N a ≤ popK l N b))
theorem popL_perm (l : List Int) (N : Nat) : (popL l N).Perm (dl l N) := List.mergeSort_perm _ _
theorem popL_srt (l : List Int) (N : Nat) : (popL l N).Pairwise (fun a b => popK l N a ≤ popK l N b) := by
  have h := List.pairwise_mergeSort (le := fun a b => decide (popK l N a ≤ popK l N b)) (fun a b c h1 h2 => by simp at *; omega) (fun a b => by simp; omega) (dl l N)
  exact h.imp (fun h => by simpa using h)
theorem popL_len (l : List Int) (N : Nat) : (popL l N).length = dcN l N := by rw [(popL_perm l N).length_eq, dl_len]
theorem popL_nodup (l : List Int) (N : Nat) : (popL l N).Nodup := (popL_perm l N).nodup_iff.2 (dl_nodup l N)
theorem popL_mem (l : List Int) (N : Nat) (c : Col) : c ∈ popL l N ↔ cntN l c N ≠ 0 := by rw [(popL_perm l N).mem_iff, dl_mem]
theorem popL_unique {l : List Int} {N : Nat} {cs : List Col} (hp : cs.Perm (dl l N)) (hs : cs.Pairwise (fun a b => popK l N a ≤ popK l N b)) : cs = popL l N :=
  List.Perm.eq_of_pairwise (le := fun a b => popK l N a ≤ popK l N b) (fun a b ha hb h1 h2 => popK_inj (hp.mem_iff.1 ha) ((popL_perm l N).mem_iff.1 hb) (by omega)) hs (popL_srt l N) (hp.trans (popL_perm l N).symm)

/-- The first of the greatest, among so many. -/
def bestN (f : Nat → Nat) : Nat → Nat
  | 0 => 0
  | k + 1 => if f (bestN f k) < f k then k else bestN f k
theorem bestN_lt (f : Nat → Nat) : ∀ k, 1 ≤ k → bestN f k < k := by
  intro k
  induction k with
  | zero => intro h; omega
  | succ k ih =>
    intro _
    show (if _ then k else bestN f k) < k + 1
    rcases Nat.eq_zero_or_pos k with h0 | h0
    · subst h0
      have : bestN f 0 = 0 := rfl
      split <;> omega
    · have := ih h0
      split <;> omega
theorem bestN_max (f : Nat → Nat) : ∀ k, ∀ i, i < k → f i ≤ f (bestN f k) ∧ (i < bestN f k → f i < f (bestN f k)) := by
  intro k
  induction k with
  | zero => intro i h; omega
  | succ k ih =>
    intro i hi
    show f i ≤ f (if _ then k else bestN f k) ∧ (i < (if _ then k else bestN f k) → f i < f (if _ then k else bestN f k))
    split
    · rename_i hlt
      rcases Nat.lt_or_ge i k with h | h
      · have := ih i h; exact ⟨by omega, fun _ => by omega⟩
      · have : i = k := by omega
        subst this; exact ⟨Nat.le_refl _, fun h => by omega⟩
    · rename_i hlt
      rcases Nat.lt_or_ge i k with h | h
      · exact ih i h
      · have : i = k := by omega
        subst this
        refine ⟨by omega, fun h2 => ?_⟩
        rcases Nat.eq_zero_or_pos i with h0 | h0
        · subst h0; exact absurd h2 (by show ¬ 0 < bestN f 0; exact Nat.lt_irrefl 0)
        · have := bestN_lt f i h0; omega
/-- The counts that are left when t colours have been told. -/
def cntT (l : List Int) (N t i : Nat) : Nat := if (dl l N).getD i ⟨0, 0, 0, 0⟩ ∈ (popL l N).take t then 0 else cntN l ((dl l N).getD i ⟨0, 0, 0, 0⟩) N
theorem getD_mem {L : List Col} {i : Nat} (h : i < L.length) : L.getD i ⟨0, 0, 0, 0⟩ ∈ L := by simp [List.getD, h]
theorem nodup_inj {L : List Col} (hn : L.Nodup) {i j : Nat} (hi : i < L.length) (hj : j < L.length) (e : L[i] = L[j]) : i = j := by
  have h1 := hn.idxOf_getElem i hi
  have h2 := hn.idxOf_getElem j hj
  rw [e] at h1
  omega
theorem take_idx {L : List Col} (hn : L.Nodup) {t u : Nat} (hu : u < L.length) : L.getD u ⟨0, 0, 0, 0⟩ ∈ L.take t ↔ u < t := by
  constructor
  · intro h
    obtain ⟨i, hi, e⟩ := List.mem_iff_getElem.1 h
    have hi2 : i < t ∧ i < L.length := by simp at hi; omega
    have e2 : L[i]'hi2.2 = L[u] := by simpa [List.getD, hu] using e
    have := nodup_inj hn hi2.2 hu e2
    omega
  · intro h
    refine List.mem_iff_getElem.2 ⟨u, by simp; omega, ?_⟩
    simp [List.getD, hu]
theorem pop_best {l : List Int} {N t : Nat} (ht : t < (dl l N).length) : (dl l N).getD (bestN (cntT l N t) (dl l N).length) ⟨0, 0, 0, 0⟩ = (popL l N).getD t ⟨0, 0, 0, 0⟩ := by
  have hlen : (popL l N).length = (dl l N).length := (popL_perm l N).length_eq
  have hpm : (popL l N).getD t ⟨0, 0, 0, 0⟩ ∈ popL l N := getD_mem (by omega)
  obtain ⟨p, hp⟩ : ∃ p, p = (popL l N).getD t ⟨0, 0, 0, 0⟩ := ⟨_, rfl⟩
  have hpn : p ∉ (popL l N).take t := by
    rw [hp]; intro h
    have := (take_idx (popL_nodup l N) (t := t) (u := t) (by omega)).1 h
    omega
  rw [← hp] at hpm ⊢
  have hpd : p ∈ dl l N := (popL_perm l N).mem_iff.1 hpm
  obtain ⟨ip, hip, eip⟩ := List.mem_iff_getElem.1 hpd
  have eip2 : (dl l N).getD ip ⟨0, 0, 0, 0⟩ = p := by simp [List.getD, hip, eip]
  have fip : cntT l N t ip = cntN l p N := by unfold cntT; rw [eip2, if_neg hpn]
  have cp : cntN l p N ≠ 0 := (dl_mem l p N).1 hpd
  obtain ⟨b, hb⟩ : ∃ b, b = bestN (cntT l N t) (dl l N).length := ⟨_, rfl⟩
  have hbl : b < (dl l N).length := by rw [hb]; exact bestN_lt _ _ (by omega)
  have hmx := bestN_max (cntT l N t) (dl l N).length ip hip
  rw [← hb] at hmx ⊢
  obtain ⟨o, ho⟩ : ∃ o, o = (dl l N).getD b ⟨0, 0, 0, 0⟩ := ⟨_, rfl⟩
  have fb : cntT l N t b = if o ∈ (popL l N).take t then 0 else cntN l o N := by unfold cntT; rw [ho]
  have hod : o ∈ dl l N := by rw [ho]; exact getD_mem hbl
  have hon : o ∉ (popL l N).take t := fun h => by rw [if_pos h] at fb; omega
  rw [if_neg hon] at fb
  obtain ⟨u, hu, eu⟩ := List.mem_iff_getElem.1 ((popL_perm l N).mem_iff.2 hod)
  have eu2 : (popL l N).getD u ⟨0, 0, 0, 0⟩ = o := by simp [List.getD, hu, eu]
  have hut : t ≤ u := by
    rcases Nat.lt_or_ge u t with h | h
    · exact absurd ((take_idx (popL_nodup l N) (t := t) hu).2 h) (by rw [eu2]; exact hon)
    · exact h
  have hK : popK l N p ≤ popK l N o := by
    rcases Nat.eq_or_lt_of_le hut with h | h
    · rw [← eu2, hp, h]; exact Nat.le_refl _
    · have := List.pairwise_iff_getElem.1 (popL_srt l N) t u (by omega) hu h
      rw [hp, ← eu2]
      simpa [List.getD, hu, show t < (popL l N).length by omega] using this
  have hlt := popK_lt (l := l) (N := N) hod hpd
  have ixo : (dl l N).idxOf o = b := by
    have := (dl_nodup l N).idxOf_getElem b hbl
    rw [ho]; simpa [List.getD, hbl] using this
  have ixp : (dl l N).idxOf p = ip := by
    have := (dl_nodup l N).idxOf_getElem ip hip
    rw [← eip2]; simpa [List.getD, hip] using this
  rw [ixo, ixp] at hlt
  have : ip = b := by
    rcases Nat.lt_trichotomy ip b with h | h | h
    · have := hmx.2 h; omega
    · exact h
    · have := hmx.1; omega
  rw [← ho, ← eip2, ho, this]
theorem cntT_zero (l : List Int) (N i : Nat) : cntT l N 0 i = cntN l ((dl l N).getD i ⟨0, 0, 0, 0⟩) N := by unfold cntT; simp
theorem cntT_succ {l : List Int} {N t : Nat} (ht : t < (dl l N).length) (i : Nat) (hi : i < (dl l N).length) : cntT l N (t + 1) i = if i = bestN (cntT l N t) (dl l N).length then 0 else cntT l N t i := by
  have hlen : (popL l N).length = (dl l N).length := (popL_perm l N).length_eq
  have hb := pop_best ht
  have hbl : bestN (cntT l N t) (dl l N).length < (dl l N).length := bestN_lt _ _ (by omega)
  generalize bestN (cntT l N t) (dl l N).length = b at hb hbl
  have hm : (dl l N).getD i ⟨0, 0, 0, 0⟩ ∈ (popL l N).take (t + 1) ↔ (dl l N).getD i ⟨0, 0, 0, 0⟩ ∈ (popL l N).take t ∨ i = b := by
    rw [mem_take_succ (by omega), ← hb]
    refine or_congr Iff.rfl ⟨fun h => ?_, fun h => by rw [h]⟩
    have e : (dl l N)[b] = (dl l N)[i] := by simpa [List.getD, hi, hbl] using h
    exact (nodup_inj (dl_nodup l N) hbl hi e).symm
  unfold cntT
  by_cases h1 : i = b
  · rw [if_pos h1, if_pos (hm.2 (.inr h1))]
  · rw [if_neg h1]
    by_cases h2 : (dl l N).getD i ⟨0, 0, 0, 0⟩ ∈ (popL l N).take t
    · rw [if_pos h2, if_pos (hm.2 (.inl h2))]
    · rw [if_neg h2, if_neg (fun h => (hm.1 h).elim h2 h1)]
end

/-! slices.SortStableFunc over an image's colours, by how many pixels have them. -/
section
set_option linter.unusedVariables false
set_option linter.unusedSimpArgs false
open Go.Shelf Go.RowKit Go.Lib Go.Sort
attribute [local go_sem ↓] Go.wp_at_zero Go.wp_at_succ

instance (c : Col) : Decidable c.ok := by unfold Col.ok; infer_instance
def toOk (c : Col) : OkC := if h : c.ok then ⟨c, h⟩ else default
theorem toOk_val {c : Col} (h : c.ok) : (toOk c).1 = c := by unfold toOk; rw [dif_pos h]
theorem toOk_of (c : OkC) : toOk c.1 = c := Subtype.ext (toOk_val c.2)
/-- A list of colours as an array. -/
def okA (cs : List Col) : Array OkC := (cs.map toOk).toArray
theorem okA_size (cs : List Col) : (okA cs).size = cs.length := by simp [okA]
theorem okA_get {cs : List Col} (hok : ∀ c ∈ cs, c.ok) {i : Nat} (hi : i < cs.length) : ((okA cs)[i]!).1 = cs.getD i ⟨0, 0, 0, 0⟩ := by
  have h : (okA cs)[i]! = toOk cs[i] := by simp [okA, hi]
  rw [h, toOk_val (hok _ (List.getElem_mem hi))]
  simp [List.getD, hi]

theorem encC_len (c : OkC) : (encC c).length = 4 := rfl
theorem encC_one (c : OkC) : ∀ v ∈ encC c, v.oneCell' = true := by intro v hv; simp [encC] at hv; rcases hv with rfl | rfl | rfl | rfl <;> rfl
/-- The cells of colours, as the sort's kit has them. -/
theorem holds_of {w : World} {g : Nat} {cs : List Col} {cur : Array Value} (hB : Blk w g 36 cur) (hok : ∀ c ∈ cs, c.ok) (hat : CsAt w g 0 cs) : HoldsK encC 4 w g 0 (okA cs) := by
  intro j hj
  rw [size_flatK, okA_size] at hj
  have hk : j / 4 < cs.length := by omega
  obtain ⟨h0, h1, h2, h3⟩ := hat.at_ (j / 4) hk
  rw [get_flatK _ _ _ _ (by rw [okA_size]; exact hj)]
  refine ⟨?_, Blk.frozen hB _⟩
  have e := okA_get hok hk
  have hr : j % 4 = 0 ∨ j % 4 = 1 ∨ j % 4 = 2 ∨ j % 4 = 3 := by omega
  unfold encC
  rw [e]
  rcases hr with r | r | r | r
  · rw [r, show 0 + j = 0 + j / 4 * 4 by omega]; exact h0
  · rw [r, show 0 + j = 0 + j / 4 * 4 + 1 by omega]; exact h1
  · rw [r, show 0 + j = 0 + j / 4 * 4 + 2 by omega]; exact h2
  · rw [r, show 0 + j = 0 + j / 4 * 4 + 3 by omega]; exact h3
theorem of_holds {w : World} {g : Nat} {d : Array OkC} (hg : g < w.heap.size) (h : HoldsK encC 4 w g 0 d) : CsAt w g 0 (d.toList.map (·.1)) := by
  refine ⟨hg, fun k hk => ?_⟩
  simp at hk
  have e : (d.toList.map (·.1)).getD k ⟨0, 0, 0, 0⟩ = (d[k]!).1 := by simp [List.getD, hk]
  rw [e]
  exact ⟨(h.cell hk (c := 0) (by omega)).1, (h.cell hk (c := 1) (by omega)).1, (h.cell hk (c := 2) (by omega)).1, (h.cell hk (c := 3) (by omega)).1⟩

/-- The order of the colours is what the comparison tells, where the one is first met ahead of the other. -/
theorem crs_pop {l : List Int} {N : Nat} {i j : Nat} (hok : ∀ c ∈ dl l N, c.ok) (hij : i < j) (hj : j < (dl l N).length) :
    Crs (cfC l N) (fun c : OkC => popK l N c.1) (okA (dl l N))[i]! (okA (dl l N))[j]! := by
  have hi : i < (dl l N).length := by omega
  unfold Crs cfC
  dsimp only
  rw [okA_get hok hi, okA_get hok hj, popK_lt (getD_mem hj) (getD_mem hi)]
  have ei : (dl l N).idxOf ((dl l N).getD i ⟨0, 0, 0, 0⟩) = i := by simpa [List.getD, hi] using (dl_nodup l N).idxOf_getElem i hi
  have ej : (dl l N).idxOf ((dl l N).getD j ⟨0, 0, 0, 0⟩) = j := by simpa [List.getD, hj] using (dl_nodup l N).idxOf_getElem j hj
  rw [ei, ej]
  omega
/-- What is sorted so is the list of the colours by how often they are met. -/
theorem post_pop {l : List Int} {N n : Nat} {d' : Array OkC} (hok : ∀ c ∈ dl l N, c.ok) (hn : n = (dl l N).length) (h : MPost (fun c : OkC => popK l N c.1) 0 n (okA (dl l N)) d') : d'.toList.map (·.1) = popL l N := by
  have hs : d'.size = n := by rw [h.perm.1, okA_size, hn]
  have hp := h.perm.2.2
  have e1 : (d'.extract 0 n).toList = d'.toList := by rw [← hs]; simp
  have e2 : ((okA (dl l N)).extract 0 n).toList = (okA (dl l N)).toList := by rw [show n = (okA (dl l N)).size by rw [okA_size, hn]]; simp
  rw [e1, e2] at hp
  refine popL_unique ?_ ?_
  · have h1 := hp.map (fun c : OkC => c.1)
    have h2 : (okA (dl l N)).toList.map (fun c : OkC => c.1) = dl l N := by
      simp only [okA, List.map_map]
      conv => rhs; rw [← List.map_id (dl l N)]
      exact List.map_congr_left fun c hc => toOk_val (hok c hc)
    rw [h2] at h1
    exact h1
  · rw [List.pairwise_map, List.pairwise_iff_getElem]
    intro i j hi hj hij
    have h1 := h.srt i j (Nat.zero_le _) hij (by simpa [hs] using hj)
    simp at hi hj
    simpa [hi, hj] using h1

theorem insOuter_size (lt : OkC → OkC → Bool) (a b : Nat) : ∀ (n i : Nat) (d : Array OkC), b - i = n → b ≤ d.size → (insOuter lt a b i d).size = d.size
  | 0, i, d, hn, _ => by rw [show insOuter lt a b i d = d by rw [insOuter, if_neg (by omega)]]
  | n + 1, i, d, hn, hb => by
    have h1 := (insInner_perm lt a (i + 1) i d (by omega) (by omega)).1
    rw [show insOuter lt a b i d = insOuter lt a b (i + 1) (insInner lt a i d) by rw [insOuter, if_pos (by omega)], insOuter_size lt a b n (i + 1) _ (by omega) (by omega), h1]
theorem insPerm_size (lt : OkC → OkC → Bool) (d : Array OkC) (a b : Nat) (hb : b ≤ d.size) : (Sort.insertionSort lt d a b).size = d.size := insOuter_size lt a b _ _ d rfl hb
/-- The row's own block, in a world of the sort's. -/
theorem sw_block {w : World} {g off : Nat} {cur : Array Value} (m : Nat) (dk : Array OkC) (os : Array Obj) (h : Blk w g 36 cur) : ∃ cur', (sortWorldK encC 4 w g off m dk os).heap[g]? = some (.cells cur' 36 (0, 0)) := by
  have hlt := h.lt
  have h2 : w.heap[g]? = some (.cells cur 36 (0, 0)) := h
  refine ⟨putCells id off (flatK encC 4 dk) cur, ?_⟩
  unfold sortWorldK putRowK putRow
  simp [grow, mapBlock, Sort.ahead, Array.getElem?_append, hlt]
  rw [Array.getElem?_eq_getElem hlt] at h2
  injection h2 with h2
  rw [Array.getElem_modify_self, h2]
  rfl

set_option maxHeartbeats 2000000 in
set_option maxRecDepth 100000 in
theorem sortPop_any (l : List Int) (N b1 m b n g cap base : Nat) (D : DataW Unit) (w : World) (hN : N ≤ 268435456) (hm : w.cell? ⟨m, 0, none⟩ = some (.map (some b))) (ho : w.ownsMap Try.prog 36 (plainElem Try.prog 3) b b1 D) (hD : CntD l N D) (hmg : m ≠ g) (hbg : b ≠ g)
    (hok : ∀ c ∈ dl l N, c.ok) (hn : n = (dl l N).length) (hn1 : n ≤ 160) (hO : w.ownsRow base 36 4 (.slice (some ⟨g, 0, none⟩) n cap) n (u8L (bytesL (dl l N)))) (hn0 : 1 ≤ n) :
    Calls Try.prog 142 #[.slice (some ⟨g, 0, none⟩) n cap, .func (.func 143) #[] #[.pointer (some ⟨m, 0, none⟩)]] w fun e w' => e = .returned (.tuple #[]) ∧ TRow w' w'.heap.size (some ⟨g, 0, none⟩) (popL l N) ∧ w.grownBy w' (some g) := by
  obtain ⟨-, -, htr⟩ := TRow.of_own hO
  obtain ⟨bc, oc, hbc, hat⟩ := cols_at htr.row (by omega)
  injection hbc with hbc; injection hbc with hbc hoc
  subst hbc hoc
  rcases hO.2 with ⟨h2, _⟩ | ⟨g', cap', cur, hv, hb, hh, hc, _⟩
  · cases h2
  injection hv with hv h3 h4; injection hv with hv; injection hv with hv
  subst hv h4
  have hB : Blk w g 36 cur := hh
  have hH := holds_of hB hok hat
  have hlt := hB.lt
  have hsz : (okA (dl l N)).size = n := by rw [okA_size, hn]
  have R : RowK encC 4 w g 0 (okA (dl l N)) := ⟨encC_len, encC_one, hH, hlt⟩
  have eg : ∀ args w, (callFunc 143 args).run Try.prog w = .ok (.enter 143 args) w := enters_of Try.func143 (by kernel_rfl) rfl
  have hcmp := cmpLays143 l N b1 m b D g 0 (okA (dl l N)).size w hN hm ho hD hmg hbg
  have K := stable_any 4 stL encC (cfC l N) (fun c : OkC => popK l N c.1) 143 #[.pointer (some ⟨m, 0, none⟩)] g 0 cap (okA (dl l N)) w eg hcmp R n hsz hn1
    (fun a b d W hd hS hab hb => by
      have hC : CmpLays Try.prog 143 #[.pointer (some ⟨m, 0, none⟩)] encC 4 (cfC l N) g 0 d.size W := fun q os dk hdk x y => by
        obtain ⟨n0, os0, rfl⟩ := hS
        rw [sortWorldK_on encC 4 w g 0 n0 q d dk os0 os hlt hdk]
        exact hcmp _ _ dk (by omega) x y
      rw [← hd]
      refine (AnyQ.insertionSortCmpFunc slIns 4 Try.isAgg36 Try.sizeOf36 encC encC_len encC_one (cfC l N) 143 #[.pointer (some ⟨m, 0, none⟩)] g 0 cap a b d W eg hC (hS.holds hlt hH (by omega)) (hS.lt hlt) hab (by omega) (by omega)).mono ?_
      rintro e w' ⟨rfl, q, os, rfl⟩
      exact ⟨rfl, hS.on hlt q _ os (by rw [insPerm_size _ _ _ _ (by omega)])⟩)
    (fun i j hij hj => crs_pop hok hij (by omega)) w (SWK.start hH)
  have K' := hide (K.mono (R' := fun e w' => e = .returned (.tuple #[]) ∧ TRow w' w'.heap.size (some ⟨g, 0, none⟩) (popL l N) ∧ w.grownBy w' (some g)) (by
    rintro e w' ⟨rfl, d', S, M⟩
    refine ⟨rfl, ?_, ?_⟩
    · have hd' : d'.size = (okA (dl l N)).size := M.perm.1
      have hat' := of_holds (S.lt hlt) (S.holds hlt hH hd')
      rw [post_pop hok hn M] at hat'
      have hl' : (popL l N).length = n := by rw [(popL_perm l N).length_eq, hn]
      obtain ⟨q, os, rfl⟩ := S
      obtain ⟨cur', hcur⟩ := sw_block q d' os hB
      intro i hi
      rw [bytesL_len] at hi
      refine ⟨g, 0, cur', (0, 0), rfl, hat'.lt, hcur, ?_⟩
      obtain ⟨k0, k1, k2, k3⟩ := hat'.at_ (i / 4) (by omega)
      have eb := pix_bytesL (popL l N) (i / 4) ((popL l N).getD (i / 4) ⟨0, 0, 0, 0⟩) (by simp [List.getD, show i / 4 < (popL l N).length by omega])
      rw [← eb] at k0 k1 k2 k3
      have hr : i % 4 = 0 ∨ i % 4 = 1 ∨ i % 4 = 2 ∨ i % 4 = 3 := by omega
      rcases hr with r | r | r | r
      · rw [show 0 + i = 0 + i / 4 * 4 by omega, k0]; unfold pix; dsimp only; congr 3 <;> omega
      · rw [show 0 + i = 0 + i / 4 * 4 + 1 by omega, k1]; unfold pix; dsimp only; congr 3 <;> omega
      · rw [show 0 + i = 0 + i / 4 * 4 + 2 by omega, k2]; unfold pix; dsimp only; congr 3 <;> omega
      · rw [show 0 + i = 0 + i / 4 * 4 + 3 by omega, k3]; unfold pix; dsimp only; congr 3 <;> omega
    · obtain ⟨q, os, rfl⟩ := S
      exact ⟨rfl, rfl, rfl, size_sortWorldK_c encC 4 w g 0 q d' os, fun j hj hne => sw_heap q d' os j hj (fun e => hne (by rw [e]))⟩))
  clear K R eg hcmp hH hB hat htr hO hD ho hm hok hn hh
  go_enter Try.func142, Try.ntmps142
  go_wp2_with (go_at_call 144; (with_reducible refine K'.out.mono ?_); rintro e w1 ⟨rfl, h1, h2⟩)
  go_end0
  exact ⟨rfl, h1, h2⟩
end

/-! quant.popular: walked. -/
section
set_option linter.unusedVariables false
set_option linter.unusedSimpArgs false
open Go.RowKit
attribute [local go_sem ↓] Go.wp_at_zero Go.wp_at_succ

theorem dl_ok {l : List Int} (hu : U8s l) : ∀ k, ∀ c ∈ dl l k, c.ok
  | 0, c, h => by simp [dl] at h
  | k + 1, c, h => by
    unfold dl at h
    split at h
    · exact dl_ok hu k c h
    · rw [List.mem_append, List.mem_singleton] at h
      rcases h with h | h
      · exact dl_ok hu k c h
      · rw [h]; exact pix_ok hu _
/-- What popular's rounds keep. -/
structure PopI (w : World) (W H : Nat) (A : Option Addr) (l : List Int) (cap t : Nat) (D : DataW Unit) (v : Value) (wr : World) : Prop where
  below : Below w.heap.size w wr
  img : Blk wr w.heap.size 34 #[.int .i64 W, .int .i64 H, .slice A l.length cap]
  cell : Blk wr (w.heap.size + 1 + 1) 110 #[.map (some (w.heap.size + 1))]
  own : wr.ownsMap Try.prog 36 (plainElem Try.prog 3) (w.heap.size + 1) t D
  cnt : CntD l t D
  row : wr.ownsRow (w.heap.size + 1 + 1 + 1) 36 4 v (dl l t).length (u8L (bytesL (dl l t)))
theorem PopI.next {w : World} {W H : Nat} {A : Option Addr} {l : List Int} {cap t : Nat} {D : DataW Unit} {v : Value} {wr V : World} (h : PopI w W H A l cap t D v wr) (hb : Below wr.heap.size wr V) : PopI w W H A l cap t D v V :=
  ⟨bstep h.below hb, h.img.below hb h.img.lt, h.cell.below hb h.cell.lt, map_below h.own hb, h.cnt, owns_belowB h.row hb⟩
theorem own_ne2 {w : World} {base n sz : Nat} {e : TypeId} {v : Value} {xs : List Value} (h : w.ownsRow base e sz v n xs) {b : Nat} (hb : b < base) : v.ownBlock = none ∨ v.ownBlock ≠ some b := by
  rcases h.2 with ⟨h2, _⟩ | ⟨g, cap, cur, hv, hb1, _⟩
  · rw [h2]; exact .inl rfl
  · rw [hv]; right; intro e; simp [Value.ownBlock] at e; omega

set_option maxRecDepth 100000 in
set_option maxHeartbeats 16000000 in
theorem popular_any (W H : Nat) (A : Option Addr) (l : List Int) (cap : Nat) (w : World) (hR : rightI W H l.length) (hr : RowAt w w.heap.size .u8 A l) (hcap : l.length ≤ cap) (hu : U8s l) (h600 : l.length ≤ 600) :
    Calls Try.prog 133 #[imgV W H A l.length cap] w fun e w' => ∃ g c, e = .returned (.slice (some ⟨g, 0, none⟩) (dcN l (W * H)) c) ∧ dcN l (W * H) ≤ c ∧ TRow w' w'.heap.size (some ⟨g, 0, none⟩) (popL l (W * H)) ∧ Below w.heap.size w w' := by
  obtain ⟨i0, hi, hz0, hz1, hz2⟩ := info_parts col_info
  have hmm := @run_makeMap Try.prog
  have hX : 1 ≤ W ∧ W ≤ 16384 := by have := hR.1; omega
  have hY : 1 ≤ H ∧ H ≤ 16384 := by have := hR.2.1; omega
  have hN1 : 1 ≤ W * H := Nat.mul_le_mul hX.1 hY.1
  have hWH : W * H ≤ 150 := by
    have h3 := hR.2.2
    have e : (4 : Int) * W * H = ((4 * (W * H) : Nat) : Int) := by push_cast; rw [Int.mul_assoc]
    rw [e] at h3
    omega
  have KP := hide fun (i j : Nat) (w' : World) (hi : i < W) (hj : j < H) (hb : Below w.heap.size w w') => (pixel_yes W H A l cap i j w' hR ((hr.below hb (Nat.le_refl _)).more hb.size) hcap (by omega) (by omega)).mono (R' := fun e w'' => e = .returned (.tuple #[colV (pix l (j * W + i)), .bool true]) ∧ Below w'.heap.size w' w'') (by
    rintro e w'' ⟨rfl, hb⟩
    refine ⟨?_, hb⟩
    rw [nat_idx])
  have hle : ∀ k x : Nat, k < H → x ≤ W → k * W + x ≤ W * H := fun k x hk hx => by
    have : k * W + W ≤ H * W := by rw [← Nat.succ_mul]; exact Nat.mul_le_mul_right W hk
    rw [Nat.mul_comm W H]; omega
  have HLE := hide hle
  have HU := hide hu
  have HWH := hide hWH
  have DL := hide fun k : Nat => (by rw [dl_len]; exact dcN_le l k : (dl l k).length ≤ k)
  have HI0 : Hid (PopI w W H A l cap 0 (.map []) (.slice none 0 0) (((w.alloc (.cells #[.int .i64 W, .int .i64 H, .slice A l.length cap] 34)).alloc (.map #[] 0)).alloc (.cells #[.map (some (w.heap.size + 1))] 110))) := by
    obtain ⟨B1, hM, B3, hz, HW⟩ := own_map (c1 := #[.int .i64 W, .int .i64 H, .slice A l.length cap]) (t1 := 34) (c3 := #[.map (some (w.heap.size + 1))]) (t3 := 110) (w := w) (Below.refl _ _)
    exact ⟨HW, B1, B3, hM, CntD.zero l, World.ownsRow_nil _ _ _ _⟩
  clear hR hr hcap hle hu h600
  go_enter Try.func133, Try.ntmps133
  go_wp2_with fail
  go_loopw [12, 4] (fun i v wr => ∃ (k : Nat) (v' : Value) (D : DataW Unit), k ≤ H ∧ i = .int .i64 k ∧ v' = v ∧ PopI w W H A l cap (k * W) D v' wr) (fun i _ _ => H - (intOf i).toNat)
  case atStart => exact ⟨0, _, _, Nat.zero_le _, rfl, rfl, by rw [Nat.zero_mul]; exact HI0.out⟩
  case round =>
    clear HI0
    obtain ⟨k, v, D, hk, rfl, rfl, hI⟩ := hrel
    obtain ⟨m0, m1, m2, -⟩ := blk3 hI.img
    by_cases hlt : k < H
    · have HI := hide hI
      clear hI
      go_wp2_with fail
      go_loopw [17, 4] (fun j v wr => ∃ (x : Nat) (v' : Value) (D : DataW Unit), x ≤ W ∧ j = .int .i64 x ∧ v' = v ∧ PopI w W H A l cap (k * W + x) D v' wr) (fun j _ _ => W - (intOf j).toNat)
      case atStart => exact ⟨0, _, D, Nat.zero_le _, rfl, rfl, HI.out⟩
      case round =>
        obtain ⟨x, v, D, hx, rfl, rfl, hI⟩ := hrel
        obtain ⟨m0, m1, m2, -⟩ := blk3 hI.img
        by_cases hltx : x < W
        · have htN : k * W + x < 150 := by have h1 := HLE.out k (x + 1) hlt (by omega); have h2 := HWH.out; omega
          obtain ⟨t, ht⟩ : ∃ t, t = k * W + x := ⟨_, rfl⟩
          obtain ⟨p, hp⟩ : ∃ p, p = pix l t := ⟨_, rfl⟩
          have KPp := hide (KP.out x k _ hltx hlt hI.below)
          rw [← ht, ← hp] at KPp
          have hpok : p.ok := by rw [hp]; exact pix_ok HU.out _
          rw [← ht] at hI htN
          have HT := hide (show k * W + (x + 1) = t + 1 by omega)
          have HI := hide hI
          have HPX := hide hp
          clear hI ht hp
          go_upto_region 10 with (go_at_call 120; (with_reducible refine KPp.out.mono ?_); rintro e w1 ⟨rfl, hb1⟩)
          have hbV : Below wr.heap.size wr (w1.alloc (.cells #[.int .u8 p.r, .int .u8 p.g, .int .u8 p.b, .int .u8 p.a] 36)).drew := (hb1.alloc hb1.size _).drew
          have hbp : Blk (w1.alloc (.cells #[.int .u8 p.r, .int .u8 p.g, .int .u8 p.b, .int .u8 p.a] 36)).drew w1.heap.size 36 #[.int .u8 p.r, .int .u8 p.g, .int .u8 p.b, .int .u8 p.a] := Blk.new w1 36 _
          have hIV := HI.out.next hbV
          have hpbl : w.heap.size + 1 + 1 < w1.heap.size := Nat.lt_of_lt_of_le HI.out.cell.lt hb1.size
          obtain ⟨x0, x1, x2, x3, -⟩ := blk4 hbp
          have hm0 := hIV.cell.cell 0
          simp only [List.getElem?_toArray, List.getElem?_cons_zero] at hm0
          obtain ⟨pb, hpb⟩ : ∃ pb, pb = w1.heap.size := ⟨_, rfl⟩
          rw [← hpb] at hbp x0 x1 x2 x3 hpbl ⊢
          refine wp_region_noPanic ?_
          refine wp_region_held_drew (S := (fun w' => w'.cell? ⟨w.heap.size + 1 + 1, 0, none⟩ = some (.map (some (w.heap.size + 1))) ∧ w'.cell? ⟨pb, 0, none⟩ = some (.int .u8 p.r) ∧ w'.cell? ⟨pb, 1, none⟩ = some (.int .u8 p.g) ∧ w'.cell? ⟨pb, 2, none⟩ = some (.int .u8 p.b) ∧ w'.cell? ⟨pb, 3, none⟩ = some (.int .u8 p.a))) (by kernel_rfl) ?_ (fun hHeld => ?_)
          · ((try dsimp only); exact ⟨hm0, x0, x1, x2, x3⟩)
          generalize (w1.alloc (.cells #[.int .u8 p.r, .int .u8 p.g, .int .u8 p.b, .int .u8 p.a] 36)).drew = V at hHeld hIV hbV hbp hm0 x0 x1 x2 x3 ⊢
          obtain ⟨u, st, w1', hat, hwf, r1, r2, r3, g1, z1, hst⟩ := entry_steps hIV.own (by unfold maxLen; omega) (keyCol hpok)
          have hcu : u = (cntN l p t : Nat) := by
            rw [hIV.cnt.at_ p hpok] at hat
            injection hat with hat; injection hat with _ hat
            exact hat.symm
          have hcl := cntN_le l p t
          obtain ⟨c1, hc1⟩ : ∃ c1, c1 = cntN l p t + 1 := ⟨_, rfl⟩
          have hu0 : 0 ≤ u ∧ u ≤ 1073741824 := by omega
          have ew : IntKind.i64.wrap (u + 1) = u + 1 := IntWalk.i64_in _ (by omega)
          obtain ⟨w2, hw2, ho2, g2, z2⟩ := hst (.int .i64 (u + 1)) _ _ (plainElem_int Try.underlying3 (WalkArith.wf_i64 (by omega)))
          have nb : ¬ pb = w.heap.size + 1 := by omega
          have nm : ¬ w.heap.size + 1 + 1 = w.heap.size + 1 := by omega
          have s1 : w1'.cell? ⟨w.heap.size + 1 + 1, 0, none⟩ = some (.map (some (w.heap.size + 1))) ∧ w1'.cell? ⟨pb, 0, none⟩ = some (.int .u8 p.r) ∧ w1'.cell? ⟨pb, 1, none⟩ = some (.int .u8 p.g) ∧ w1'.cell? ⟨pb, 2, none⟩ = some (.int .u8 p.b) ∧ w1'.cell? ⟨pb, 3, none⟩ = some (.int .u8 p.a) :=
            ⟨g1.cell hm0 (by simp), g1.cell x0 (by simpa using nb), g1.cell x1 (by simpa using nb), g1.cell x2 (by simpa using nb), g1.cell x3 (by simpa using nb)⟩
          have s2 : w2.cell? ⟨w.heap.size + 1 + 1, 0, none⟩ = some (.map (some (w.heap.size + 1))) ∧ w2.cell? ⟨pb, 0, none⟩ = some (.int .u8 p.r) ∧ w2.cell? ⟨pb, 1, none⟩ = some (.int .u8 p.g) ∧ w2.cell? ⟨pb, 2, none⟩ = some (.int .u8 p.b) ∧ w2.cell? ⟨pb, 3, none⟩ = some (.int .u8 p.a) :=
            ⟨g2.cell hm0 (by simp), g2.cell x0 (by simpa using nb), g2.cell x1 (by simpa using nb), g2.cell x2 (by simpa using nb), g2.cell x3 (by simpa using nb)⟩
          -- what is kept behind the counting
          have hcnt2 : CntD l (t + 1) (D.put (colK p) (.lit (.int .i64 (u + 1)))) := by
            have h := hIV.cnt.step (by rw [← HPX.out]; exact hpok)
            rw [← HPX.out, ← hcu] at h
            exact h
          have hcp : cntN l p (t + 1) = c1 := by
            rw [hc1]; show cntN l p t + (if pix l t = p then 1 else 0) = _
            rw [if_pos HPX.out.symm]
          obtain ⟨vl, hlk, hatl, -⟩ := ho2.lookup_int law36 Try.underlying110 Try.underlying3 (zero3 _) (keyCol hpok)
          rw [hcnt2.at_ p hpok, hcp] at hatl
          injection hatl with hatl; injection hatl with _ hatl
          subst hatl
          have hrow2 : w2.ownsRow (w.heap.size + 1 + 1 + 1) 36 4 v (dl l t).length (u8L (bytesL (dl l t))) := hIV.row.kept g2 (own_ne2 hIV.row (by omega))
          have hI2 : ∀ (v2 : Value) (w3 : World), Below w.heap.size w w3 → Blk w3 w.heap.size 34 #[.int .i64 W, .int .i64 H, .slice A l.length cap] → Blk w3 (w.heap.size + 1 + 1) 110 #[.map (some (w.heap.size + 1))] → w3.ownsMap Try.prog 36 (plainElem Try.prog 3) (w.heap.size + 1) (t + 1) (D.put (colK p) (.lit (.int .i64 (u + 1)))) → w3.ownsRow (w.heap.size + 1 + 1 + 1) 36 4 v2 (dl l (t + 1)).length (u8L (bytesL (dl l (t + 1)))) →
              PopI w W H A l cap (t + 1) (D.put (colK p) (.lit (.int .i64 (u + 1)))) v2 w3 := fun v2 w3 q1 q2 q3 q4 q5 => ⟨q1, q2, q3, q4, hcnt2, q5⟩
          have hbw2 : Below w.heap.size w w2 := hIV.below.grown g2 hIV.below.size (fun j hj => by injection hj with hj; omega)
          have him2 : Blk w2 w.heap.size 34 #[.int .i64 W, .int .i64 H, .slice A l.length cap] := hIV.img.grown g2 (by simp)
          have hce2 : Blk w2 (w.heap.size + 1 + 1) 110 #[.map (some (w.heap.size + 1))] := hIV.cell.grown g2 (by simp)
          have hdn : (((c1 : Nat) : Int) == 1) = false → PopI w W H A l cap (k * W + (x + 1)) (D.put (colK p) (.lit (.int .i64 (u + 1)))) v w2 := fun h1 => by
            have h2 : p ∈ dl l t := (dl_mem l p t).2 (by simp at h1; omega)
            have e : dl l (t + 1) = dl l t := by show (if pix l t ∈ dl l t then dl l t else dl l t ++ [pix l t]) = _; rw [← HPX.out, if_pos h2]
            rw [HT.out]
            exact hI2 v w2 hbw2 him2 hce2 ho2 (by rw [e]; exact hrow2)
          have hdy : (((c1 : Nat) : Int) == 1) = true → ∀ (w7 : World) (v7 : Value), w7.ownsRow (w.heap.size + 1 + 1 + 1) 36 4 v7 ((dl l t).length + 1) (u8L (bytesL (dl l t)) ++ [.int .u8 p.r, .int .u8 p.g, .int .u8 p.b, .int .u8 p.a]) → (w2.alloc (.cells #[.int .u8 p.r, .int .u8 p.g, .int .u8 p.b, .int .u8 p.a] 36)).grownBy w7 v.ownBlock → PopI w W H A l cap (k * W + (x + 1)) (D.put (colK p) (.lit (.int .i64 (u + 1)))) v7 w7 := fun h1 w7 v7 ho7 hg7 => by
            have h2 : ¬ p ∈ dl l t := fun h => (dl_mem l p t).1 h (by simp at h1; omega)
            have e : dl l (t + 1) = dl l t ++ [p] := by show (if pix l t ∈ dl l t then dl l t else dl l t ++ [pix l t]) = _; rw [← HPX.out, if_neg h2]
            rw [HT.out]
            have hge : ∀ q, v.ownBlock = some q → w.heap.size + 1 + 1 + 1 ≤ q := fun q hq => by
              rcases hrow2.2 with ⟨h2, _⟩ | ⟨g, cap, cur, hv, hb1, _⟩
              · rw [h2] at hq; cases hq
              · rw [hv] at hq; simp [Value.ownBlock] at hq; omega
            refine hI2 v7 w7 ((hbw2.alloc hbw2.size _).grown hg7 (by have := hbw2.size; simp; omega) (fun q hq => by have := hge q hq; omega)) ((him2.alloc _).grown hg7 (fun e => by have := hge _ e.symm; omega)) ((hce2.alloc _).grown hg7 (fun e => by have := hge _ e.symm; omega)) ?_ ?_
            · exact owns_map_same (ho2.alloc _) (hg7.block _ (ho2.alloc _).lt (fun e => by have := hge _ e.symm; omega))
            · rw [e, List.length_append, bytesL_snoc, u8L_append]; exact ho7
          obtain ⟨n, hn⟩ : ∃ n, n = (dl l t).length := ⟨_, rfl⟩
          have hnb : n ≤ 150 := by rw [hn]; have := DL.out t; omega
          rw [← hn] at hrow2 hdy
          have hszw2 : w.heap.size + 1 + 1 < w2.heap.size := hce2.lt
          have HDN := hide hdn
          have HDY := hide hdy
          have HROW := hide hrow2
          have HLK := hide hlk
          have S1 := hide s1
          have S2 := hide s2
          have HNXT := hide trivial
          clear hdn hdy hrow2 hlk s1 s2 hI2 hbw2 him2 hce2 hcnt2 hcp hc1 hcl hat ho2 g2 hst g1 hIV hbV hbp z1 z2 hwf hb1 hn hcu KPp nb nm m0 m1 m2 x0 x1 x2 x3 hm0 hpb
          simp only [colV] at r1 r2 r3
          refine wpAnyH_take (i := 0) (v := ?vx0) rfl (by kernel_rfl) (by kernel_rfl) (by kernel_rfl) (fun _ _ _ h => h) (Or.inl ⟨by rfl, ?hyx0⟩) (by assumption) ?restx0
          case hyx0 => (intro w hSw; (try dsimp only at hSw); go_simp; try with_reducible rfl)
          try simp only [Act.put, List.setIfInBounds_toArray, List.set_cons_zero, List.set_cons_succ, List.getElem_toArray, List.getElem_cons_succ, List.getElem_cons_zero]
          refine wpAnyH_take (i := 1) (v := ?vx1) rfl (by kernel_rfl) (by kernel_rfl) (by kernel_rfl) (fun _ _ _ h => h) (Or.inl ⟨by rfl, ?hyx1⟩) (by assumption) ?restx1
          case hyx1 => (intro w hSw; (try dsimp only at hSw); go_simp; try with_reducible rfl)
          try simp only [Act.put, List.setIfInBounds_toArray, List.set_cons_zero, List.set_cons_succ, List.getElem_toArray, List.getElem_cons_succ, List.getElem_cons_zero]
          refine wpAnyH_ready (rs := [2, 4]) (by kernel_rfl) (by simp) ?_
          refine AllReadyH.cons rfl (fun K hK => ?_) (AllReadyH.cons rfl (fun K hK => ?_) AllReadyH.nil)
          · go_simp
            refine hK.out _ _ hHeld (fun hHeld => ?_)
            clear hK K
            try simp only [Act.put, List.setIfInBounds_toArray, List.set_cons_zero, List.set_cons_succ, List.getElem_toArray, List.getElem_cons_succ, List.getElem_cons_zero]
            refine wpAnyH_take (i := 3) (v := ?va3) rfl (by kernel_rfl) (by kernel_rfl) (by kernel_rfl) (fun _ _ _ h => h) (Or.inl ⟨by rfl, ?hya3⟩) (by assumption) ?resta3
            case hya3 => (intro w hSw; (try dsimp only at hSw); go_simp; try with_reducible rfl)
            try simp only [Act.put, List.setIfInBounds_toArray, List.set_cons_zero, List.set_cons_succ, List.getElem_toArray, List.getElem_cons_succ, List.getElem_cons_zero]
            refine wpAnyH_ready (rs := [4]) (by kernel_rfl) (by simp) ?_
            refine AllReadyH.cons rfl (fun K hK => ?_) AllReadyH.nil
            go_simp
            refine hK.out _ _ S1.out (fun hHeld => ?_)
            clear hK K
            try simp only [Act.put, List.setIfInBounds_toArray, List.set_cons_zero, List.set_cons_succ, List.getElem_toArray, List.getElem_cons_succ, List.getElem_cons_zero]
            refine wpAnyH_take (i := 5) (v := ?va5) rfl (by kernel_rfl) (by kernel_rfl) (by kernel_rfl) (fun _ _ _ h => h) (Or.inl ⟨by rfl, ?hya5⟩) (by assumption) ?resta5
            case hya5 => (intro w hSw; (try dsimp only at hSw); go_simp; try with_reducible rfl)
            try simp only [Act.put, List.setIfInBounds_toArray, List.set_cons_zero, List.set_cons_succ, List.getElem_toArray, List.getElem_cons_succ, List.getElem_cons_zero]
            refine wpAnyH_ready (rs := [6]) (by kernel_rfl) (by simp) ?_
            refine AllReadyH.cons rfl (fun K hK => ?_) AllReadyH.nil
            go_simp
            refine hK.out _ _ S2.out (fun hHeld => ?_)
            clear hK K
            refine wpAnyH_done (by kernel_rfl) ?_ _
            refine NoPanic.normal ?_
            have HI2 := HNXT.out
            obtain ⟨c0, p0, p1, p2, p3⟩ := S2.out
            have hlk := HLK.out
            cases hone : ((c1 : Int) == 1)
            · have HNO := hide (HDN.out hone)
              go_wp2_with fail
              go_roundw
              case rel => exact ⟨x + 1, v, _, by omega, by go_num, rfl, HNO.out⟩
              case measure => simp [intOf]; omega
            · have HYES := hide (HDY.out hone)
              have HRW := hide HROW.out
              go_wp2_with (at_builtin; refine wpList_append_lies _ rfl _ _ _ rfl (w.heap.size + 1 + 1 + 1) 36 i0 _ 4 4 Try.underlying58 hi hz0 hz1 hz2 rfl (by omega) v n _ rfl (HRW.out.alloc _) ⟨w2.heap.size, 0, none⟩ 1 1 [.int .u8 p.r, .int .u8 p.g, .int .u8 p.b, .int .u8 p.a] rfl rfl (World.news_of_block (heap_alloc_new w2 _)) (u8L_one [p.r, p.g, p.b, p.a]) (by omega) (by unfold maxLen; omega) (by omega) (by simp; omega) (w2.heap.size + 1) (by simp) ?_; intro g7 c7 w7 hown2 hg2 hat2 hlt2)
              have HI7 := hide (HYES.out w7 _ hown2 hg2)
              clear hown2 hg2 hat2 hlt2
              go_roundw
              case rel => exact ⟨x + 1, _, _, by omega, by go_num, rfl, HI7.out⟩
              case measure => simp [intOf]; omega
          · go_simp
            refine hK.out _ _ S1.out (fun hHeld => ?_)
            clear hK K
            try simp only [Act.put, List.setIfInBounds_toArray, List.set_cons_zero, List.set_cons_succ, List.getElem_toArray, List.getElem_cons_succ, List.getElem_cons_zero]
            refine wpAnyH_take (i := 5) (v := ?vb5) rfl (by kernel_rfl) (by kernel_rfl) (by kernel_rfl) (fun _ _ _ h => h) (Or.inl ⟨by rfl, ?hyb5⟩) (by assumption) ?restb5
            case hyb5 => (intro w hSw; (try dsimp only at hSw); go_simp; try with_reducible rfl)
            try simp only [Act.put, List.setIfInBounds_toArray, List.set_cons_zero, List.set_cons_succ, List.getElem_toArray, List.getElem_cons_succ, List.getElem_cons_zero]
            refine wpAnyH_ready (rs := [2]) (by kernel_rfl) (by simp) ?_
            refine AllReadyH.cons rfl (fun K hK => ?_) AllReadyH.nil
            go_simp
            refine hK.out _ _ S1.out (fun hHeld => ?_)
            clear hK K
            try simp only [Act.put, List.setIfInBounds_toArray, List.set_cons_zero, List.set_cons_succ, List.getElem_toArray, List.getElem_cons_succ, List.getElem_cons_zero]
            refine wpAnyH_take (i := 3) (v := ?vb3) rfl (by kernel_rfl) (by kernel_rfl) (by kernel_rfl) (fun _ _ _ h => h) (Or.inl ⟨by rfl, ?hyb3⟩) (by assumption) ?restb3
            case hyb3 => (intro w hSw; (try dsimp only at hSw); go_simp; try with_reducible rfl)
            try simp only [Act.put, List.setIfInBounds_toArray, List.set_cons_zero, List.set_cons_succ, List.getElem_toArray, List.getElem_cons_succ, List.getElem_cons_zero]
            refine wpAnyH_ready (rs := [6]) (by kernel_rfl) (by simp) ?_
            refine AllReadyH.cons rfl (fun K hK => ?_) AllReadyH.nil
            go_simp
            refine hK.out _ _ S2.out (fun hHeld => ?_)
            clear hK K
            refine wpAnyH_done (by kernel_rfl) ?_ _
            refine NoPanic.normal ?_
            have HI2 := HNXT.out
            obtain ⟨c0, p0, p1, p2, p3⟩ := S2.out
            have hlk := HLK.out
            cases hone : ((c1 : Int) == 1)
            · have HNO := hide (HDN.out hone)
              go_wp2_with fail
              go_roundw
              case rel => exact ⟨x + 1, v, _, by omega, by go_num, rfl, HNO.out⟩
              case measure => simp [intOf]; omega
            · have HYES := hide (HDY.out hone)
              have HRW := hide HROW.out
              go_wp2_with (at_builtin; refine wpList_append_lies _ rfl _ _ _ rfl (w.heap.size + 1 + 1 + 1) 36 i0 _ 4 4 Try.underlying58 hi hz0 hz1 hz2 rfl (by omega) v n _ rfl (HRW.out.alloc _) ⟨w2.heap.size, 0, none⟩ 1 1 [.int .u8 p.r, .int .u8 p.g, .int .u8 p.b, .int .u8 p.a] rfl rfl (World.news_of_block (heap_alloc_new w2 _)) (u8L_one [p.r, p.g, p.b, p.a]) (by omega) (by unfold maxLen; omega) (by omega) (by simp; omega) (w2.heap.size + 1) (by simp) ?_; intro g7 c7 w7 hown2 hg2 hat2 hlt2)
              have HI7 := hide (HYES.out w7 _ hown2 hg2)
              clear hown2 hg2 hat2 hlt2
              go_roundw
              case rel => exact ⟨x + 1, _, _, by omega, by go_num, rfl, HI7.out⟩
              case measure => simp [intOf]; omega
        · have hxW : x = W := by omega
          subst hxW
          have HI := hide hI
          clear hI
          go_wp2_with fail
          go_roundw
          case rel => exact ⟨k + 1, v, D, by omega, by go_num, rfl, by rw [Nat.succ_mul]; exact HI.out⟩
          case measure => simp [intOf]; omega
    · have hkH : k = H := by omega
      subst hkH
      obtain ⟨n, hn⟩ : ∃ n, n = (dl l (k * W)).length := ⟨_, rfl⟩
      have hn1 : 1 ≤ n := by
        rw [hn]
        have h1 : pix l 0 ∈ dl l (k * W) := (dl_mem l _ _).2 (by
          have hpos : 0 < k * W := by rw [Nat.mul_comm]; exact hN1
          have : ∀ q, 0 < q → cntN l (pix l 0) q ≠ 0 := by
            intro q
            induction q with
            | zero => intro h; omega
            | succ q ih =>
              intro _
              show cntN l (pix l 0) q + (if pix l q = pix l 0 then 1 else 0) ≠ 0
              rcases Nat.eq_zero_or_pos q with h | h
              · subst h; simp
              · have := ih h; omega
          exact this _ hpos)
        exact List.length_pos_of_mem h1
      have hrow := hI.row
      rw [← hn] at hrow
      rcases hrow.2 with ⟨-, h0⟩ | ⟨g, c, cur, rfl, hbase, hh, hnc, -⟩
      · omega
      have KS := hide (sortPop_any l (k * W) (k * W) (w.heap.size + 1 + 1) (w.heap.size + 1) n g c (w.heap.size + 1 + 1 + 1) D wr (by have := HWH.out; rw [Nat.mul_comm]; omega) (by have h := hI.cell.cell 0; simpa using h) hI.own hI.cnt (by omega) (by omega) (dl_ok HU.out _) hn (by rw [hn]; have h1 := DL.out (k * W); have h2 := HWH.out; rw [Nat.mul_comm] at h2; omega) hrow hn1)
      have HB := hide hI.below
      have HN := hide hn
      clear hI hrow hh hn
      go_wp2_with (go_at_call 142; (with_reducible refine KS.out.mono ?_); rintro e w2 ⟨rfl, htr, hg⟩)
      have HTR := hide htr
      have HG := hide hg
      clear htr hg
      go_ret
      have en : dcN l (W * k) = n := by rw [HN.out, dl_len, Nat.mul_comm k W]
      refine ⟨g, c, by rw [en]; rfl, ?_, ?_, HB.out.grown HG.out HB.out.size (fun q hq => by injection hq with hq; omega)⟩
      · rw [en]; exact hnc
      · rw [Nat.mul_comm W k]; exact HTR.out
end

/-! slices.Clone at colours, quant.Popular: walked. -/
section
set_option linter.unusedVariables false
set_option linter.unusedSimpArgs false
open Go.RowKit
attribute [local go_sem ↓] Go.wp_at_zero Go.wp_at_succ

theorem addr_add (g j : Nat) : (⟨g, 0, none⟩ : Addr).add j = ⟨g, j, none⟩ := by
  rw [Addr.add]; split
  · rename_i e; simp [e]
  · simp
set_option maxRecDepth 100000 in
set_option maxHeartbeats 4000000 in
theorem cloneC_any (g k c : Nat) (cs : List Col) (w : World) (hk : cs.length = k) (hr : TRow w w.heap.size (some ⟨g, 0, none⟩) cs) (h1 : 1 ≤ k) (h2 : k ≤ 1000) :
    Calls Try.prog 134 #[.slice (some ⟨g, 0, none⟩) k c] w fun e w' => ∃ g' c', e = .returned (.slice (some ⟨g', 0, none⟩) k c') ∧ k ≤ c' ∧ TRow w' w'.heap.size (some ⟨g', 0, none⟩) cs ∧ Below w.heap.size w w' := by
  obtain ⟨i0, hi, hz0, hz1, hz2⟩ := info_parts col_info
  have qT : ∀ (w : World) (a : Option Addr) (n c n' c' : Nat), (binOp .eql 58 (.slice a n c) (.slice none n' c')).run Try.prog w = .ok (.bool a.isNone) w := fun w a n c n' c' => Lib.run_eql_slice_nil w _ _ a n c n' c' Try.underlying58
  have hO : (w.alloc (.cells #[] 36)).ownsRow w.heap.size 36 4 (.slice (some ⟨w.heap.size, 0, none⟩) 0 0) 0 [] := own_empty _ _ _ _ (by simp) _ (by simp)
  have HO := hide hO
  have hnews : ∀ j u, (u8L (bytesL cs))[j]? = some u → (w.alloc (.cells #[] 36)).cell? ((⟨g, 0, none⟩ : Addr).add j) = some u := fun j u hj => by
    have hlt : j < (bytesL cs).length := by
      have := List.getElem?_eq_some_iff.1 hj
      obtain ⟨h, -⟩ := this
      simpa [u8L] using h
    obtain ⟨b, off, cur, fr, hA, hb, hh, hc⟩ := hr j hlt
    injection hA with hA; injection hA with hA1 hA2
    subst hA1 hA2
    rw [addr_add, (below_alloc w _).cell (p := ⟨g, j, none⟩) hb]
    rw [Nat.zero_add] at hc
    rw [hc, ← hj]
    simp [u8L, List.getD, hlt]
  have HN := hide hnews
  have hl : (u8L (bytesL cs)).length = k * 4 := by simp [u8L, bytesL_len, hk, Nat.mul_comm]
  have HL := hide hl
  have HK := hide hk
  clear hr hO hnews hl hk
  go_enter Try.func134, Try.ntmps134
  go_wp2_with (at_builtin; refine wpList_append_lies _ rfl _ _ _ rfl w.heap.size 36 i0 _ 4 4 Try.underlying58 hi hz0 hz1 hz2 rfl (by omega) (.slice (some ⟨w.heap.size, 0, none⟩) 0 0) 0 _ rfl HO.out ⟨g, 0, none⟩ k c (u8L (bytesL cs)) rfl HL.out HN.out (u8L_one _) (by omega) (by unfold maxLen; omega) (by omega) (by simp) (w.heap.size + 1) (by simp) ?_; intro g' c' w7 hown2 hg2 hat2 hlt2)
  go_ret
  rw [List.nil_append, Nat.zero_add] at hown2
  obtain ⟨-, q1, q2⟩ := TRow.of_own hown2
  refine ⟨g', c', rfl, by rw [← HK.out]; exact q1, q2, (below_alloc w _).grown hg2 (by simp) (fun j hj => by simp [Value.ownBlock] at hj; omega)⟩

set_option maxHeartbeats 1000000 in
theorem popular_no {x y : Int} {n : Nat} (h : ¬ rightI x y n) (A : Option Addr) (cap : Nat) (z : Int) (w : World) :
    Calls Try.prog 87 #[imgV x y A n cap, .int .i64 z] w fun e w' => e = .returned (.tuple #[.slice none 0 0, .int .i64 11]) ∧ Below w.heap.size w w' := by
  have K1 := hide (right_no h A cap)
  clear h
  go_enter Try.func87, Try.ntmps87
  go_wp2_with (go_at_call 94; (with_reducible refine (K1.out _).mono ?_); rintro e w1 ⟨rfl, hb1⟩; obtain ⟨B1, hz, HW⟩ := own1 hb1; clear hb1)
  exact bodyPost_ret (v := .tuple #[.slice none 0 0, .int .i64 11]) (by simp [results, Try.results87, go_sem]) rfl ⟨rfl, HW⟩
set_option maxHeartbeats 1000000 in
theorem popular_range {x y : Int} {n : Nat} (h : rightI x y n) (A : Option Addr) (cap : Nat) (z : Int) (hz : z < 1 ∨ 256 < z) (w : World) :
    Calls Try.prog 87 #[imgV x y A n cap, .int .i64 z] w fun e w' => e = .returned (.tuple #[.slice none 0 0, .int .i64 2]) ∧ Below w.heap.size w w' := by
  have K1 := hide (right_yes h A cap)
  clear h
  have hz' : z < 1 ∨ (¬ z < 1 ∧ 256 < z) := by omega
  clear hz
  rcases hz' with hz | ⟨hz, hz1⟩
  · go_enter Try.func87, Try.ntmps87
    go_wp2_with (go_at_call 94; (with_reducible refine (K1.out _).mono ?_); rintro e w1 ⟨rfl, hb1⟩; obtain ⟨B1, hz, HW⟩ := own1 hb1; clear hb1)
    exact bodyPost_ret (v := .tuple #[.slice none 0 0, .int .i64 2]) (by simp [results, Try.results87, go_sem]) rfl ⟨rfl, HW⟩
  · go_enter Try.func87, Try.ntmps87
    go_wp2_with (go_at_call 94; (with_reducible refine (K1.out _).mono ?_); rintro e w1 ⟨rfl, hb1⟩; obtain ⟨B1, hz, HW⟩ := own1 hb1; clear hb1)
    exact bodyPost_ret (v := .tuple #[.slice none 0 0, .int .i64 2]) (by simp [results, Try.results87, go_sem]) rfl ⟨rfl, HW⟩

set_option maxRecDepth 100000 in
set_option maxHeartbeats 4000000 in
theorem popular_yes (W H : Nat) (A : Option Addr) (l : List Int) (cap n : Nat) (w : World) (hR : rightI W H l.length) (hr : RowAt w w.heap.size .u8 A l) (hcap : l.length ≤ cap) (hu : U8s l) (h600 : l.length ≤ 600) (hn : 1 ≤ n) (hn2 : n ≤ 256) :
    Calls Try.prog 87 #[imgV W H A l.length cap, .int .i64 n] w fun e w' => ∃ g c q, e = .returned (.tuple #[.slice (some ⟨g, 0, none⟩) q c, .int .i64 0]) ∧ q = ((popL l (W * H)).take n).length ∧ q ≤ c ∧ TRow w' w'.heap.size (some ⟨g, 0, none⟩) ((popL l (W * H)).take n) ∧ Below w.heap.size w w' := by
  have K1 := hide (right_yes hR A cap)
  have K2 := hide fun (w' : World) (h : Below w.heap.size w w') => popular_any W H A l cap w' hR ((hr.below h (Nat.le_refl _)).more h.size) hcap hu h600
  obtain ⟨m, hm⟩ : ∃ m, m = dcN l (W * H) := ⟨_, rfl⟩
  have hml : (popL l (W * H)).length = m := by rw [popL_len, hm]
  have hm1 : 1 ≤ m := by
    have hX : 1 ≤ W := by have := hR.1; omega
    have hY : 1 ≤ H := by have := hR.2.1; omega
    have hN1 : 1 ≤ W * H := Nat.mul_le_mul hX hY
    rw [hm]
    obtain ⟨N, hN⟩ : ∃ N, W * H = N + 1 := ⟨W * H - 1, by omega⟩
    rw [hN]
    have : ∀ N, 1 ≤ dcN l (N + 1) := by
      intro N
      induction N with
      | zero => simp [dcN, cntN]
      | succ N ih => show 1 ≤ dcN l (N + 1) + _; omega
    exact this N
  have hmb : m ≤ 268435456 := by
    have := dcN_le l (W * H)
    have h1 := hR.1.2
    have h2 := hR.2.1.2
    have h3 : W * H ≤ 268435456 := Nat.le_trans (Nat.mul_le_mul (show W ≤ 16384 by omega) (show H ≤ 16384 by omega)) (by decide)
    omega
  rw [← hm] at K2
  have HM := hide hml
  have mn : min (n : Int) (m : Int) = ((min n m : Nat) : Int) := by omega
  obtain ⟨q, hq⟩ : ∃ q, q = min n m := ⟨_, rfl⟩
  rw [← hq] at mn
  have hqn : q = ((popL l (W * H)).take n).length := by rw [List.length_take, hml, hq]
  have HQ := hide hqn
  have hq1 : 1 ≤ q := by omega
  have hqm : q ≤ m := by omega
  have hq2 : q ≤ 256 := by omega
  generalize popL l (W * H) = L at K2 HM HQ hml hqn ⊢
  clear hR hr hcap hu h600 hm hml hqn hq
  go_enter Try.func87, Try.ntmps87
  go_wp2_with (first | (go_at_call 94; (with_reducible refine (K1.out _).mono ?_); rintro e w1 ⟨rfl, hb1⟩; obtain ⟨B1, hz, HW⟩ := own1 hb1; have HB1 := hide HW; obtain ⟨m0, m1, m2, -⟩ := blk3 B1; clear hb1 HW B1) | (go_at_call 133; (with_reducible refine (K2.out _ HB1.out).mono ?_); rintro e w2 ⟨g, c, rfl, hmc, htr, hb2⟩; have HTR := hide htr; have HB2 := hide (bstep HB1.out hb2); clear htr hb2; have hqc : q ≤ c := (by omega); have HC := hide (cloneC_any g q c (L.take n) w2 HQ.out.symm (by have h := HTR.out.sub 0 n; simpa using h) hq1 (by omega))) | (go_at_call 134; (with_reducible refine (HC.out).mono ?_); rintro e w3 ⟨g3, c3, rfl, hq3, htr3, hb3⟩; have HTR3 := hide htr3; have HB3 := hide (bstep HB2.out hb3); clear htr3 hb3))
  exact bodyPost_ret (v := .tuple #[.slice (some ⟨g3, 0, none⟩) q c3, .int .i64 0]) (by simp [results, Try.results87, go_sem]) rfl ⟨g3, c3, q, rfl, HQ.out, hq3, HTR3.out, HB3.out⟩
end

/-! quant.Reduce: walked. -/
section
set_option linter.unusedVariables false
set_option linter.unusedSimpArgs false
open Go.RowKit
attribute [local go_sem ↓] Go.wp_at_zero Go.wp_at_succ

theorem rowI_of_own {w : World} {base n g c : Nat} {l : List Int} (h : w.ownsRow base 3 1 (.slice (some ⟨g, 0, none⟩) n c) n (l.map (Value.int .i64))) : n = l.length ∧ n ≤ c ∧ RowAt w w.heap.size .i64 (some ⟨g, 0, none⟩) l := by
  have h1 := h.1
  rcases h.2 with ⟨h2, _⟩ | ⟨g', cap, cur, hv, hb, hh, hc, _⟩
  · cases h2
  · injection hv with hv h3 h4; injection hv with hv; injection hv with hv
    subst hv h4
    have hlen : n = l.length := by simp at h1; omega
    refine ⟨hlen, by omega, fun i hi => ⟨g, 0, rfl, Blk.lt (t := 3) (cs := cur) hh, ?_⟩⟩
    rw [Nat.zero_add, h.cellAt i (by omega)]
    simp [List.getD, hi]
theorem htr_below {w w' : World} {A : Option Addr} {cs : List Col} (h : TRow w w.heap.size A cs) (hb : Below w.heap.size w w') : TRow w' w'.heap.size A cs := (h.below hb (Nat.le_refl _)).more hb.size
/-- The numbers of the nearest colours. -/
def numsI (l : List Int) (W : Nat) (cs : List Col) (N : Nat) : List Int := (List.range N).map fun i => (pxNear l W cs i : Int)
theorem nearL_nums (l : List Int) (W : Nat) (cs : List Col) (N : Nat) : nearL l W cs N = (numsI l W cs N).map (Value.int .i64) := by simp [nearL, numsI]
theorem nums_in (l : List Int) (W : Nat) (cs : List Col) (N : Nat) (h : 1 ≤ cs.length) : allIn (numsI l W cs N) cs.length := fun i hi => by
  have hi2 : i < N := by simpa [numsI] using hi
  have e : (numsI l W cs N).getD i 0 = (pxNear l W cs i : Int) := by simp [numsI, List.getD, hi2]
  rw [e]
  have := nearN_lt cs (imgPx l W (i % W) (i / W)) cs.length h
  unfold pxNear
  omega
/-- The bytes of an image of its nearest colours. -/
def redL (l : List Int) (W : Nat) (cs : List Col) (N : Nat) : List Int := bytesL ((numsI l W cs N).map (pickC cs))

set_option maxHeartbeats 2000000 in
theorem reduce_ref {x y z : Int} {n cap : Nat} {A : Option Addr} (k : Int) (hk : (k != 0) = true) (w : World) (K : ∀ w' : World, Calls Try.prog 87 #[imgV x y A n cap, .int .i64 z] w' fun e w'' => e = .returned (.tuple #[.slice none 0 0, .int .i64 k]) ∧ Below w'.heap.size w' w'') :
    Calls Try.prog 88 #[imgV x y A n cap, .int .i64 z] w (Refused w k) := by
  have K1 := hide K
  unfold Refused
  clear K
  go_enter Try.func88, Try.ntmps88
  go_wp2_with (go_at_call 87; (with_reducible refine (K1.out _).mono ?_); rintro e w1 ⟨rfl, hb1⟩; obtain ⟨B1, B2, hz, HW⟩ := own2 hb1; obtain ⟨r0, r1, r2, f0, f1, f2⟩ := blk3 B2; clear hb1)
  refine bodyPost_ret (v := .tuple #[imgV 0 0 none 0 0, .int .i64 k]) (by simp [results, Try.results88, go_sem, r0, r1, r2, hz]) rfl ⟨rfl, bset (bset (bset HW _ _ (by omega) _) _ _ (by omega) _) _ _ (by omega) _⟩

set_option maxRecDepth 100000 in
set_option maxHeartbeats 4000000 in
theorem reduce_yes (W H : Nat) (A : Option Addr) (l : List Int) (cap n : Nat) (w : World) (hR : rightI W H l.length) (hr : RowAt w w.heap.size .u8 A l) (hcap : l.length ≤ cap) (hu : U8s l) (h600 : l.length ≤ 600) (hn : 1 ≤ n) (hn2 : n ≤ 256) :
    Calls Try.prog 88 #[imgV W H A l.length cap, .int .i64 n] w (MadeL w W H (redL l W ((popL l (W * H)).take n) (W * H))) := by
  have hX : 1 ≤ W ∧ W ≤ 16384 := by have := hR.1; omega
  have hY : 1 ≤ H ∧ H ≤ 16384 := by have := hR.2.1; omega
  have hN1 : 1 ≤ W * H := Nat.mul_le_mul hX.1 hY.1
  have hWH : W * H ≤ 150 := by
    have h3 := hR.2.2
    have e : (4 : Int) * W * H = ((4 * (W * H) : Nat) : Int) := by push_cast; rw [Int.mul_assoc]
    rw [e] at h3
    omega
  have K87 := hide fun (w' : World) (h : Below w.heap.size w w') => popular_yes W H A l cap n w' hR ((hr.below h (Nat.le_refl _)).more h.size) hcap hu h600 hn hn2
  obtain ⟨cs, hcs⟩ : ∃ cs, cs = (popL l (W * H)).take n := ⟨_, rfl⟩
  have hcok : ∀ k, k < cs.length → (cs.getD k ⟨0, 0, 0, 0⟩).ok := fun k hk => by
    have h1 := getD_mem hk
    rw [hcs] at h1
    have h2 := List.mem_of_mem_take h1
    rw [(popL_perm l (W * H)).mem_iff] at h2
    rw [hcs]
    exact dl_ok hu _ _ h2
  have hc1 : 1 ≤ cs.length := by
    rw [hcs, List.length_take, popL_len]
    obtain ⟨N, hN⟩ : ∃ N, W * H = N + 1 := ⟨W * H - 1, by omega⟩
    rw [hN]
    have : ∀ N, 1 ≤ dcN l (N + 1) := by
      intro N
      induction N with
      | zero => simp [dcN, cntN]
      | succ N ih => show 1 ≤ dcN l (N + 1) + _; omega
    have := this N
    omega
  have hc2 : cs.length ≤ 256 := by rw [hcs, List.length_take]; omega
  rw [← hcs] at K87 ⊢
  have K81 := hide fun (w' : World) (h : Below w.heap.size w w') (g c : Nat) (htr : TRow w' w'.heap.size (some ⟨g, 0, none⟩) cs) => numbers_yes W H A (some ⟨g, 0, none⟩) l cs cap c w' hR ((hr.below h (Nat.le_refl _)).more h.size) hcap hu htr.row hcok hc1 (by omega)
  have hmod : (numsI l W cs (W * H)).length % W = 0 := by simp [numsI]
  have hdiv : (numsI l W cs (W * H)).length / W = H := by simp [numsI]; exact Nat.mul_div_cancel_left H (by omega)
  have hnl : (numsI l W cs (W * H)).length = W * H := by simp [numsI]
  have K83 := hide fun (w' : World) (g c g2 c2 : Nat) (htr : TRow w' w'.heap.size (some ⟨g, 0, none⟩) cs) (hrn : RowAt w' w'.heap.size .i64 (some ⟨g2, 0, none⟩) (numsI l W cs (W * H))) =>
    (qimage_any W (some ⟨g2, 0, none⟩) (some ⟨g, 0, none⟩) (numsI l W cs (W * H)) cs c2 c w' hX (by omega) (by omega) hmod hrn htr.row (by omega) (fun z hz => by
      obtain ⟨i, hi, rfl⟩ := List.mem_iff_getElem.1 hz
      have := nums_in l W cs (W * H) hc1 i hi
      have e : (numsI l W cs (W * H)).getD i 0 = (numsI l W cs (W * H))[i] := by simp [List.getD, hi]
      rw [e] at this
      unfold I64
      omega)).mono (R' := MadeL w' W H (redL l W cs (W * H))) (fun e w'' h => by
        rcases h with ⟨-, h⟩ | ⟨h, -⟩
        · rw [hdiv] at h; exact h
        · exact absurd (nums_in l W cs (W * H) hc1) h)
  rw [hnl] at K83
  unfold MadeL
  unfold MadeL at K83
  obtain ⟨q, hq⟩ : ∃ q, q = cs.length := ⟨_, rfl⟩
  obtain ⟨N, hN⟩ : ∃ N, N = W * H := ⟨_, rfl⟩
  rw [← hN] at K81 K83 hN1 hWH ⊢
  rw [← hq] at K81 K83 K87
  obtain ⟨px, hpx⟩ : ∃ px, px = redL l W cs N := ⟨_, rfl⟩
  rw [← hpx] at K83 ⊢
  clear hR hr hcap hu h600 hcs hcok hc1 hc2 hmod hdiv hnl hpx hN hq
  go_enter Try.func88, Try.ntmps88
  go_wp2_with (first | (go_at_call 87; (with_reducible refine (K87.out _ (balloc (below_alloc w _) _)).mono ?_); rintro e w1 ⟨g, c, q', rfl, hq', hqc, htr, hb1⟩; subst hq'; have HTR := hide htr; obtain ⟨B1, B2, hz, HW⟩ := own2 hb1; obtain ⟨m0, m1, m2, -⟩ := blk3 B1; have z1 := B1.lt; have HB1 := hide HW; have HBL1 := hide B1; have HBL2 := hide B2; clear hb1 htr HW B1 B2) | (go_at_call 81; (with_reducible refine (K81.out _ HB1.out g c HTR.out).mono ?_); rintro e w2 ⟨g2, c2, rfl, ho2, hb2⟩; rw [nearL_nums] at ho2; have HO2 := hide (rowI_of_own ho2); have HB2 := hide (bstep HB1.out hb2); have HBLa := hide (HBL1.out.below hb2 HBL1.out.lt); have HBLb := hide (HBL2.out.below hb2 HBL2.out.lt); obtain ⟨m0, m1, m2, -⟩ := blk3 HBLa.out; have HTR2 := hide ((htr_below HTR.out hb2)); clear ho2 hb2) | (go_at_call 83; (with_reducible refine (K83.out _ g c g2 c2 HTR2.out HO2.out.2.2).mono ?_); rintro e w3 ⟨A', cap', rfl, hi, hb3⟩; have hz2 := HBLb.out.lt; obtain ⟨r0, r1, r2, f0, f1, f2⟩ := blk3 (HBLb.out.below hb3 hz2); have hz3 : w.heap.size + 1 < w3.heap.size := Nat.lt_of_lt_of_le hz2 hb3.size; have HB3 := hide (bstep HB2.out hb3); have HI := hide hi; clear hi hb3))
  refine bodyPost_ret (v := .tuple #[imgV W H A' px.length cap', .int .i64 0]) (by simp [results, Try.results88, go_sem, r0, r1, r2, hz3]) rfl ⟨A', cap', rfl, ?_, ?_⟩
  · exact (((HI.out.set _ _ (by omega) _).set _ _ (by omega) _).set _ _ (by omega) _).less (by omega)
  · exact bset (bset (bset HB3.out _ _ (by omega) _) _ _ (by omega) _) _ _ (by omega) _
end

/-! The reference's Popular: walked. -/
section
set_option linter.unusedVariables false
set_option linter.unusedSimpArgs false
open Go.RowKit
attribute [local go_sem ↓] Go.wp_at_zero Go.wp_at_succ

/-- How many of the first pixels have each of the unlike colours. -/
def cntI (l : List Int) (k : Nat) : List Int := (dl l k).map fun c => (cntN l c k : Int)
theorem cntI_len (l : List Int) (k : Nat) : (cntI l k).length = (dl l k).length := by simp [cntI]
theorem cntI_new {l : List Int} {k : Nat} (h : ¬ pix l k ∈ dl l k) : cntI l (k + 1) = cntI l k ++ [1] := by
  have e : dl l (k + 1) = dl l k ++ [pix l k] := by show (if pix l k ∈ dl l k then dl l k else dl l k ++ [pix l k]) = _; rw [if_neg h]
  have h0 : cntN l (pix l k) k = 0 := Decidable.byContradiction fun hn => h ((dl_mem l _ k).2 hn)
  unfold cntI
  rw [e, List.map_append]
  congr 1
  · refine List.map_congr_left fun c hc => ?_
    show ((cntN l c k + (if pix l k = c then 1 else 0) : Nat) : Int) = _
    rw [if_neg (fun e => h (by rw [e]; exact hc)), Nat.add_zero]
  · show [((cntN l (pix l k) k + (if pix l k = pix l k then 1 else 0) : Nat) : Int)] = [1]
    rw [if_pos rfl, h0]; rfl
theorem idx_get {L : List Col} (hn : L.Nodup) {i : Nat} (hi : i < L.length) {c : Col} (h : L.getD i ⟨0, 0, 0, 0⟩ = c) : L.idxOf c = i := by
  have := hn.idxOf_getElem i hi
  rw [← h]; simpa [List.getD, hi] using this
theorem cntI_old {l : List Int} {k : Nat} (h : pix l k ∈ dl l k) : dl l (k + 1) = dl l k ∧ cntI l (k + 1) = (cntI l k).set ((dl l k).idxOf (pix l k)) ((cntN l (pix l k) k : Int) + 1) := by
  have e : dl l (k + 1) = dl l k := by show (if pix l k ∈ dl l k then dl l k else dl l k ++ [pix l k]) = _; rw [if_pos h]
  refine ⟨e, ?_⟩
  have hi := List.idxOf_lt_length_iff.2 h
  unfold cntI
  rw [e]
  apply List.ext_getElem
  · simp
  intro i h1 h2
  simp at h1
  rw [List.getElem_map, List.getElem_set, List.getElem_map]
  show ((cntN l (dl l k)[i] k + (if pix l k = (dl l k)[i] then 1 else 0) : Nat) : Int) = _
  by_cases he : pix l k = (dl l k)[i]
  · rw [if_pos he, if_pos (by rw [he]; exact (dl_nodup l k).idxOf_getElem i h1), ← he]
    push_cast; rfl
  · rw [if_neg he, if_neg (fun h3 => he (by subst h3; exact (List.getElem_idxOf hi).symm)), Nat.add_zero]
theorem cntI_at {l : List Int} {k : Nat} {i : Nat} (hi : i < (dl l k).length) : (cntI l k)[i]? = some (cntN l ((dl l k).getD i ⟨0, 0, 0, 0⟩) k : Int) := by
  simp [cntI, List.getD, hi]
/-- The counts that are left. -/
def cntTI (l : List Int) (N t : Nat) : List Int := (List.range (dl l N).length).map fun i => (cntT l N t i : Int)
theorem cntTI_zero (l : List Int) (N : Nat) : cntTI l N 0 = cntI l N := by
  apply List.ext_getElem
  · simp [cntTI, cntI]
  intro i h1 h2
  have h3 : i < (dl l N).length := by simpa [cntI] using h2
  simp [cntTI, cntI, cntT_zero, List.getD, h3]
theorem cntTI_succ {l : List Int} {N t : Nat} (ht : t < (dl l N).length) : cntTI l N (t + 1) = (cntTI l N t).set (bestN (cntT l N t) (dl l N).length) 0 := by
  apply List.ext_getElem
  · simp [cntTI]
  intro i h1 h2
  have h3 : i < (dl l N).length := by simpa [cntTI] using h1
  rw [List.getElem_set]
  simp only [cntTI, List.getElem_map, List.getElem_range]
  rw [cntT_succ ht i h3]
  by_cases he : i = bestN (cntT l N t) (dl l N).length
  · rw [if_pos he, if_pos he.symm]; rfl
  · rw [if_neg he, if_neg (fun h => he h.symm)]
theorem cntTI_at {l : List Int} {N t i : Nat} (hi : i < (dl l N).length) : (cntTI l N t)[i]? = some (cntT l N t i : Int) := by simp [cntTI, hi]
/-- Where a colour lies, or -1. -/
def atV (L : List Col) (p : Col) (j : Nat) : Int := if p ∈ L.take j then (L.idxOf p : Int) else -1
theorem atV_yes {L : List Col} {p : Col} {j : Nat} (hn : L.Nodup) (hj : j < L.length) (h : L.getD j ⟨0, 0, 0, 0⟩ = p) : atV L p (j + 1) = j := by
  unfold atV
  rw [if_pos ((mem_take_succ hj).2 (.inr h)), idx_get hn hj h]
theorem atV_no {L : List Col} {p : Col} {j : Nat} (hj : j < L.length) (h : L.getD j ⟨0, 0, 0, 0⟩ ≠ p) : atV L p (j + 1) = atV L p j := by
  unfold atV
  have := mem_take_succ (c := p) hj
  by_cases hm : p ∈ L.take j
  · rw [if_pos hm, if_pos (this.2 (.inl hm))]
  · rw [if_neg hm, if_neg (fun h2 => (this.1 h2).elim hm h)]

/-- What the reference's first rounds keep. -/
structure RI (w : World) (W H : Nat) (A : Option Addr) (l : List Int) (cap g c g2 c2 m k : Nat) (wr : World) : Prop where
  below : Below w.heap.size w wr
  pic : Pic wr w.heap.size W H A l cap
  col : wr.ownsRow (w.heap.size + 1) 36 4 (.slice (some ⟨g, 0, none⟩) m c) m (u8L (bytesL (dl l k)))
  cnt : wr.ownsRow (w.heap.size + 1) 3 1 (.slice (some ⟨g2, 0, none⟩) m c2) m ((cntI l k).map (Value.int .i64))
  len : m = (dl l k).length
  ne : g ≠ g2
theorem RI.next {w : World} {W H : Nat} {A : Option Addr} {l : List Int} {cap g c g2 c2 m k : Nat} {wr V : World} (h : RI w W H A l cap g c g2 c2 m k wr) (hb : Below wr.heap.size wr V) : RI w W H A l cap g c g2 c2 m k V :=
  ⟨bstep h.below hb, h.pic.below hb, owns_belowB h.col hb, owns_belowB h.cnt hb, h.len, h.ne⟩
/-- What its last rounds keep. -/
structure RO (w : World) (l : List Int) (N g c g2 c2 g3 c3 m t : Nat) (wr : World) : Prop where
  below : Below w.heap.size w wr
  col : wr.ownsRow (w.heap.size + 1) 36 4 (.slice (some ⟨g, 0, none⟩) m c) m (u8L (bytesL (dl l N)))
  cnt : wr.ownsRow (w.heap.size + 1) 3 1 (.slice (some ⟨g2, 0, none⟩) m c2) m ((cntTI l N t).map (Value.int .i64))
  out : wr.ownsRow (w.heap.size + 1) 36 4 (.slice (some ⟨g3, 0, none⟩) t c3) t (u8L (bytesL ((popL l N).take t)))
  ne : g ≠ g2
  ne3 : g ≠ g3
  ne4 : g2 ≠ g3
theorem RO.next {w : World} {l : List Int} {N g c g2 c2 g3 c3 m t : Nat} {wr V : World} (h : RO w l N g c g2 c2 g3 c3 m t wr) (hb : Below wr.heap.size wr V) : RO w l N g c g2 c2 g3 c3 m t V :=
  ⟨bstep h.below hb, owns_belowB h.col hb, owns_belowB h.cnt hb, owns_belowB h.out hb, h.ne, h.ne3, h.ne4⟩
theorem own_gt {w : World} {base n sz g cap : Nat} {e : TypeId} {xs : List Value} (h : w.ownsRow base e sz (.slice (some ⟨g, 0, none⟩) n cap) n xs) : base ≤ g ∧ g < w.heap.size := h.lt g rfl

/-- A slice's length. -/
def lenV : Value → Nat | .slice _ n _ => n | _ => 0

set_option maxRecDepth 1000000 in
set_option maxHeartbeats 32000000 in
theorem refPopular_any (W H : Nat) (A : Option Addr) (l : List Int) (cap n : Nat) (w : World) (hR : rightI W H l.length) (hr : RowAt w w.heap.size .u8 A l) (hu : U8s l) (hn : n ≤ 256) :
    Calls Try.prog 89 #[imgV W H A l.length cap, .int .i64 n] w fun e w' => ∃ g c q, e = .returned (.slice (some ⟨g, 0, none⟩) q c) ∧ q = ((popL l (W * H)).take n).length ∧ q ≤ c ∧ TRow w' w'.heap.size (some ⟨g, 0, none⟩) ((popL l (W * H)).take n) ∧ Below w.heap.size w w' := by
  obtain ⟨i0, hi, hz0, hz1, hz2⟩ := info_parts col_info
  obtain ⟨i3, hi3, gz0, gz1, gz2⟩ := info_parts int_info
  have hX : 1 ≤ W ∧ W ≤ 16384 := by have := hR.1; omega
  have hY : 1 ≤ H ∧ H ≤ 16384 := by have := hR.2.1; omega
  have hWH : W * H ≤ 268435456 := Nat.le_trans (Nat.mul_le_mul hX.2 hY.2) (by decide)
  have KP := hide fun (x y : Nat) (w' : World) (hr' : RowAt w' w'.heap.size .u8 A l) (hx : x < W) (hy : y < H) (c : Col) (hc : c = imgPx l W x y) => pix_is W H A l cap x y w' hR hr' hx hy c hc
  have HU := hide hu
  have HR0 := hide hr
  have DL := hide fun k : Nat => (by rw [dl_len]; exact dcN_le l k : (dl l k).length ≤ k)
  have mW : IntKind.i64.wrap ((W : Int) * (H : Int)) = ((W * H : Nat) : Int) := by
    have e : (W : Int) * (H : Int) = ((W * H : Nat) : Int) := by simp
    rw [e]; exact IntWalk.i64_in _ (by omega)
  obtain ⟨N, hN⟩ : ∃ N, N = W * H := ⟨_, rfl⟩
  rw [← hN] at mW hWH ⊢
  have HN := hide hN
  have HI0 : Hid (RI w W H A l cap (w.heap.size + 1) 0 (w.heap.size + 1 + 1) 0 0 0 (((w.alloc (.cells #[.int .i64 W, .int .i64 H, .slice A l.length cap] 34)).alloc (.cells #[] 36)).alloc (.cells #[] 3))) := by
    have hb : Below w.heap.size w (((w.alloc (.cells #[.int .i64 W, .int .i64 H, .slice A l.length cap] 34)).alloc (.cells #[] 36)).alloc (.cells #[] 3)) := balloc (balloc (below_alloc w _) _) _
    exact ⟨hb, ⟨((Blk.new w 34 _).alloc _).alloc _, (hr.below hb (Nat.le_refl _)).more hb.size⟩, (own_empty _ _ 36 4 (by simp) _ (by simp)).alloc _, own_empty _ _ 3 1 (by simp) _ (by simp), rfl, by show w.heap.size + 1 ≠ w.heap.size + 1 + 1; omega⟩
  clear hR hr hu hN
  go_enter Try.func89, Try.ntmps89
  go_wp2_with fail
  go_loopw [7, 5, 6] (fun i v u wr => ∃ k g c g2 c2 m : Nat, k ≤ N ∧ i = .int .i64 k ∧ v = .slice (some ⟨g, 0, none⟩) m c ∧ u = .slice (some ⟨g2, 0, none⟩) m c2 ∧ RI w W H A l cap g c g2 c2 m k wr) (fun i _ _ _ => N - (intOf i).toNat)
  case atStart => exact ⟨0, _, _, _, _, _, Nat.zero_le _, rfl, rfl, rfl, HI0.out⟩
  case round =>
    clear HI0
    obtain ⟨k, g, c, g2, c2, m, hk, rfl, rfl, rfl, hI⟩ := hrel
    by_cases hlt : k < N
    · have hx : k % W < W := Nat.mod_lt _ (by omega)
      have hy : k / W < H := Nat.div_lt_of_lt_mul (by rw [← HN.out]; exact hlt)
      have em : (k : Int).tmod (W : Int) = ((k % W : Nat) : Int) := tmod_nat k W
      have ed : (k : Int).tdiv (W : Int) = ((k / W : Nat) : Int) := tdiv_nat k W
      obtain ⟨o, hoe⟩ : ∃ o, o = imgPx l W (k % W) (k / W) := ⟨_, rfl⟩
      have hop : o = pix l k := by
        rw [hoe]; unfold imgPx; congr 1
        have := Nat.div_add_mod k W
        rw [Nat.mul_comm]; omega
      have HOP := hide hop
      generalize k % W = x at hx em hoe
      generalize k / W = y at hy ed hoe
      have hW0 : ¬ ((W : Int) = 0) := by omega
      have hW1 : ¬ (W = 0) := by omega
      have ey : IntKind.i64.wrap (y : Int) = (y : Int) := IntWalk.i64_in _ (by omega)
      obtain ⟨a0, a1, a2⟩ := hI.pic.cells
      obtain ⟨V, rfl⟩ : ∃ V : World, V = wr := ⟨_, rfl⟩
      have hbV := hI.pic.blk.lt
      have HV := hide fun (w' : World) (hb : Below V.heap.size V w') => KP.out x y w' ((hI.pic.row.below hb (Nat.le_refl _)).more hb.size) hx hy o hoe
      have n1 : ¬ w.heap.size = V.heap.size := by omega
      have HI := hide hI
      clear hI hop hoe
      go_upto_region 6 with fail
      go_cut [8] (fun s8 wx => ∃ P : Nat, s8 = .pointer (some ⟨P, 0, none⟩) ∧ Below V.heap.size V wx ∧ Cl4 wx P o)
      case first =>
        clear hx hy hlt HU hk HI
        first | (go_region_held3 (fun w' => w'.cell? ⟨w.heap.size, 0, none⟩ = some (.int .i64 (W : Int)) ∧ w'.cell? ⟨w.heap.size, 1, none⟩ = some (.int .i64 (H : Int)) ∧ w'.cell? ⟨w.heap.size, 2, none⟩ = some (.slice A l.length cap)) (simp (maxDischargeDepth := 20) [*, World.cell?_alloc_some, World.cell?_setCell_far]) ((go_at_call 39; (with_reducible refine (HV.out _ (by (repeat (first | (with_reducible exact Below.refl _ _) | (with_reducible apply Below.drew) | (with_reducible refine balloc ?_ _))))).mono ?_); rintro e v1 ⟨rfl, rfl⟩))) | fail
        all_goals
          go_wp2_with fail
          go_meet
          clear HV
          refine ⟨_, rfl, ?_, ⟨?_, ?_, ?_, ?_, ?_⟩⟩
          · repeat (first | (with_reducible exact Below.refl _ _) | (with_reducible apply Below.drew) | (with_reducible refine balloc ?_ _))
          all_goals first | (simp (maxDischargeDepth := 20) [World.cell?_alloc_some, World.cell?_alloc_at]; done) | (simp; omega)
      case rest =>
        obtain ⟨P, rfl, hV, hP4⟩ := hcut
        have HI1 := hide (HI.out.next hV)
        have HP4 := hide hP4
        obtain ⟨U, rfl⟩ : ∃ U : World, U = wc := ⟨_, rfl⟩
        obtain ⟨L, hL⟩ : ∃ L, L = dl l k := ⟨_, rfl⟩
        have hmL : m = L.length := by rw [hL]; exact HI1.out.len
        have HLd := hide hL
        have HML := hide hmL
        have hnd : L.Nodup := by rw [hL]; exact dl_nodup l k
        have HND := hide hnd
        have hcol := HI1.out.col
        rw [← hL] at hcol
        have HCOL := hide hcol
        have hmb : m ≤ 268435456 := by have := DL.out k; rw [hmL, hL]; omega
        clear a0 a1 a2 em ed ey HV hV hP4 hL hmL hnd hcol HI
        go_wp2_with fail
        go_loopw [10, 9] (fun i b wr => ∃ (j : Nat) (b' : Value), j ≤ m ∧ i = .int .i64 j ∧ b' = b ∧ b' = .int .i64 (atV L o j) ∧ Below U.heap.size U wr) (fun i _ _ => m - (intOf i).toNat)
        case atStart => exact ⟨0, _, Nat.zero_le _, rfl, rfl, by simp [atV], Below.refl _ _⟩
        case round =>
          obtain ⟨j, b', hj, rfl, rfl, hbj, hb⟩ := hrel
          by_cases hltj : j < m
          · subst hbj
            have hjr : (j : Int) < (m : Int) := by omega
            obtain ⟨-, -, htr⟩ := TRow.of_own HCOL.out
            obtain ⟨bc, oc, hbc, hat⟩ := cols_at htr.row (by rw [← HML.out]; omega)
            injection hbc with hbc; injection hbc with hbc hoc
            subst hbc hoc
            have hxk := (hat.below hb).at_ j (by rw [← HML.out]; exact hltj)
            obtain ⟨q, hq⟩ : ∃ q, q = L.getD j ⟨0, 0, 0, 0⟩ := ⟨_, rfl⟩
            rw [← hq] at hxk
            obtain ⟨x0, x1, x2, x3⟩ := hxk
            simp only [Nat.zero_add] at x0 x1 x2 x3
            have hP5 := HP4.out.below hb
            obtain ⟨p0, p1, p2, p3⟩ : wr.cell? ⟨P, 0, none⟩ = some (.int .u8 o.r) ∧ wr.cell? ⟨P, 1, none⟩ = some (.int .u8 o.g) ∧ wr.cell? ⟨P, 2, none⟩ = some (.int .u8 o.b) ∧ wr.cell? ⟨P, 3, none⟩ = some (.int .u8 o.a) := ⟨hP5.c0, hP5.c1, hP5.c2, hP5.c3⟩
            have HB := hide hb
            have HQ := hide hq
            clear hb hat htr hq hP5
            by_cases he : q = o
            · have e4 : q.r = o.r ∧ q.g = o.g ∧ q.b = o.b ∧ q.a = o.a := by rw [he]; exact ⟨rfl, rfl, rfl, rfl⟩
              have q1 : (q.r == o.r) = true := by simpa using e4.1
              have q2 : (q.g == o.g) = true := by simpa using e4.2.1
              have q3 : (q.b == o.b) = true := by simpa using e4.2.2.1
              have q4 : (q.a == o.a) = true := by simpa using e4.2.2.2
              have HA := hide (atV_yes HND.out (by rw [← HML.out]; exact hltj) (by rw [← HQ.out]; exact he) : atV L o (j + 1) = j)
              clear e4 he
              go_wp2_with fail
              first | (go_region_held3 (fun w' => w'.cell? ⟨g, j * 4, none⟩ = some (.int .u8 q.r) ∧ w'.cell? ⟨g, j * 4 + 1, none⟩ = some (.int .u8 q.g) ∧ w'.cell? ⟨g, j * 4 + 2, none⟩ = some (.int .u8 q.b) ∧ w'.cell? ⟨g, j * 4 + 3, none⟩ = some (.int .u8 q.a) ∧ w'.cell? ⟨P, 0, none⟩ = some (.int .u8 o.r) ∧ w'.cell? ⟨P, 1, none⟩ = some (.int .u8 o.g) ∧ w'.cell? ⟨P, 2, none⟩ = some (.int .u8 o.b) ∧ w'.cell? ⟨P, 3, none⟩ = some (.int .u8 o.a)) (go_keep) (fail)) | fail
              go_wp2_with fail
              go_roundw
              case rel => exact ⟨j + 1, _, by omega, by go_num, rfl, by rw [HA.out], HB.out.drew⟩
              case measure => simp [intOf]; omega
            · have HA := hide (atV_no (by rw [← HML.out]; exact hltj) (by rw [← HQ.out]; exact he) : atV L o (j + 1) = atV L o j)
              have hq : (q.r == o.r) = false ∨ ((q.r == o.r) = true ∧ (q.g == o.g) = false) ∨ ((q.r == o.r) = true ∧ (q.g == o.g) = true ∧ (q.b == o.b) = false) ∨ ((q.r == o.r) = true ∧ (q.g == o.g) = true ∧ (q.b == o.b) = true ∧ (q.a == o.a) = false) := by
                cases h1 : (q.r == o.r) <;> cases h2 : (q.g == o.g) <;> cases h3 : (q.b == o.b) <;> cases h4 : (q.a == o.a) <;> simp
                exact he (by cases q; cases o; simp at h1 h2 h3 h4; simp [h1, h2, h3, h4])
              clear he
              rcases hq with q1 | ⟨q1, q2⟩ | ⟨q1, q2, q3⟩ | ⟨q1, q2, q3, q4⟩
              all_goals
                go_wp2_with fail
                first | (go_region_held3 (fun w' => w'.cell? ⟨g, j * 4, none⟩ = some (.int .u8 q.r) ∧ w'.cell? ⟨g, j * 4 + 1, none⟩ = some (.int .u8 q.g) ∧ w'.cell? ⟨g, j * 4 + 2, none⟩ = some (.int .u8 q.b) ∧ w'.cell? ⟨g, j * 4 + 3, none⟩ = some (.int .u8 q.a) ∧ w'.cell? ⟨P, 0, none⟩ = some (.int .u8 o.r) ∧ w'.cell? ⟨P, 1, none⟩ = some (.int .u8 o.g) ∧ w'.cell? ⟨P, 2, none⟩ = some (.int .u8 o.b) ∧ w'.cell? ⟨P, 3, none⟩ = some (.int .u8 o.a)) (go_keep) (fail)) | fail
                go_wp2_with fail
                go_roundw
                case rel => exact ⟨j + 1, _, by omega, by go_num, rfl, by rw [HA.out], HB.out.drew⟩
                case measure => simp [intOf]; omega
          · have hjm : j = m := by omega
            subst hjm
            have hI2 := HI1.out.next hb
            have hP5 := HP4.out.below hb
            obtain ⟨p0, p1, p2, p3⟩ : wr.cell? ⟨P, 0, none⟩ = some (.int .u8 o.r) ∧ wr.cell? ⟨P, 1, none⟩ = some (.int .u8 o.g) ∧ wr.cell? ⟨P, 2, none⟩ = some (.int .u8 o.b) ∧ wr.cell? ⟨P, 3, none⟩ = some (.int .u8 o.a) := ⟨hP5.c0, hP5.c1, hP5.c2, hP5.c3⟩
            have hat : atV L o j = if o ∈ L then (L.idxOf o : Int) else -1 := by
              unfold atV; rw [List.take_of_length_le (by rw [← HML.out]; exact Nat.le_refl _)]
            have hpl : o ∈ L ↔ pix l k ∈ dl l k := by rw [HLd.out, HOP.out]
            obtain ⟨gl1, gl2⟩ := own_gt hI2.col
            obtain ⟨gc1, gc2⟩ := own_gt hI2.cnt
            have hne := hI2.ne
            have hbz := hI2.pic.blk.lt
            by_cases hm : o ∈ L
            · rw [if_pos hm] at hat
              have hix := List.idxOf_lt_length_iff.2 hm
              obtain ⟨ix, hixe⟩ : ∃ ix, ix = L.idxOf o := ⟨_, rfl⟩
              rw [← hixe] at hat hix
              rw [hat] at hbj
              subst hbj
              rw [← HML.out] at hix
              have hcv := hI2.cnt.cellAt ix (by omega)
              obtain ⟨h1, h2⟩ := cntI_old (hpl.1 hm)
              have hcg : (cntI l k)[ix]? = some (cntN l o k : Int) := by
                rw [cntI_at (by rw [← HLd.out, ← HML.out]; exact hix), ← HLd.out]
                have e : L.getD ix ⟨0, 0, 0, 0⟩ = o := by
                  have h3 : ix < L.length := by rw [← HML.out]; exact hix
                  have h4 : L.idxOf o < L.length := by rw [← hixe]; exact h3
                  have h5 := List.getElem_idxOf h4
                  simp only [← hixe] at h5
                  simpa [List.getD, h3] using h5
                rw [e]
              rw [List.getElem?_map, hcg] at hcv
              simp only [Option.map_some] at hcv
              have hcl := cntN_le l o k
              obtain ⟨v, hv⟩ : ∃ v, v = cntN l o k := ⟨_, rfl⟩
              rw [← hv] at hcv hcl
              have ew : IntKind.i64.wrap ((v : Int) + 1) = (v : Int) + 1 := IntWalk.i64_in _ (by omega)
              have hfz := hI2.cnt.frozenAt ix
              have hixr : (ix : Int) < (j : Int) := by omega
              have hix0 : ¬ (ix : Int) < 0 := by omega
              obtain ⟨st1, st2⟩ := hI2.cnt.stored ix (.int .i64 ((v : Int) + 1))
              have hnx : RI w W H A l cap g c g2 c2 j (k + 1) (wr.setCell ⟨g2, ix, none⟩ (.int .i64 ((v : Int) + 1))) := by
                refine ⟨bset hI2.below _ _ (by omega) _, ⟨hI2.pic.blk.grown st2 (by simp; omega), by have b2 := bset hI2.below g2 ix (by omega) (.int .i64 ((v : Int) + 1)); exact (HR0.out.below b2 (Nat.le_refl _)).more b2.size⟩, ?_, ?_, by rw [h1]; exact hI2.len, hI2.ne⟩
                · rw [h1]; exact hI2.col.kept st2 (.inr (by simp [Value.ownBlock]; exact hne))
                · rw [h2, List.map_set, ← HOP.out, ← HLd.out, ← hixe, ← hv]; exact st1
              have HNX := hide hnx
              clear hI2 hb hP5 hat hpl hm hix hcg hcl hv h1 h2 st1 st2 hnx hixe gl1 gl2 gc1 gc2 hne
              go_wp2_with fail
              go_roundw
              case rel => exact ⟨k + 1, g, c, g2, c2, j, by omega, by go_num, rfl, rfl, HNX.out⟩
              case measure => simp [intOf]; omega
            · rw [if_neg hm] at hat
              rw [hat] at hbj
              subst hbj
              have hnm : ¬ pix l k ∈ dl l k := fun h => hm (hpl.2 h)
              have hdn : dl l (k + 1) = dl l k ++ [o] := by
                show (if pix l k ∈ dl l k then dl l k else dl l k ++ [pix l k]) = _
                rw [if_neg hnm, HOP.out]
              have hcn := cntI_new hnm
              have HDN := hide hdn
              have HCN := hide hcn
              have HI2 := hide hI2
              have hszw := hbz
              clear hI2 hb hP5 hat hpl hm hdn hcn hnm
              go_wp2_with (first | (at_builtin; refine wpList_append_lies _ rfl _ _ _ rfl (w.heap.size + 1) 36 i0 _ 4 4 Try.underlying58 hi hz0 hz1 hz2 rfl (by omega) (.slice (some ⟨g, 0, none⟩) j c) j _ rfl (HI2.out.col.alloc _) ⟨wr.heap.size, 0, none⟩ 1 1 [.int .u8 o.r, .int .u8 o.g, .int .u8 o.b, .int .u8 o.a] rfl rfl (World.news_of_block (heap_alloc_new wr _)) (u8L_one [o.r, o.g, o.b, o.a]) (by omega) (by unfold maxLen; omega) (by omega) (by simp; omega) (wr.heap.size + 1) (by simp) ?_; intro g7 c7 w7 hown7 hg7 hat7 hlt7; have hcn7 := (HI2.out.cnt.alloc (.cells #[.int .u8 o.r, .int .u8 o.g, .int .u8 o.b, .int .u8 o.a] 36)).kept hg7 (.inr (by simp [Value.ownBlock]; exact fun e => hne e.symm)); have hz7 := hg7.size; simp only [World.size_alloc] at hz7) | (at_builtin; refine wpList_append_lies _ rfl _ _ _ rfl (w.heap.size + 1) 3 i3 _ 1 8 Try.underlying29 hi3 gz0 gz1 gz2 rfl (by omega) (.slice (some ⟨g2, 0, none⟩) j c2) j _ rfl (hcn7.alloc _) ⟨w7.heap.size, 0, none⟩ 1 1 [.int .i64 1] rfl rfl (World.news_of_block (heap_alloc_new w7 _)) (by intro u hu; simp at hu; subst hu; rfl) (by omega) (by unfold maxLen; omega) (by omega) (by simp; omega) (w7.heap.size + 1) (by simp) ?_; intro g8 c8 w8 hown8 hg8 hat8 hlt8))
              have hge7 : w.heap.size + 1 ≤ g7 := (own_gt hown7).1
              have hn7 : g7 ≠ g2 ∧ g7 ≠ g8 := by
                have h1 : g = g7 ∨ g7 = wr.heap.size + 1 := by simpa [Value.ownBlock] using hat7
                have h2 : g2 = g8 ∨ g8 = w7.heap.size + 1 := by simpa [Value.ownBlock] using hat8
                omega
              have hnx : RI w W H A l cap g7 c7 g8 c8 (j + 1) (k + 1) w8 := by
                have b1 : Below w.heap.size w w7 := (balloc HI2.out.below _).grown hg7 (by have := HI2.out.below.size; simp; omega) (fun q hq => by simp [Value.ownBlock] at hq; omega)
                refine ⟨(balloc b1 _).grown hg8 (by have := b1.size; simp; omega) (fun q hq => by simp [Value.ownBlock] at hq; omega), ⟨(((HI2.out.pic.blk.alloc _).grown hg7 (by simp [Value.ownBlock]; omega)).alloc _).grown hg8 (by simp [Value.ownBlock]; omega), ?_⟩, ?_, ?_, ?_, hn7.2⟩
                · have b2 : Below w.heap.size w w8 := (balloc b1 _).grown hg8 (by have := b1.size; simp; omega) (fun q hq => by simp [Value.ownBlock] at hq; omega)
                  exact (HR0.out.below b2 (Nat.le_refl _)).more b2.size
                · rw [HDN.out, bytesL_snoc, u8L_append]
                  exact (hown7.alloc _).kept hg8 (.inr (by simp [Value.ownBlock]; omega))
                · rw [HCN.out, List.map_append]; exact hown8
                · rw [HDN.out, List.length_append, ← HI2.out.len]; rfl
              have HNX := hide hnx
              clear hown7 hg7 hat7 hlt7 hown8 hg8 hat8 hlt8 hcn7 hnx hn7 hge7 hz7
              go_roundw
              case rel => exact ⟨k + 1, g7, c7, g8, c8, j + 1, by omega, by go_num, rfl, rfl, HNX.out⟩
              case measure => simp [intOf]; omega
    · have hkN : k = N := by omega
      subst hkN
      have HBW := hide hI.below
      have hml : m = (dl l k).length := hI.len
      have hmb : m ≤ 268435456 := by have := DL.out k; omega
      have hO1 : RO w l k g c g2 c2 wr.heap.size 0 m 0 (wr.alloc (.cells #[] 36)) := by
        have h1 := own_gt hI.col
        have h2 := own_gt hI.cnt
        refine ⟨balloc hI.below _, hI.col.alloc _, ?_, ?_, hI.ne, by omega, by omega⟩
        · rw [cntTI_zero]; exact hI.cnt.alloc _
        · exact own_empty _ _ 36 4 (by have := hI.below.size; have := hI.pic.blk.lt; omega) _ rfl
      have hpl : (popL l k).length = m := by rw [(popL_perm l k).length_eq, hml]
      obtain ⟨a0, a1, a2⟩ := hI.pic.cells
      have HO1 := hide hO1
      have HML := hide hml
      have HPL := hide hpl
      have hgb := own_gt hI.col
      clear hI hO1 hml hpl
      go_wp2_with fail
      go_loopw [11] (fun v wr2 => ∃ t g3 c3 : Nat, t ≤ m ∧ t ≤ n ∧ v = .slice (some ⟨g3, 0, none⟩) t c3 ∧ RO w l k g c g2 c2 g3 c3 m t wr2) (fun v _ => n - (lenV v))
      case atStart => exact ⟨0, _, _, Nat.zero_le _, Nat.zero_le _, rfl, HO1.out⟩
      case round =>
        clear HO1
        obtain ⟨t, g3, c3, htm, htn, rfl, hO⟩ := hrel
        by_cases hgo : t < n ∧ t < m
        · obtain ⟨h1, h2⟩ := hgo
          have h1z : (t : Int) < (n : Int) := by omega
          have h2z : (t : Int) < (m : Int) := by omega
          obtain ⟨U, rfl⟩ : ∃ U : World, U = wr := ⟨_, rfl⟩
          have HO := hide hO
          clear hO
          obtain ⟨f, hf⟩ : ∃ f, f = cntT l k t := ⟨_, rfl⟩
          have HF := hide hf
          clear hf
          have hfc : ∀ q, q < m → (cntTI l k t)[q]? = some (f q : Int) := fun q hq => by rw [HF.out]; exact cntTI_at (by rw [← HML.out]; exact hq)
          have HFC := hide hfc
          have hfb : ∀ q, f q ≤ 268435456 := fun q => by
            rw [HF.out]; unfold cntT; split
            · omega
            · have := cntN_le l ((dl l k).getD q ⟨0, 0, 0, 0⟩) k; omega
          have HFB := hide hfb
          clear hfc hfb
          go_wp2_with fail
          go_loopw [13, 12] (fun i b wr2 => ∃ (j : Nat) (b' : Value), 1 ≤ j ∧ j ≤ m ∧ i = .int .i64 j ∧ b' = b ∧ b' = .int .i64 (bestN f j : Nat) ∧ Below U.heap.size U wr2) (fun i _ _ => m - (intOf i).toNat)
          case atStart => exact ⟨1, _, Nat.le_refl _, by omega, rfl, rfl, by simp [bestN], Below.refl _ _⟩
          case round =>
            obtain ⟨j, b', hj1, hj, rfl, rfl, hbj, hb⟩ := hrel
            subst hbj
            obtain ⟨bt, hbt⟩ : ∃ bt, bt = bestN f j := ⟨_, rfl⟩
            have hbtl : bt < j := by rw [hbt]; exact bestN_lt f j hj1
            rw [← hbt]
            have hO2 := HO.out.next hb
            by_cases hltj : j < m
            · have hjr : (j : Int) < (m : Int) := by omega
              have hbr : (bt : Int) < (m : Int) := by omega
              have x0 := hO2.cnt.cellAt j (by omega)
              have x1 := hO2.cnt.cellAt bt (by omega)
              rw [List.getElem?_map, HFC.out j hltj] at x0
              rw [List.getElem?_map, HFC.out bt (by omega)] at x1
              simp only [Option.map_some] at x0 x1
              have HB := hide hb
              have hst : bestN f (j + 1) = if f bt < f j then j else bt := by rw [hbt]; rfl
              obtain ⟨fj, hfj⟩ : ∃ q, q = f j := ⟨_, rfl⟩
              obtain ⟨fb, hfb⟩ : ∃ q, q = f bt := ⟨_, rfl⟩
              rw [← hfj] at x0 hst
              rw [← hfb] at x1 hst
              have HST := hide hst
              clear hO2 hb hst hbt hfj hfb
              by_cases hlt2 : fb < fj
              · have d1 : decide ((fb : Int) < (fj : Int)) = true := decide_eq_true (by omega)
                have d2 : (fb : Int) < (fj : Int) := by omega
                have hs2 := HST.out
                rw [if_pos hlt2] at hs2
                have HS2 := hide hs2
                clear hs2 hlt2
                go_wp2_with fail
                go_quiet (fail)
                have hd : Below U.heap.size U (wr.drewN nq) := HB.out.trans ⟨rfl, rfl, rfl, Nat.le_refl _, fun _ _ => rfl⟩
                have HD := hide hd
                clear hd
                go_wp2_with fail
                go_roundw
                case rel => exact ⟨j + 1, _, by omega, by omega, by go_num, rfl, by rw [HS2.out], HD.out⟩
                case measure => simp [intOf]; omega
              · have d1 : decide ((fb : Int) < (fj : Int)) = false := decide_eq_false (by omega)
                have d2 : ¬ (fb : Int) < (fj : Int) := by omega
                have hs2 := HST.out
                rw [if_neg hlt2] at hs2
                have HS2 := hide hs2
                clear hs2 hlt2
                go_wp2_with fail
                go_quiet (fail)
                have hd : Below U.heap.size U (wr.drewN nq) := HB.out.trans ⟨rfl, rfl, rfl, Nat.le_refl _, fun _ _ => rfl⟩
                have HD := hide hd
                clear hd
                go_wp2_with fail
                go_roundw
                case rel => exact ⟨j + 1, _, by omega, by omega, by go_num, rfl, by rw [HS2.out], HD.out⟩
                case measure => simp [intOf]; omega
            · have hjm : j = m := by omega
              subst hjm
              obtain ⟨-, -, htr⟩ := TRow.of_own hO2.col
              obtain ⟨bc, oc, hbc, hat⟩ := cols_at htr.row (by rw [← HML.out]; omega)
              injection hbc with hbc; injection hbc with hbc hoc
              subst hbc hoc
              have hxk := hat.at_ bt (by rw [← HML.out]; exact hbtl)
              obtain ⟨q, hq⟩ : ∃ q, q = (dl l k).getD bt ⟨0, 0, 0, 0⟩ := ⟨_, rfl⟩
              rw [← hq] at hxk
              obtain ⟨x0, x1, x2, x3⟩ := hxk
              simp only [Nat.zero_add] at x0 x1 x2 x3
              have hbr : (bt : Int) < (j : Int) := by omega
              have hpop : q = (popL l k).getD t ⟨0, 0, 0, 0⟩ := by
                have h3 := pop_best (l := l) (N := k) (t := t) (by rw [← HML.out]; exact h2)
                rw [← HF.out, ← HML.out, ← hbt, ← hq] at h3
                exact h3
              have hci : cntTI l k (t + 1) = (cntTI l k t).set bt 0 := by
                have h3 := cntTI_succ (l := l) (N := k) (t := t) (by rw [← HML.out]; exact h2)
                rw [← HF.out, ← HML.out, ← hbt] at h3
                exact h3
              have htk : (popL l k).take (t + 1) = (popL l k).take t ++ [q] := by
                have h4 : t < (popL l k).length := by rw [HPL.out]; exact h2
                rw [List.take_succ_eq_append_getElem h4, hpop]
                simp [List.getD, h4]
              have HCI := hide hci
              have HTK := hide htk
              have HO2 := hide hO2
              have hbz : w.heap.size < wr.heap.size := by have := own_gt hO2.col; omega
              obtain ⟨gl1, gl2⟩ := own_gt hO2.col
              obtain ⟨gc1, gc2⟩ := own_gt hO2.cnt
              obtain ⟨go1, go2⟩ := own_gt hO2.out
              obtain ⟨ne1, ne2, ne3⟩ : g ≠ g2 ∧ g ≠ g3 ∧ g2 ≠ g3 := ⟨hO2.ne, hO2.ne3, hO2.ne4⟩
              clear hO2 hb htr hat hq hpop hci htk hbt
              go_wp2_with (at_builtin; refine wpList_append_lies _ rfl _ _ _ rfl (w.heap.size + 1) 36 i0 _ 4 4 Try.underlying58 hi hz0 hz1 hz2 rfl (by omega) (.slice (some ⟨g3, 0, none⟩) t c3) t _ rfl (HO2.out.out.alloc _) ⟨wr.heap.size, 0, none⟩ 1 1 [.int .u8 q.r, .int .u8 q.g, .int .u8 q.b, .int .u8 q.a] rfl rfl (World.news_of_block (heap_alloc_new wr _)) (u8L_one [q.r, q.g, q.b, q.a]) (by omega) (by unfold maxLen; omega) (by omega) (by simp; omega) (wr.heap.size + 1) (by simp) ?_; intro g7 c7 w7 hown7 hg7 hat7 hlt7; have hcn7 := (HO2.out.cnt.alloc (.cells #[.int .u8 q.r, .int .u8 q.g, .int .u8 q.b, .int .u8 q.a] 36)).kept hg7 (.inr (by simp [Value.ownBlock]; exact ne3)); have hvc := hcn7.cellAt bt (by omega); rw [List.getElem?_map, HFC.out bt hbtl] at hvc; simp only [Option.map_some] at hvc; have hfz := hcn7.frozenAt bt; have hz7 := hg7.size; simp only [World.size_alloc] at hz7)
              have hge7 : w.heap.size + 1 ≤ g7 := (own_gt hown7).1
              have hn7 : g7 ≠ g2 ∧ g7 ≠ g := by
                have h1 : g3 = g7 ∨ g7 = wr.heap.size + 1 := by simpa [Value.ownBlock] using hat7
                omega
              have hnx : RO w l k g c g2 c2 g7 c7 j (t + 1) (w7.setCell ⟨g2, bt, none⟩ (.int .i64 0)) := by
                have b1 : Below w.heap.size w w7 := (balloc HO2.out.below _).grown hg7 (by have := HO2.out.below.size; simp; omega) (fun q hq => by simp [Value.ownBlock] at hq; omega)
                obtain ⟨st1, st2⟩ := hcn7.stored bt (.int .i64 0)
                refine ⟨bset b1 _ _ (by omega) _, ((HO2.out.col.alloc _).kept hg7 (.inr (by simp [Value.ownBlock]; exact ne2))).kept st2 (.inr (by simp [Value.ownBlock]; exact ne1)), ?_, ?_, ne1, fun e => hn7.2 e.symm, fun e => hn7.1 e.symm⟩
                · rw [HCI.out, List.map_set]; exact st1
                · rw [HTK.out, bytesL_snoc, u8L_append]
                  exact hown7.kept st2 (.inr (by simp [Value.ownBlock]; exact hn7.1))
              have HNX := hide hnx
              clear hown7 hg7 hat7 hlt7 hcn7 hnx hn7 hge7 hz7
              go_roundw
              case rel => exact ⟨t + 1, g7, c7, by omega, by omega, rfl, HNX.out⟩
              case measure => simp [lenV]; omega
        · have hgo2 : ¬ t < n ∨ (t < n ∧ ¬ t < m) := by omega
          have htk : (popL l k).take t = (popL l k).take n := by
            rcases hgo2 with h | ⟨h, h3⟩
            · rw [show t = n by omega]
            · rw [List.take_of_length_le (by rw [HPL.out]; omega), List.take_of_length_le (by rw [HPL.out]; omega)]
          have hqe : t = ((popL l k).take n).length := by rw [← htk, List.length_take, HPL.out]; omega
          obtain ⟨-, q1, q2⟩ := TRow.of_own hO.out
          rw [htk] at q1 q2
          rw [← hqe] at q1
          have HQ1 := hide q1
          have HQ2 := hide q2
          have HQE := hide hqe
          have HB := hide hO.below
          clear hO q1 q2 hqe htk
          rcases hgo2 with h1 | ⟨h1, h2⟩
          · go_wp2_with fail
            go_ret
            exact ⟨g3, c3, t, rfl, HQE.out, HQ1.out, HQ2.out, HB.out⟩
          · go_wp2_with fail
            go_ret
            exact ⟨g3, c3, t, rfl, HQE.out, HQ1.out, HQ2.out, HB.out⟩
end
end Go.Proofs.Ytkjnheikimpliaa
