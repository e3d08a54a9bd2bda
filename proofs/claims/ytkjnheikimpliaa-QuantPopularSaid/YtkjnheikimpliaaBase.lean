/- Small facts for all walks: hidden facts, returned values, rows of cells that read as lists of numbers. -/
import Derived.Test.YtkjnheikimpliaaShelf
import Derived.WalkKit
import Derived.WalkSpells
import Derived.WalkLawsBesides
namespace Go.Proofs.Ytkjnheikimpliaa
set_option linter.unusedVariables false
set_option linter.unusedSimpArgs false
open Go.RowKit

theorem hide {p : Prop} (h : p) : Hid p := h
theorem ret_bool {a b : Bool} (h : a = b) : Ending.returned (.bool a) = .returned (.bool b) := by rw [h]
theorem ret_int {k : IntKind} {a b : Int} (h : a = b) : Ending.returned (.int k a) = .returned (.int k b) := by rw [h]
theorem and_false_of {a b : Bool} (h : ¬ (a = true ∧ b = true)) : (a && b) = false := by
  cases a <;> cases b <;> simp_all
theorem or_of_not {a b : Bool} (h : ¬ (a = true ∧ b = true)) : a = false ∨ b = false := by
  cases a <;> cases b <;> simp_all

/-- All cells and marks of the blocks below a number read as before. -/
theorem bcell {B : Nat} {W w1 : World} (hb : Below B W w1) : (∀ b o, b < B → w1.cell? ⟨b, o, none⟩ = W.cell? ⟨b, o, none⟩) ∧ (∀ b o, b < B → w1.frozen? ⟨b, o, none⟩ = W.frozen? ⟨b, o, none⟩) :=
  ⟨fun b o h => hb.cell (p := ⟨b, o, none⟩) h, fun b o h => hb.frozen (p := ⟨b, o, none⟩) h⟩

theorem below_alloc (w : World) (o : Obj) : Below w.heap.size w (w.alloc o) := (Below.refl _ _).alloc (Nat.le_refl _) o
/-- One step more. -/
theorem bstep {w a b : World} (h : Below w.heap.size w a) (k : Below a.heap.size a b) : Below w.heap.size w b := h.trans (k.mono h.size)
/-- One step more, of which less is known. -/
theorem bstep' {B : Nat} {w a b : World} (h : Below w.heap.size w a) (k : Below B a b) (hB : w.heap.size ≤ B) : Below w.heap.size w b := h.trans (k.mono hB)
theorem bset {w a : World} (h : Below w.heap.size w a) (b o : Nat) (hb : w.heap.size ≤ b) (u : Value) : Below w.heap.size w (a.setCell ⟨b, o, none⟩ u) := h.setCell (p := ⟨b, o, none⟩) hb u
theorem balloc {w a : World} (h : Below w.heap.size w a) (o : Obj) : Below w.heap.size w (a.alloc o) := h.alloc h.size o

/-- Does a number fit an int? -/
def I64 (x : Int) : Prop := -9223372036854775808 ≤ x ∧ x ≤ 9223372036854775807
/-- Are all numbers bytes? -/
def U8s (l : List Int) : Prop := ∀ z ∈ l, 0 ≤ z ∧ z ≤ 255
/-- A colour. -/
structure Col where
  r : Int
  g : Int
  b : Int
  a : Int
/-- Are its channels bytes? -/
def Col.ok (c : Col) : Prop := (0 ≤ c.r ∧ c.r ≤ 255) ∧ (0 ≤ c.g ∧ c.g ≤ 255) ∧ (0 ≤ c.b ∧ c.b ≤ 255) ∧ (0 ≤ c.a ∧ c.a ≤ 255)
/-- A colour as a value. -/
abbrev colV (c : Col) : Value := .agg #[.int .u8 c.r, .int .u8 c.g, .int .u8 c.b, .int .u8 c.a]

/-- A slice's cells, below block B, read as the numbers l of a kind. -/
def RowAt (w : World) (B : Nat) (k : IntKind) (A : Option Addr) (l : List Int) : Prop :=
  ∀ i, i < l.length → ∃ b off, A = some ⟨b, off, none⟩ ∧ b < B ∧ w.cell? ⟨b, off + i, none⟩ = some (.int k (l.getD i 0))
theorem RowAt.below {w w' : World} {B B' : Nat} {k : IntKind} {A : Option Addr} {l : List Int} (h : RowAt w B k A l) (hb : Below B' w w') (hB : B ≤ B') : RowAt w' B k A l := fun i hi => by
  obtain ⟨b, off, hA, hlt, hc⟩ := h i hi
  exact ⟨b, off, hA, hlt, (hb.cell (p := ⟨b, off + i, none⟩) (Nat.lt_of_lt_of_le hlt hB)).trans hc⟩
theorem RowAt.more {w : World} {B B' : Nat} {k : IntKind} {A : Option Addr} {l : List Int} (h : RowAt w B k A l) (hB : B ≤ B') : RowAt w B' k A l := fun i hi => by
  obtain ⟨b, off, hA, hlt, hc⟩ := h i hi
  exact ⟨b, off, hA, by omega, hc⟩

/-- A slice's cells, in blocks from lo on, read as the numbers l of a kind. -/
def RowNew (w : World) (lo : Nat) (k : IntKind) (A : Option Addr) (l : List Int) : Prop :=
  ∀ i, i < l.length → ∃ b off, A = some ⟨b, off, none⟩ ∧ lo ≤ b ∧ b < w.heap.size ∧ w.cell? ⟨b, off + i, none⟩ = some (.int k (l.getD i 0))
theorem RowNew.row {w : World} {lo : Nat} {k : IntKind} {A : Option Addr} {l : List Int} (h : RowNew w lo k A l) : RowAt w w.heap.size k A l := fun i hi => by
  obtain ⟨b, off, hA, _, hlt, hc⟩ := h i hi
  exact ⟨b, off, hA, hlt, hc⟩
theorem RowNew.less {w : World} {lo lo' : Nat} {k : IntKind} {A : Option Addr} {l : List Int} (h : RowNew w lo k A l) (hl : lo' ≤ lo) : RowNew w lo' k A l := fun i hi => by
  obtain ⟨b, off, hA, h1, hlt, hc⟩ := h i hi
  exact ⟨b, off, hA, by omega, hlt, hc⟩
theorem RowNew.set {w : World} {lo : Nat} {k : IntKind} {A : Option Addr} {l : List Int} (h : RowNew w lo k A l) (b o : Nat) (hb : b < lo) (u : Value) : RowNew (w.setCell ⟨b, o, none⟩ u) lo k A l := fun i hi => by
  obtain ⟨g, off, hA, h1, hlt, hc⟩ := h i hi
  exact ⟨g, off, hA, h1, by simpa [World.setCell] using hlt, (World.cell?_setCell_other w ⟨b, o, none⟩ ⟨g, off + i, none⟩ u (fun e => by injection e with e; omega)).trans hc⟩
theorem RowNew.below {w w' : World} {lo : Nat} {k : IntKind} {A : Option Addr} {l : List Int} (h : RowNew w lo k A l) (hb : Below w.heap.size w w') : RowNew w' lo k A l := fun i hi => by
  obtain ⟨g, off, hA, h1, hlt, hc⟩ := h i hi
  exact ⟨g, off, hA, h1, Nat.lt_of_lt_of_le hlt hb.size, (hb.cell (p := ⟨g, off + i, none⟩) hlt).trans hc⟩

/-- An image's bytes, in memory from lo on. -/
def ImgNew (w : World) (lo : Nat) (A : Option Addr) (cap : Nat) (l : List Int) : Prop := RowNew w lo .u8 A l ∧ l.length ≤ cap
theorem ImgNew.less {w : World} {lo lo' : Nat} {A : Option Addr} {cap : Nat} {l : List Int} (h : ImgNew w lo A cap l) (hl : lo' ≤ lo) : ImgNew w lo' A cap l := ⟨h.1.less hl, h.2⟩
theorem ImgNew.set {w : World} {lo : Nat} {A : Option Addr} {cap : Nat} {l : List Int} (h : ImgNew w lo A cap l) (b o : Nat) (hb : b < lo) (u : Value) : ImgNew (w.setCell ⟨b, o, none⟩ u) lo A cap l := ⟨h.1.set b o hb u, h.2⟩
theorem ImgNew.below {w w' : World} {lo : Nat} {A : Option Addr} {cap : Nat} {l : List Int} (h : ImgNew w lo A cap l) (hb : Below w.heap.size w w') : ImgNew w' lo A cap l := ⟨h.1.below hb, h.2⟩
theorem ImgNew.alloc {w : World} {lo : Nat} {A : Option Addr} {cap : Nat} {l : List Int} (h : ImgNew w lo A cap l) (o : Obj) : ImgNew (w.alloc o) lo A cap l := h.below (below_alloc w o)
theorem ImgNew.row {w : World} {lo : Nat} {A : Option Addr} {cap : Nat} {l : List Int} (h : ImgNew w lo A cap l) : RowAt w w.heap.size .u8 A l := h.1.row

/-- A call of a function that has a body enters it. -/
theorem enters_of {P : Program} {g : FuncId} {fn : Func} {c : Code} (hf : P.funcs[g]? = some fn) (hn : (fn.name == "runtime.NumGoroutine") = false) (hb : fn.body = some c) (args : Array Value) (w : World) : (callFunc g args).run P w = .ok (.enter g args) w := by
  have h1 : fn.name ≠ "runtime.NumGoroutine" := by simpa using hn
  simp [callFunc, hf, h1, hb]
end Go.Proofs.Ytkjnheikimpliaa
