/-
  Words for memory that the walks of this seat use: a slice that reads as a list of rows of cells. Nothing of the program stands here.
-/
import Derived.WalkKit
import Derived.WalkSpells
import Derived.WalkLawsBesides
import Derived.BigQuiet
import Derived.Lib.Hide
import Derived.Deep.QuietTactic
namespace Go.Proofs.Ytpmiafnccjejnaa
open Go.RowKit

theorem ret_int {k : IntKind} {a b : Int} (h : a = b) : Ending.returned (.int k a) = .returned (.int k b) := by rw [h]
theorem ret_bool {a b : Bool} (h : a = b) : Ending.returned (.bool a) = .returned (.bool b) := by rw [h]
theorem ret_int2 {k l : IntKind} {a b c d : Int} (h : a = b) (g : c = d) : Ending.returned (.tuple #[.int k a, .int l c]) = .returned (.tuple #[.int k b, .int l d]) := by rw [h, g]
theorem ret_intb {k : IntKind} {a b : Int} {c d : Bool} (h : a = b) (g : c = d) : Ending.returned (.tuple #[.int k a, .bool c]) = .returned (.tuple #[.int k b, .bool d]) := by rw [h, g]

def imin (a b : Int) : Int := if b < a then b else a
def imax (a b : Int) : Int := if a < b then b else a
/-- 'max' and 'min' of two ints under one name each, so that the walk does not part on them: laid ahead of a walk. -/
theorem run_imax {P : Program} (w : World) (ts : Array TypeId) (t : TypeId) (x y : Int) : (Builtin.max_ ts t #[.int .i64 x, .int .i64 y]).run P w = .ok (.int .i64 (imax x y)) w := by
  rw [run_max_int2]; rfl
theorem run_imin {P : Program} (w : World) (ts : Array TypeId) (t : TypeId) (x y : Int) : (Builtin.min_ ts t #[.int .i64 x, .int .i64 y]).run P w = .ok (.int .i64 (imin x y)) w := by
  rw [run_min_int2]; rfl

theorem below_drewN {B : Nat} {a w : World} (h : Below B a w) (n : Nat) : Below B a (w.drewN n) := ⟨h.os, h.tape, h.output, h.size, h.block⟩

/-- A slice's address A: the elements, k cells each, are xs; the block is from lo on. -/
def Sl (w : World) (lo k : Nat) (A : Option Addr) (xs : List (List Value)) : Prop :=
  0 < xs.length → ∃ b off, A = some ⟨b, off, none⟩ ∧ lo ≤ b ∧ b < w.heap.size ∧ ∀ i x, xs[i]? = some x → ∀ j u, x[j]? = some u → w.cell? ⟨b, off + i * k + j, none⟩ = some u

section
variable {w w' : World} {lo lo' k : Nat} {A : Option Addr} {xs : List (List Value)}
theorem Sl.none_ : Sl w lo k A [] := fun h => absurd h (by simp)
theorem Sl.at_ (h : Sl w lo k A xs) {i : Nat} {x : List Value} (hx : xs[i]? = some x) :
    ∃ b off, A = some ⟨b, off, none⟩ ∧ lo ≤ b ∧ b < w.heap.size ∧ ∀ j u, x[j]? = some u → w.cell? ⟨b, off + i * k + j, none⟩ = some u := by
  have hl : i < xs.length := (List.getElem?_eq_some_iff.1 hx).1
  obtain ⟨b, off, e, h1, h2, hc⟩ := h (by omega)
  exact ⟨b, off, e, h1, h2, hc i x hx⟩
theorem Sl.low (h : Sl w lo k A xs) (hl : lo' ≤ lo) : Sl w lo' k A xs := fun hp => by
  obtain ⟨b, off, e, h1, h2, hc⟩ := h hp
  exact ⟨b, off, e, by omega, h2, hc⟩
theorem Sl.grown (h : Sl w lo k A xs) {row : Option Nat} (hg : w.grownBy w' row) (hr : ∀ g, row = some g → g < lo) : Sl w' lo k A xs := fun hp => by
  obtain ⟨b, off, e, h1, h2, hc⟩ := h hp
  refine ⟨b, off, e, h1, Nat.lt_of_lt_of_le h2 hg.size, fun i x hx j u hu => ?_⟩
  exact (World.cell?_of_block (hg.block b h2 (fun e => by have := hr b e.symm; omega))).trans (hc i x hx j u hu)
theorem Sl.below (h : Sl w lo k A xs) (hb : Below w.heap.size w w') : Sl w' lo k A xs := fun hp => by
  obtain ⟨b, off, e, h1, h2, hc⟩ := h hp
  exact ⟨b, off, e, h1, Nat.lt_of_lt_of_le h2 hb.size, fun i x hx j u hu => (hb.cell (p := ⟨b, _, none⟩) h2).trans (hc i x hx j u hu)⟩
theorem Sl.drewN (h : Sl w lo k A xs) (n : Nat) : Sl (w.drewN n) lo k A xs := h
end

def V1 (x : Int) : List Value := [.int .i64 x]
def Ints (w : World) (lo : Nat) (A : Option Addr) (xs : List Int) : Prop := Sl w lo 1 A (xs.map V1)

section
variable {w w' : World} {lo lo' : Nat} {A : Option Addr} {xs : List Int}
theorem Ints.below (h : Ints w lo A xs) (hb : Below w.heap.size w w') : Ints w' lo A xs := Sl.below h hb
theorem Ints.grown (h : Ints w lo A xs) {row : Option Nat} (hg : w.grownBy w' row) (hr : ∀ g, row = some g → g < lo) : Ints w' lo A xs := Sl.grown h hg hr
theorem Ints.low (h : Ints w lo A xs) (hl : lo' ≤ lo) : Ints w lo' A xs := Sl.low h hl
theorem Ints.at_ (h : Ints w lo A xs) {i : Nat} {x : Int} (hx : xs[i]? = some x) : ∃ b off, A = some ⟨b, off, none⟩ ∧ lo ≤ b ∧ b < w.heap.size ∧ w.cell? ⟨b, off + i, none⟩ = some (.int .i64 x) := by
  obtain ⟨b, off, e, h1, h2, hc⟩ := Sl.at_ (i := i) (x := V1 x) h (by simp [hx])
  exact ⟨b, off, e, h1, h2, by simpa using hc 0 _ rfl⟩
end

/-- A struct of two ints. -/
structure P2 where
  a : Int
  b : Int
def P2.cells (p : P2) : List Value := [.int .i64 p.a, .int .i64 p.b]
def Pairs (w : World) (lo : Nat) (A : Option Addr) (xs : List P2) : Prop := Sl w lo 2 A (xs.map P2.cells)

section
variable {w w' : World} {lo lo' : Nat} {A : Option Addr} {xs : List P2}
theorem Pairs.below (h : Pairs w lo A xs) (hb : Below w.heap.size w w') : Pairs w' lo A xs := Sl.below h hb
theorem Pairs.grown (h : Pairs w lo A xs) {row : Option Nat} (hg : w.grownBy w' row) (hr : ∀ g, row = some g → g < lo) : Pairs w' lo A xs := Sl.grown h hg hr
theorem Pairs.low (h : Pairs w lo A xs) (hl : lo' ≤ lo) : Pairs w lo' A xs := Sl.low h hl
theorem Pairs.at_ (h : Pairs w lo A xs) {i : Nat} {x : P2} (hx : xs[i]? = some x) : ∃ b off, A = some ⟨b, off, none⟩ ∧ lo ≤ b ∧ b < w.heap.size ∧ w.cell? ⟨b, off + i * 2, none⟩ = some (.int .i64 x.a) ∧ w.cell? ⟨b, off + i * 2 + 1, none⟩ = some (.int .i64 x.b) := by
  obtain ⟨b, off, e, h1, h2, hc⟩ := Sl.at_ (i := i) (x := P2.cells x) h (by simp [hx])
  exact ⟨b, off, e, h1, h2, by simpa using hc 0 _ rfl, hc 1 _ rfl⟩
end

theorem drop_cons {α : Type} {xs : List α} {i : Nat} (h : i < xs.length) : ∃ x, xs[i]? = some x ∧ xs.drop i = x :: xs.drop (i + 1) :=
  ⟨xs[i], List.getElem?_eq_getElem h, List.drop_eq_getElem_cons h⟩

/-- The walk's frame of old memory behind new blocks. -/
theorem bcell {W w1 : World} (hb : Below W.heap.size W w1) : (∀ b o, b < W.heap.size → w1.cell? ⟨b, o, none⟩ = W.cell? ⟨b, o, none⟩) ∧ (∀ b o, b < W.heap.size → w1.frozen? ⟨b, o, none⟩ = W.frozen? ⟨b, o, none⟩) :=
  ⟨fun b o h => hb.cell (p := ⟨b, o, none⟩) h, fun b o h => hb.frozen (p := ⟨b, o, none⟩) h⟩

end Go.Proofs.Ytpmiafnccjejnaa
