/-
  The world behind 'c := api.Choice{..}' in window.Evaluate, whatever the order of its operations.
-/
import Derived.Test.YtjbaildaifdgiaaEvalDef
import Derived.Test.YtjbaildaifdgiaaSameW
import Derived.Test.YtjbaildaifdgiaaMWin
import Derived.Test.YtjbaildaifdgiaaSpans
namespace Go.Proofs.Ytjbaildaifdgiaa
open Go.RowKit
set_option linter.unusedVariables false

def CutR (w4 : World) (nw g : Nat) (G : Option Addr) (ws : List Win) (bc g2 : Nat) (v1 : Value) (wc : World) : Prop :=
  wc.heap[bc]? = some (.cells #[v1, .slice G nw g, .slice (some ⟨g2, 0, none⟩) nw nw, .int .i64 0] 59 (0, 0)) ∧ wc.rowIs g2 3 nw (fun _ => .int .i64 0) ∧ wc.ownsRow w4.heap.size 69 3 v1 nw (ws.flatMap Win.cells) ∧ Below w4.heap.size w4 wc ∧ w4.heap.size ≤ bc ∧ w4.heap.size ≤ g2

abbrev rowO (nw : Nat) : Obj := .cells (madeCells #[.int .i64 0] nw) 3
abbrev zeroO : Obj := .cells #[.slice none 0 0, .slice none 0 0, .slice none 0 0, .int .i64 0] 59
abbrev choO (v1 : Value) (G : Option Addr) (nw g g2 : Nat) : Obj := .cells #[v1, .slice G nw g, .slice (some ⟨g2, 0, none⟩) nw nw, .int .i64 0] 59
abbrev set4 (W : World) (bc : Nat) (v1 : Value) (G : Option Addr) (nw g g2 : Nat) : World :=
  (((W.setCell ⟨bc, 0, none⟩ v1).setCell ⟨bc, 1, none⟩ (.slice G nw g)).setCell ⟨bc, 2, none⟩ (.slice (some ⟨g2, 0, none⟩) nw nw)).setCell ⟨bc, 3, none⟩ (.int .i64 0)
theorem set4_same {W : World} {bc : Nat} {v1 : Value} {G : Option Addr} {nw g g2 : Nat} (h : W.heap[bc]? = some zeroO) : (set4 W bc v1 G nw g g2).heap[bc]? = some (choO v1 G nw g g2) := by
  unfold set4; simp [World.setCell, Array.getElem?_modify, h]
theorem set4_other {W : World} {bc : Nat} {v1 : Value} {G : Option Addr} {nw g g2 : Nat} {k : Nat} (h : k ≠ bc) : (set4 W bc v1 G nw g g2).heap[k]? = W.heap[k]? := by
  unfold set4
  rw [Below.heap_setCell _ _ _ _ h, Below.heap_setCell _ _ _ _ h, Below.heap_setCell _ _ _ _ h, Below.heap_setCell _ _ _ _ h]
theorem set4_size (W : World) (bc : Nat) (v1 : Value) (G : Option Addr) (nw g g2 : Nat) : (set4 W bc v1 G nw g g2).heap.size = W.heap.size := by
  unfold set4; simp [World.setCell]
theorem set4_below {w4 W : World} {bc : Nat} {v1 : Value} {G : Option Addr} {nw g g2 : Nat} (h : Below w4.heap.size w4 W) (hb : w4.heap.size ≤ bc) : Below w4.heap.size w4 (set4 W bc v1 G nw g g2) :=
  (((h.setCell hb _).setCell hb _).setCell hb _).setCell hb _
theorem set1_own {W : World} {bc o base : Nat} {v u : Value} {n s : Nat} {e : TypeId} {xs : List Value} (h : W.ownsRow base e s v n xs) (hf : bc < base) : (W.setCell ⟨bc, o, none⟩ u).ownsRow base e s v n xs :=
  h.kept (row := some bc) (only_setCell (only_refl _ _) (.inl rfl) _) (own_far h hf)
theorem set4_own {W : World} {bc base : Nat} {v1 v : Value} {G : Option Addr} {nw g g2 n s : Nat} {e : TypeId} {xs : List Value} (h : W.ownsRow base e s v n xs) (hf : bc < base) : (set4 W bc v1 G nw g g2).ownsRow base e s v n xs := by
  unfold set4
  exact set1_own (set1_own (set1_own (set1_own h hf) hf) hf) hf

variable {w4 w5 X : World} {nw g : Nat} {G : Option Addr} {ws : List Win} {v1 : Value}

/-- The clone first, then the row, then the box. -/
theorem cut1 (hb : Below w4.drew.heap.size w4.drew w5) (hv : w5.ownsRow w4.drew.heap.size 69 3 v1 nw (ws.flatMap Win.cells)) :
    CutR w4 nw g G ws (w5.heap.size + 1) w5.heap.size v1 ((w5.alloc (rowO nw)).alloc (choO v1 G nw g w5.heap.size)) := by
  have hB : Below w4.heap.size w4 w5 := (Below.refl _ _).drew.trans hb
  have hs := hB.size
  refine ⟨?_, ?_, ?_, ?_, by omega, hs⟩
  · have h := heap_alloc_new (w5.alloc (rowO nw)) (choO v1 G nw g w5.heap.size)
    have e : (w5.alloc (rowO nw)).heap.size = w5.heap.size + 1 := by simp
    rw [e] at h; exact h
  · exact World.rowIs.of_block (World.rowIs_made w5 _ nw _) (Below.heap_alloc _ _ _ (by simp))
  · exact own_below hv (((Below.refl _ _).alloc (Nat.le_refl _) _).alloc (by simp) _)
  · exact (hB.alloc hs _).alloc (by simp; omega) _
theorem cut2 (hb : Below w4.drew.heap.size w4.drew w5) (hv : w5.ownsRow w4.drew.heap.size 69 3 v1 nw (ws.flatMap Win.cells)) :
    CutR w4 nw g G ws w5.heap.size (w5.heap.size + 1) v1 ((w5.alloc (choO v1 G nw g (w5.heap.size + 1))).alloc (rowO nw)) := by
  have hB : Below w4.heap.size w4 w5 := (Below.refl _ _).drew.trans hb
  have hs := hB.size
  refine ⟨?_, ?_, ?_, ?_, hs, by omega⟩
  · exact (Below.heap_alloc _ _ _ (by simp)).trans (heap_alloc_new _ _)
  · have h := World.rowIs_made (w5.alloc (choO v1 G nw g (w5.heap.size + 1))) (.int .i64 0) nw 3
    have e : (w5.alloc (choO v1 G nw g (w5.heap.size + 1))).heap.size = w5.heap.size + 1 := by simp
    rw [e] at h; exact h
  · exact own_below hv (((Below.refl _ _).alloc (Nat.le_refl _) _).alloc (by simp) _)
  · exact (hB.alloc hs _).alloc (by simp; omega) _
theorem cut3 (hb : Below (w4.alloc (rowO nw)).drew.heap.size (w4.alloc (rowO nw)).drew w5) (hv : w5.ownsRow (w4.alloc (rowO nw)).drew.heap.size 69 3 v1 nw (ws.flatMap Win.cells)) :
    CutR w4 nw g G ws w5.heap.size w4.heap.size v1 (w5.alloc (choO v1 G nw g w4.heap.size)) := by
  have hX : Below w4.heap.size w4 (w4.alloc (rowO nw)).drew := ((Below.refl _ _).alloc (Nat.le_refl _) _).drew
  have hB : Below w4.heap.size w4 w5 := hX.trans (hb.mono hX.size)
  have hs := hB.size
  have hlt : w4.heap.size < w5.heap.size := by have := hb.size; simp at this; omega
  refine ⟨heap_alloc_new _ _, ?_, ?_, hB.alloc hs _, hs, Nat.le_refl _⟩
  · refine World.rowIs.of_block (World.rowIs_made w4 _ nw _) ((Below.heap_alloc _ _ _ hlt).trans (hb.block _ (by simp)))
  · exact own_mono (own_below hv ((Below.refl _ _).alloc (Nat.le_refl _) _)) hX.size
theorem cut4 (hb : Below ((w4.alloc (rowO nw)).alloc zeroO).drew.heap.size ((w4.alloc (rowO nw)).alloc zeroO).drew w5) (hv : w5.ownsRow ((w4.alloc (rowO nw)).alloc zeroO).drew.heap.size 69 3 v1 nw (ws.flatMap Win.cells)) :
    CutR w4 nw g G ws (w4.heap.size + 1) w4.heap.size v1 (set4 w5 (w4.heap.size + 1) v1 G nw g w4.heap.size) := by
  have hX : Below w4.heap.size w4 ((w4.alloc (rowO nw)).alloc zeroO).drew := (((Below.refl _ _).alloc (Nat.le_refl _) _).alloc (by simp) _).drew
  have hB : Below w4.heap.size w4 w5 := hX.trans (hb.mono hX.size)
  have e : (w4.alloc (rowO nw)).heap.size = w4.heap.size + 1 := by simp
  refine ⟨set4_same ?_, ?_, ?_, set4_below hB (by omega), by omega, Nat.le_refl _⟩
  · refine (hb.block _ (by simp)).trans ?_
    have h := heap_alloc_new (w4.alloc (rowO nw)) zeroO
    rw [e] at h; exact h
  · refine World.rowIs.of_block (World.rowIs_made w4 _ nw _) ((set4_other (by omega)).trans ((hb.block _ (by simp; omega)).trans ?_))
    exact Below.heap_alloc _ _ _ (by simp)
  · exact own_mono (set4_own hv (by simp)) hX.size
theorem cut5 (hb : Below (w4.alloc zeroO).drew.heap.size (w4.alloc zeroO).drew w5) (hv : w5.ownsRow (w4.alloc zeroO).drew.heap.size 69 3 v1 nw (ws.flatMap Win.cells)) :
    CutR w4 nw g G ws w4.heap.size w5.heap.size v1 ((set4 w5 w4.heap.size v1 G nw g w5.heap.size).alloc (rowO nw)) := by
  have hX : Below w4.heap.size w4 (w4.alloc zeroO).drew := ((Below.refl _ _).alloc (Nat.le_refl _) _).drew
  have hB : Below w4.heap.size w4 w5 := hX.trans (hb.mono hX.size)
  have hs := hB.size
  have hlt : w4.heap.size < w5.heap.size := by have := hb.size; simp at this; omega
  refine ⟨?_, ?_, ?_, ?_, Nat.le_refl _, hs⟩
  · exact (Below.heap_alloc _ _ _ (by rw [set4_size]; exact hlt)).trans (set4_same ((hb.block _ (by simp)).trans (heap_alloc_new _ _)))
  · have h := World.rowIs_made (set4 w5 w4.heap.size v1 G nw g w5.heap.size) (.int .i64 0) nw 3
    rw [set4_size] at h; exact h
  · exact own_mono (own_below (set4_own hv (by simp)) ((Below.refl _ _).alloc (Nat.le_refl _) _)) hX.size
  · exact (set4_below hB (Nat.le_refl _)).alloc (by rw [set4_size]; exact hs) _
theorem cut6 (hb : Below ((w4.alloc zeroO).alloc (rowO nw)).drew.heap.size ((w4.alloc zeroO).alloc (rowO nw)).drew w5) (hv : w5.ownsRow ((w4.alloc zeroO).alloc (rowO nw)).drew.heap.size 69 3 v1 nw (ws.flatMap Win.cells)) :
    CutR w4 nw g G ws w4.heap.size (w4.heap.size + 1) v1 (set4 w5 w4.heap.size v1 G nw g (w4.heap.size + 1)) := by
  have hX : Below w4.heap.size w4 ((w4.alloc zeroO).alloc (rowO nw)).drew := (((Below.refl _ _).alloc (Nat.le_refl _) _).alloc (by simp) _).drew
  have hB : Below w4.heap.size w4 w5 := hX.trans (hb.mono hX.size)
  have e : (w4.alloc zeroO).heap.size = w4.heap.size + 1 := by simp
  refine ⟨set4_same ?_, ?_, ?_, set4_below hB (Nat.le_refl _), Nat.le_refl _, by omega⟩
  · exact (hb.block _ (by simp; omega)).trans ((Below.heap_alloc _ _ _ (by simp)).trans (heap_alloc_new _ _))
  · have h := World.rowIs_made (w4.alloc zeroO) (.int .i64 0) nw 3
    rw [e] at h
    exact World.rowIs.of_block h ((set4_other (by omega)).trans (hb.block _ (by simp)))
  · exact own_mono (set4_own hv (by simp; omega)) hX.size

end Go.Proofs.Ytjbaildaifdgiaa
