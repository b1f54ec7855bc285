/-
  Rows of a call's own behind the library's sort: the row put anew, cut, and the blocks that were made beside.
-/
import Derived.Test.YtpmiafnccjejnaaOwn
import Derived.Sort.Grow
namespace Go.Proofs.Ytpmiafnccjejnaa
open Go.RowKit Go.Sort
set_option linter.unusedVariables false

theorem grown_grow (w : World) (os : Array Obj) : w.grownBy (Sort.grow w os) none :=
  ⟨rfl, rfl, rfl, by simp [Sort.grow], fun k hk _ => by simp only [Sort.grow]; rw [Array.getElem?_append_left hk]⟩
theorem heap_putRow {α : Type} [Inhabited α] (enc : α → Value) (w : World) (q blk off : Nat) (d : Array α) (k : Nat) : (putRow enc (Sort.ahead w q) blk off d).heap[k]? = if blk = k then (w.heap[k]?).map (onCells (putCells enc off d)) else w.heap[k]? := by
  unfold putRow mapBlock
  simp [Array.getElem?_modify]
theorem grown_putRow {α : Type} [Inhabited α] (enc : α → Value) (w : World) (q blk off : Nat) (d : Array α) : w.grownBy (putRow enc (Sort.ahead w q) blk off d) (some blk) :=
  ⟨rfl, rfl, rfl, by simp, fun k hk hne => by rw [heap_putRow, if_neg (fun h => hne (by rw [h]))]⟩
theorem flat_V1 (ys : List Int) : ys.flatMap V1 = ys.map (Value.int .i64) := by
  induction ys with
  | nil => rfl
  | cons y ys ih => simp [V1, ih]
theorem holds_of_own {w : World} {base g n cap : Nat} {e : TypeId} {zs : List Int} (h : w.ownsRow base e 1 (.slice (some ⟨g, 0, none⟩) n cap) n (zs.flatMap V1)) (hn : n = zs.length) : Holds (Value.int .i64) w g 0 zs.toArray := by
  intro j hj
  have hj' : j < zs.length := by simpa using hj
  subst hn
  refine ⟨?_, ?_⟩
  · rw [Nat.zero_add, h.cellAt j (by omega), flat_V1, List.getElem?_map, List.getElem?_eq_getElem hj']
    simp [getElem!_pos, hj']
  · rw [Nat.zero_add]; exact h.frozenAt j
theorem own_putRow {w : World} {base g n cap q : Nat} {e : TypeId} {xs : List Value} (h : w.ownsRow base e 1 (.slice (some ⟨g, 0, none⟩) n cap) n xs) (ys : List Int) (hy : ys.length = n) :
    (putRow (Value.int .i64) (Sort.ahead w q) g 0 ys.toArray).ownsRow base e 1 (.slice (some ⟨g, 0, none⟩) n cap) n (ys.flatMap V1) := by
  rcases h.2 with ⟨hv, _⟩ | ⟨g', cap', cur, hv, hb, hh, hnc, hcm, hsz, ht⟩
  · injection hv with h1; cases h1
  obtain ⟨rfl, rfl⟩ : g = g' ∧ cap = cap' := by injection hv with h1 h2 h3; injection h1 with h1; injection h1 with h1; exact ⟨h1, h3⟩
  refine ⟨by rw [flat_V1, List.length_map]; omega, .inr ⟨g, cap, putCells (Value.int .i64) 0 ys.toArray cur, rfl, hb, ?_, hnc, hcm, by simp [putCells, hsz], ?_⟩⟩
  · rw [heap_putRow, if_pos rfl, hh]; rfl
  · rw [flat_V1]
    apply List.ext_getElem?
    intro i
    by_cases hi : i < n
    · rw [List.getElem?_take_of_lt (by omega)]
      have hi1 : i < cur.size := by omega
      have hi2 : i < ys.length := by omega
      simp [putCells, hi1, hi2]
    · rw [List.getElem?_eq_none (by simp; omega), List.getElem?_eq_none (by simp; omega)]
theorem own_cut {w : World} {base g n m cap : Nat} {e : TypeId} {zs : List Int} {r : List Int} (h : w.ownsRow base e 1 (.slice (some ⟨g, 0, none⟩) n cap) n ((zs ++ r).flatMap V1)) (hm : m = zs.length) (hmn : m ≤ n) :
    w.ownsRow base e 1 (.slice (some ⟨g, 0, none⟩) m cap) m (zs.flatMap V1) := by
  rcases h.2 with ⟨hv, _⟩ | ⟨g', cap', cur, hv, hb, hh, hnc, hcm, hsz, ht⟩
  · injection hv with h1; cases h1
  obtain ⟨rfl, rfl⟩ : g = g' ∧ cap = cap' := by injection hv with h1 h2 h3; injection h1 with h1; injection h1 with h1; exact ⟨h1, h3⟩
  refine ⟨by rw [flat_V1, List.length_map]; omega, .inr ⟨g, cap, cur, rfl, hb, hh, by omega, hcm, hsz, ?_⟩⟩
  have h2 : (cur.toList.take (n * 1)).take m = zs.flatMap V1 := by
    rw [ht, List.flatMap_append, List.take_append_of_le_length (by rw [flat_V1, List.length_map]; omega), List.take_of_length_le (by rw [flat_V1, List.length_map]; omega)]
  rw [List.take_take, Nat.min_eq_left (by omega)] at h2
  rw [Nat.mul_one]; exact h2

end Go.Proofs.Ytpmiafnccjejnaa
