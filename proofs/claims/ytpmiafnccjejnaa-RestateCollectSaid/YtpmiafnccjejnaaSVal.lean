/-
  Lists of shares as values: contracts that need no length.
-/
import Derived.Test.YtpmiafnccjejnaaSmallS
namespace Go.Proofs.Ytpmiafnccjejnaa
open Go.RowKit
set_option linter.unusedVariables false

/-- The value is a slice that reads as the list. -/
def SV (w : World) (v : Value) (a : List Sh) : Prop := ∃ A c, v = .slice A a.length c ∧ Shs w 0 A a
theorem SV.below {w w' : World} {v : Value} {a : List Sh} (h : SV w v a) (hb : Below w.heap.size w w') : SV w' v a := by
  obtain ⟨A, c, e, hs⟩ := h
  exact ⟨A, c, e, hs.below hb⟩
/-- Small lists: bounds, headings. -/
structure SmS (M : Int) (n : Nat) (a : List Sh) : Prop where
  bd : ∀ x ∈ a, BdS M x
  len : a.length ≤ n
  ok : ∀ x ∈ a, x.ok
theorem SmS.more {M K : Int} {n m : Nat} {a : List Sh} (h : SmS M n a) (h1 : M ≤ K) (h2 : n ≤ m) : SmS K m a := ⟨bd_more h.bd h1, Nat.le_trans h.len h2, h.ok⟩
theorem SmS.diff {a b : List Sh} (ha : SmS 100 20 a) (hb : SmS 100 20 b) : SmS 40000 40 (diffF a b) := by
  obtain ⟨_, _, h3, h4, h5⟩ := diff_small (M := 100) (by omega) (by omega) ha.bd hb.bd (by have := ha.len; omega) (by have := hb.len; omega) ha.ok hb.ok
  exact ⟨bd_more h4 (by omega), by have := ha.len; have := hb.len; omega, h5⟩

theorem diffV {va vb : Value} {a b : List Sh} {w : World} (ha : SmS 40000 40 a) (hb : SmS 40000 40 b) (hA : SV w va a) (hB : SV w vb b) :
    Calls Try.prog 11 #[va, vb] w fun e w' => ∃ v, e = .returned (.tuple #[v, .int .i64 0]) ∧ SV w' v (diffF a b) ∧ Below w.heap.size w w' := by
  obtain ⟨A, c, rfl, hA⟩ := hA
  obtain ⟨B, d, rfl, hB⟩ := hB
  have la := ha.len
  have lb := hb.len
  obtain ⟨e1, e2, _⟩ := diff_small (M := 40000) (by omega) (by omega) ha.bd hb.bd (by omega) (by omega) ha.ok hb.ok
  have D := diff_any A B c d a b w (by omega) (by omega) ha.ok hb.ok hA hB
  rw [e1, e2] at D
  refine D.mono ?_
  rintro e w' ⟨C, k, rfl, hC, hb'⟩
  exact ⟨_, rfl, ⟨C, k, rfl, hC.low (Nat.zero_le _)⟩, hb'⟩
theorem applyV {va vb : Value} {a b : List Sh} {w : World} (ha : SmS 40000 40 a) (hb : SmS 40000 40 b) (hA : SV w va a) (hB : SV w vb b) :
    Calls Try.prog 13 #[va, vb] w fun e w' => ∃ v, e = .returned (.tuple #[v, .int .i64 0]) ∧ SV w' v (applyF a b) ∧ Below w.heap.size w w' := by
  obtain ⟨A, c, rfl, hA⟩ := hA
  obtain ⟨B, d, rfl, hB⟩ := hB
  have la := ha.len
  have lb := hb.len
  obtain ⟨e1, e2⟩ := apply_small (M := 40000) (by omega) (by omega) ha.bd hb.bd (by omega) (by omega) ha.ok hb.ok
  have D := apply_any A B c d a b w (by omega) (by omega) ha.ok hb.ok hA hB
  rw [e1, e2] at D
  refine D.mono ?_
  rintro e w' ⟨C, k, rfl, hC, hb'⟩
  exact ⟨_, rfl, ⟨C, k, rfl, hC.low (Nat.zero_le _)⟩, hb'⟩
theorem sameV {va vb : Value} {a : List Sh} {w : World} (hA : SV w va a) (hB : SV w vb a) (hl : a.length ≤ 9223372036854775807) :
    Calls Try.prog 15 #[va, vb] w fun e w' => e = .returned (.bool true) ∧ Below w.heap.size w w' := by
  obtain ⟨A, c, rfl, hA⟩ := hA
  obtain ⟨B, d, rfl, hB⟩ := hB
  exact sameShares_self A B c d a w hl hA hB
theorem looseV (bd : Nat) (N : Int) (w w0 : World) (hN0 : 0 ≤ N) (hN : N ≤ 20) (hd : Deck w bd) (hb : Below w0.heap.size w0 w) (hlt : w0.heap.size ≤ bd) :
    Calls Try.prog 9 #[.pointer (some ⟨bd, 0, none⟩), .int .i64 N] w fun e w' => ∃ (v : Value) (xs : List Sh), e = .returned v ∧ SmS 100 20 xs ∧ SV w' v xs ∧ Below w0.heap.size w0 w' := by
  refine (looseN_any bd N w w0 hN0 (by omega) hd hb hlt).mono ?_
  rintro e w' ⟨A, c, xs, rfl, hl, hok, hS, hb'⟩
  exact ⟨_, xs, rfl, ⟨shOk_bd hok, by omega, shOk_ok hok⟩, ⟨A, c, rfl, hS⟩, hb'⟩

end Go.Proofs.Ytpmiafnccjejnaa
