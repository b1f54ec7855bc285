/-
  Lists of shares as values: contracts for all lists of at most 200 shares.
-/
import Derived.Test.YtpmiafnccjejnaaSVal
import Derived.Test.YtpmiafnccjejnaaRTog
namespace Go.Proofs.Ytpmiafnccjejnaa
open Go.RowKit
set_option linter.unusedVariables false

theorem SV.shape {w : World} {v : Value} {a : List Sh} (h : SV w v a) : ∃ A n c, v = .slice A n c := by
  obtain ⟨A, c, e, _⟩ := h
  exact ⟨A, _, c, e⟩
structure LkS (a : List Sh) : Prop where
  len : a.length ≤ 200
  ok : ∀ x ∈ a, x.ok
theorem colR_len (l : List Sh) : (colR l).length ≤ l.length := by
  unfold colR
  split
  · exact colF_len l
  · simp
theorem diffR_len {a b : List Sh} (ha : LkS a) (hb : LkS b) : (diffR a b).length ≤ 9223372036854775807 := by
  have h1 := ha.len
  have h2 := hb.len
  unfold diffR
  split
  · simp
  · have := colR_len (b ++ a.map negS)
    rw [List.length_append, List.length_map] at this
    omega
theorem applyR_len {a b : List Sh} (ha : LkS a) (hb : LkS b) : (applyR a b).length ≤ 9223372036854775807 := by
  have h1 := ha.len
  have h2 := hb.len
  unfold applyR
  split
  · simp
  · have := colR_len (a ++ b)
    rw [List.length_append] at this
    omega
theorem diffL {va vb : Value} {a b : List Sh} {w : World} (ha : LkS a) (hb : LkS b) (hA : SV w va a) (hB : SV w vb b) :
    Calls Try.prog 11 #[va, vb] w fun e w' => ∃ v, e = .returned (.tuple #[v, .int .i64 (diffErr a b)]) ∧ SV w' v (diffR a b) ∧ Below w.heap.size w w' := by
  obtain ⟨A, c, rfl, hA⟩ := hA
  obtain ⟨B, d, rfl, hB⟩ := hB
  have la := ha.len
  have lb := hb.len
  refine (diff_any A B c d a b w (by omega) (by omega) ha.ok hb.ok hA hB).mono ?_
  rintro e w' ⟨C, k, rfl, hC, hb'⟩
  exact ⟨_, rfl, ⟨C, k, rfl, hC.low (Nat.zero_le _)⟩, hb'⟩
theorem applyL {va vb : Value} {a b : List Sh} {w : World} (ha : LkS a) (hb : LkS b) (hA : SV w va a) (hB : SV w vb b) :
    Calls Try.prog 13 #[va, vb] w fun e w' => ∃ v, e = .returned (.tuple #[v, .int .i64 (applyErr a b)]) ∧ SV w' v (applyR a b) ∧ Below w.heap.size w w' := by
  obtain ⟨A, c, rfl, hA⟩ := hA
  obtain ⟨B, d, rfl, hB⟩ := hB
  have la := ha.len
  have lb := hb.len
  refine (apply_any A B c d a b w (by omega) (by omega) ha.ok hb.ok hA hB).mono ?_
  rintro e w' ⟨C, k, rfl, hC, hb'⟩
  exact ⟨_, rfl, ⟨C, k, rfl, hC.low (Nat.zero_le _)⟩, hb'⟩
theorem rdiffL {va vb : Value} {a b : List Sh} {w : World} (ha : LkS a) (hb : LkS b) (hA : SV w va a) (hB : SV w vb b) :
    Calls Try.prog 12 #[va, vb] w fun e w' => ∃ v, e = .returned (.tuple #[v, .int .i64 (diffErr a b)]) ∧ SV w' v (diffR a b) ∧ Below w.heap.size w w' := by
  obtain ⟨A, c, rfl, hA⟩ := hA
  obtain ⟨B, d, rfl, hB⟩ := hB
  have la := ha.len
  have lb := hb.len
  refine (rdiff_any A B c d a b w (by omega) (by omega) hA hB).mono ?_
  rintro e w' ⟨C, k, rfl, hC, hb'⟩
  exact ⟨_, rfl, ⟨C, k, rfl, hC.low (Nat.zero_le _)⟩, hb'⟩
theorem rapplyL {va vb : Value} {a b : List Sh} {w : World} (ha : LkS a) (hb : LkS b) (hA : SV w va a) (hB : SV w vb b) :
    Calls Try.prog 14 #[va, vb] w fun e w' => ∃ v, e = .returned (.tuple #[v, .int .i64 (applyErr a b)]) ∧ SV w' v (applyR a b) ∧ Below w.heap.size w w' := by
  obtain ⟨A, c, rfl, hA⟩ := hA
  obtain ⟨B, d, rfl, hB⟩ := hB
  have la := ha.len
  have lb := hb.len
  refine (rapply_any A B c d a b w (by omega) (by omega) hA hB).mono ?_
  rintro e w' ⟨C, k, rfl, hC, hb'⟩
  exact ⟨_, rfl, ⟨C, k, rfl, hC.low (Nat.zero_le _)⟩, hb'⟩
theorem colL {va : Value} {a : List Sh} {w : World} (ha : LkS a) (hA : SV w va a) :
    Calls Try.prog 16 #[va] w fun e w' => ∃ v, e = .returned (.tuple #[v, .int .i64 (colErr a)]) ∧ SV w' v (colR a) ∧ Below w.heap.size w w' := by
  obtain ⟨A, c, rfl, hA⟩ := hA
  have la := ha.len
  refine (collect_any A c a w (by omega) ha.ok hA).mono ?_
  rintro e w' ⟨C, k, rfl, hC, hb'⟩
  exact ⟨_, rfl, ⟨C, k, rfl, hC.low (Nat.zero_le _)⟩, hb'⟩
theorem rcolL {va : Value} {a : List Sh} {w : World} (ha : LkS a) (hA : SV w va a) :
    Calls Try.prog 17 #[va] w fun e w' => ∃ v, e = .returned (.tuple #[v, .int .i64 (colErr a)]) ∧ SV w' v (colR a) ∧ Below w.heap.size w w' := by
  obtain ⟨A, c, rfl, hA⟩ := hA
  have la := ha.len
  refine (rcollect_any A c a w (by omega) hA).mono ?_
  rintro e w' ⟨C, k, rfl, hC, hb'⟩
  exact ⟨_, rfl, ⟨C, k, rfl, hC.low (Nat.zero_le _)⟩, hb'⟩
theorem SmS.lk {M : Int} {n : Nat} {a : List Sh} (h : SmS M n a) (hn : n ≤ 200) : LkS a := ⟨Nat.le_trans h.len hn, h.ok⟩

end Go.Proofs.Ytpmiafnccjejnaa
