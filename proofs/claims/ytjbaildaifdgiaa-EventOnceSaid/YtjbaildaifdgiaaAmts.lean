/-
  treatymade2.Amounts: its contract. A row whose content is known by index is a row of the call's own.
-/
import Derived.Test.YtjbaildaifdgiaaLosses
import Derived.Test.YtjbaildaifdgiaaVal
namespace Go.Proofs.Ytjbaildaifdgiaa
open Go.RowKit
set_option linter.unusedVariables false

theorem flat_map_get (f : Nat → Int) (n : Nat) : (((List.range n).map f).flatMap V1) = (List.range n).map fun i => Value.int .i64 (f i) := by
  induction (List.range n) with
  | nil => rfl
  | cons a l ih => simp [V1, ih]
theorem own_of_row {w : World} {g base n : Nat} {f : Nat → Int} (h : w.rowIs g 3 n (fun j => .int .i64 (f j))) (hb : base ≤ g) (hn : n ≤ maxLen) : w.ownsRow base 3 1 (.slice (some ⟨g, 0, none⟩) n n) n (((List.range n).map f).flatMap V1) := by
  obtain ⟨c, hc, hs, hi⟩ := h
  refine ⟨by rw [flat_map_get]; simp, .inr ⟨g, n, c, rfl, hb, hc, Nat.le_refl _, hn, by omega, ?_⟩⟩
  rw [flat_map_get]
  apply List.ext_getElem?
  intro i
  by_cases hin : i < n
  · rw [List.getElem?_take_of_lt (by omega)]
    have := hi i hin
    simp [hin, this]
  · rw [List.getElem?_eq_none (by simp; omega), List.getElem?_eq_none (by simp; omega)]

set_option maxHeartbeats 1000000 in
theorem amounts_any (bd : Nat) (n : Nat) (w : World) (hn : n ≤ 1000) (hd : Deck w bd) :
    Calls Try.prog 45 #[.pointer (some ⟨bd, 0, none⟩), .int .i64 n] w fun e w' => ∃ (v : Value) (xs : List Int), e = .returned v ∧ xs.length = n ∧ (∀ x ∈ xs, 0 ≤ x ∧ x < 268435456) ∧ w'.ownsRow w.heap.size 3 1 v xs.length (xs.flatMap V1) ∧ Deck w' bd ∧ w.grownBy w' (some bd) := by
  have hlt := hd.lt
  have hmk := run_make_row' (P := Try.prog) 24 3 (.int .i64 0) 8 Try.underlying24 Try.infoInt rfl .i64 .i64 n (by omega) (by omega)
  go_enter Try.func45, Try.ntmps45
  go_wp2_with fail
  have hrow0 := World.rowIs_made w (.int .i64 0) n 3
  have hd0 : Deck (w.alloc (.cells (madeCells #[.int .i64 0] n) 3)) bd := hd.below ((Below.refl _ _).alloc (Nat.le_refl _) _)
  have hg0 : w.grownBy (w.alloc (.cells (madeCells #[.int .i64 0] n) 3)) (some bd) := only_alloc (only_refl _ _) _
  obtain ⟨g, hg⟩ : ∃ g, g = w.heap.size := ⟨_, rfl⟩
  rw [← hg] at hrow0 ⊢
  have hgw : w.heap.size ≤ g := by omega
  have hgb : bd < g := by omega
  clear hg hmk
  go_loopw [6, 11] (fun _ ii wr => ∃ (i : Nat) (f : Nat → Int), i ≤ n ∧ ii = .int .i64 i ∧ (∀ k, 0 ≤ f k ∧ f k < 268435456) ∧ wr.rowIs g 3 n (fun j => .int .i64 (f j)) ∧ Deck wr bd ∧ w.grownBy wr (some bd)) (fun _ ii _ => n - (intOf ii).toNat)
  case atStart => exact ⟨0, fun _ => 0, Nat.zero_le _, rfl, fun _ => by simp, hrow0, hd0, hg0⟩
  case round =>
    obtain ⟨i, f, hi, rfl, hf, hrow, hdk, hgr⟩ := hrel
    have HF := Lib.hid hf
    clear hf hrow0 hd0 hg0
    by_cases hin : i < n
    · go_wp2_with fail
      refine (small_any bd wr hdk).mono ?_
      rintro e w2 ⟨r, rfl, hr0, hr1, hd2, hg2⟩
      have hrow2 : w2.rowIs g 3 n (fun j => .int .i64 (f j)) := World.rowIs.of_block hrow (hg2.block g hrow.lt (by intro e; injection e with e; omega))
      have x0 := hrow2.cell hin
      have xf := hrow2.frozen i
      have hgr2 := only_trans hgr hg2
      go_wp2_with fail
      go_roundw
      case rel =>
        refine ⟨i + 1, fun k => if k = i then r else f k, by omega, by go_num, fun k => ?_, ?_, ?_, ?_⟩
        · dsimp only; split
          · omega
          · exact HF.out k
        · refine (hrow2.set i _).congr fun k _ => ?_
          by_cases hk : k = i <;> simp [hk]
        · exact hd2.keep fun k hk => Below.heap_setCell _ _ _ _ (by dsimp only; omega)
        · exact only_setCell hgr2 (.inr hgw) _
      case measure => simp [intOf]; omega
    · go_wp2_with fail
      go_ret
      refine ⟨_, (List.range n).map f, rfl, by simp, ?_, ?_, hdk, hgr⟩
      · intro x hx
        obtain ⟨k, _, rfl⟩ := List.mem_map.1 hx
        exact HF.out k
      · have := own_of_row hrow hgw (by unfold maxLen; omega)
        simpa using this

end Go.Proofs.Ytjbaildaifdgiaa
