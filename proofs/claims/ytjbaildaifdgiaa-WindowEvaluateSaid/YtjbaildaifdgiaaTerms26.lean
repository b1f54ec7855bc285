/-
  treatylaw26.terms: a length and layers that are accepted.
-/
import Derived.Test.YtjbaildaifdgiaaLays
namespace Go.Proofs.Ytjbaildaifdgiaa
open Go.RowKit
set_option linter.unusedVariables false

set_option maxHeartbeats 400000 in
theorem terms26_any (D : Option Addr) (dc : Nat) (deck : List Int) (w : World) (hD : Ints w 0 D deck) (hdl : deck.length ≤ 9223372036854775807) :
    Calls Try.prog 23 #[.slice D deck.length dc] w fun e w' => ∃ (n : Int) (B : Option Addr) (d : Nat) (ls : List P2), e = .returned (.tuple #[.int .i64 n, .slice B ls.length d]) ∧ 1 ≤ n ∧ n ≤ 72 ∧ 1 ≤ ls.length ∧ ls.length ≤ 3 ∧ ls.all okLay = true ∧ Pairs w' w.heap.size B ls ∧ Below w.heap.size w w' := by
  have CN := Lib.hid (new_any D dc deck w hdl hD)
  obtain ⟨m, hm⟩ : ∃ m, m = deck.length := ⟨_, rfl⟩
  rw [← hm] at hdl CN ⊢
  clear hm
  go_enter Try.func23, Try.ntmps23
  go_wp2_with fail
  refine CN.out.mono ?_
  rintro e w1 ⟨rfl, hdk, hb1, hs1⟩
  have HS1 := Lib.hid hs1
  clear hs1
  go_wp2_with fail
  refine (next_any _ 72 _ (by omega) (by omega) hdk).mono ?_
  rintro e w2 ⟨r, rfl, hr0, hr1, hd2, hg2⟩
  go_wp2_with fail
  refine (layers_any _ _ hd2).mono ?_
  rintro e w3 ⟨v, ls, rfl, hl1, hl3, hall, hown, hdk3, hg3⟩
  have hb2 : Below w.heap.size w w2 := below_of_only hb1 hg2 (Nat.le_refl _)
  have hb3 : Below w.heap.size w w3 := below_of_only hb2 hg3 (Nat.le_refl _)
  obtain ⟨B, d, rfl, _⟩ := own_shape hown
  have hB : Pairs w3 w.heap.size B ls := (pairs_of_own hown).low hb2.size
  have HALL := Lib.hid hall
  clear hall hown
  go_wp2_with fail
  go_ret2
  exact ⟨1 + r, B, d, ls, rfl, by omega, by omega, hl1, hl3, HALL.out, hB, hb3⟩

end Go.Proofs.Ytjbaildaifdgiaa
