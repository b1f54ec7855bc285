/-
  treatylaw26.few: losses and as many amounts.
-/
import Derived.Test.YtjbaildaifdgiaaAmts
import Derived.Test.YtjbaildaifdgiaaChkEDef
namespace Go.Proofs.Ytjbaildaifdgiaa
open Go.RowKit
set_option linter.unusedVariables false

/-- What the decks make is accepted. -/
theorem sumI_le {am : List Int} (h : ∀ x ∈ am, 0 ≤ x ∧ x < 268435456) : 0 ≤ sumI am ∧ sumI am ≤ 268435456 * am.length := by
  induction am with
  | nil => simp [sumI]
  | cons a l ih =>
    have h1 := h a (by simp)
    have h2 := ih (fun x hx => h x (by simp [hx]))
    simp only [sumI, List.length_cons]; omega
theorem chkE_made {los : List Los} {last : Int} {am : List Int} (hm : MadeLos los last) (hl : los.length ≤ 64) (hal : am.length = los.length) (ham : ∀ x ∈ am, 0 ≤ x ∧ x < 268435456) : chkE los am = 0 := by
  have hall : (los.zip am).all pairOk = true := by
    rw [List.all_eq_true]
    intro z hz
    have h1 := (hm.each z.1 (List.of_mem_zip hz).1).1
    have h2 := ham z.2 (List.of_mem_zip hz).2
    unfold LosOk at h1
    obtain ⟨l, a⟩ := z
    exact (pairOk_iff l a).2 ⟨by dsimp only at h1; omega, by dsimp only at h1; omega, by dsimp only at h1; omega, by dsimp only at h1; omega, h2.1, by dsimp only at h2; omega⟩
  rw [chkE_sum (by omega) hall, if_neg]
  have := sumI_le ham
  omega

set_option maxHeartbeats 1000000 in
theorem few26_any (D : Option Addr) (dc : Nat) (deck : List Int) (w : World) (hD : Ints w 0 D deck) (hdl : deck.length ≤ 9223372036854775807) :
    Calls Try.prog 28 #[.slice D deck.length dc] w fun e w' => ∃ (LA : Option Addr) (lc : Nat) (los : List Los) (last : Int) (AA : Option Addr) (ac : Nat) (am : List Int),
      e = .returned (.tuple #[.slice LA los.length lc, .slice AA am.length ac]) ∧ los.length ≤ 10 ∧ MadeLos los last ∧ am.length = los.length ∧ (∀ x ∈ am, 0 ≤ x ∧ x < 268435456) ∧
      Losses w' w.heap.size LA los ∧ Ints w' w.heap.size AA am ∧ Below w.heap.size w w' := by
  have CN := Lib.hid (new_any D dc deck w hdl hD)
  obtain ⟨m, hm⟩ : ∃ m, m = deck.length := ⟨_, rfl⟩
  rw [← hm] at CN ⊢
  clear hm hdl
  go_enter Try.func28, Try.ntmps28
  go_wp2_with fail
  refine CN.out.mono ?_
  rintro e w1 ⟨rfl, hdk, hb1, hs1⟩
  clear hs1
  go_wp2_with fail
  refine (losses_any _ 10 _ (by omega) (by omega) hdk).mono ?_
  rintro e w2 ⟨v, los, last, rfl, hll, hlast, hmade, hown, hd2, hg2⟩
  have hb2 : Below w.heap.size w w2 := below_of_only hb1 hg2 (Nat.le_refl _)
  obtain ⟨LA, lc, rfl, _⟩ := own_shape hown
  have hL : Losses w2 w1.heap.size LA los := losses_of_own hown
  have hw1 : w.heap.size < w1.heap.size := hdk.lt
  have HMADE := Lib.hid hmade
  clear hown hmade
  go_wp2_with fail
  refine (amounts_any _ los.length _ (by omega) hd2).mono ?_
  rintro e w3 ⟨v, am, rfl, hal, ham, hown3, hd3, hg3⟩
  have hb3 : Below w.heap.size w w3 := below_of_only hb2 hg3 (Nat.le_refl _)
  obtain ⟨AA, ac, rfl, _⟩ := own_shape hown3
  have hA : Ints w3 w2.heap.size AA am := ints_of_own hown3
  have hL3 : Losses w3 w1.heap.size LA los := hL.grown hg3 (fun g hg => by injection hg with hg; omega)
  have HAM := Lib.hid ham
  have HAL := Lib.hid hal
  have hs2 := hb2.size
  clear hown3 ham hL hal hg3 hg2 hd3 hd2 hdk
  go_wp2_with fail
  go_ret2
  exact ⟨LA, lc, los, last, AA, ac, am, rfl, by omega, HMADE.out, HAL.out, HAM.out, hL3.low (by omega), hA.low hs2, hb3⟩

end Go.Proofs.Ytjbaildaifdgiaa
