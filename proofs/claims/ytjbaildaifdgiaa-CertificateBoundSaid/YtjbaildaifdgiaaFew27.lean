/-
  treatylaw27.few, treatylaw27.awake: their contracts.
-/
import Derived.Test.YtjbaildaifdgiaaAmts
import Derived.Test.YtjbaildaifdgiaaLays
import Derived.Test.YtjbaildaifdgiaaBound
import Derived.Test.YtjbaildaifdgiaaSame
namespace Go.Proofs.Ytjbaildaifdgiaa
open Go.RowKit
set_option linter.unusedVariables false

theorem results_tmp4 {fn : Func} {t u v x : Tmp} (h : fn.results = #[.tmp t, .tmp u, .tmp v, .tmp x]) (tmps : Array Value) (P : Program) (w : World) :
    (results fn tmps).run P w = .ok (.tuple #[tmps.getD t undef, tmps.getD u undef, tmps.getD v undef, tmps.getD x undef]) w := by simp [results, h]

set_option maxHeartbeats 1000000 in
theorem few27_any (D : Option Addr) (dc : Nat) (deck : List Int) (E : Option Addr) (ec : Nat) (other : List Int) (w : World) (hD : Ints w 0 D deck) (hE : Ints w 0 E other) (hdl : deck.length ≤ 9223372036854775807) (hel : other.length ≤ 9223372036854775807) :
    Calls Try.prog 14 #[.slice D deck.length dc, .slice E other.length ec] w fun e w' => ∃ (LA : Option Addr) (lc : Nat) (los : List Los) (last : Int) (AA : Option Addr) (ac : Nat) (am : List Int) (n : Int) (B : Option Addr) (d : Nat) (ls : List P2),
      e = .returned (.tuple #[.slice LA los.length lc, .slice AA am.length ac, .int .i64 n, .slice B ls.length d]) ∧ los.length ≤ 10 ∧ MadeLos los last ∧ am.length = los.length ∧ (∀ x ∈ am, 0 ≤ x ∧ x < 268435456) ∧ 1 ≤ n ∧ n ≤ 72 ∧ 1 ≤ ls.length ∧ ls.length ≤ 3 ∧ ls.all okLay = true ∧
      Losses w' w.heap.size LA los ∧ Ints w' w.heap.size AA am ∧ Pairs w' w.heap.size B ls ∧ Below w.heap.size w w' := by
  have CN := Lib.hid (new_any D dc deck w hdl hD)
  have CE : Hid (∀ W, Ints W 0 E other → _) := fun W h => new_any E ec other W hel h
  obtain ⟨m, hm⟩ : ∃ m, m = deck.length := ⟨_, rfl⟩
  obtain ⟨o, ho⟩ : ∃ o, o = other.length := ⟨_, rfl⟩
  rw [← hm] at CN
  rw [← ho] at CE
  rw [← hm, ← ho]
  clear hm ho hdl hel
  go_enter Try.func14, Try.ntmps14
  go_wp2_with fail
  refine CN.out.mono ?_
  rintro e w1 ⟨rfl, hdk, hb1, hs1⟩
  clear hs1
  go_wp2_with fail
  refine (losses_any _ 10 _ (by omega) (by omega) hdk).mono ?_
  rintro e w2 ⟨v, los, last, rfl, hll, hlast, hmade, hown, hd2, hg2⟩
  have hb2 : Below w.heap.size w w2 := below_of_only hb1 hg2 (Nat.le_refl _)
  obtain ⟨LA, lc, rfl, _⟩ := own_shape hown
  have hL : Losses w2 w1.heap.size LA los := losses_of_own hown
  have hw1 : w.heap.size < w1.heap.size := hdk.lt
  have HMADE := Lib.hid hmade
  clear hown hmade
  go_wp2_with fail
  refine (amounts_any _ los.length _ (by omega) hd2).mono ?_
  rintro e w3 ⟨v, am, rfl, hal, ham, hown3, hd3, hg3⟩
  have hb3 : Below w.heap.size w w3 := below_of_only hb2 hg3 (Nat.le_refl _)
  obtain ⟨AA, ac, rfl, _⟩ := own_shape hown3
  have hA : Ints w3 w2.heap.size AA am := ints_of_own hown3
  have hL3 : Losses w3 w1.heap.size LA los := hL.grown hg3 (fun g hg => by injection hg with hg; omega)
  have HAM := Lib.hid ham
  have HAL := Lib.hid hal
  clear hown3 ham hL hal hg3 hg2 hd3 hd2 hdk
  go_wp2_with fail
  refine (CE.out _ (hE.below hb3)).mono ?_
  rintro e w4 ⟨rfl, hdk4, hb4, hs4⟩
  clear hs4
  have hb04 := hb3.trans (hb4.mono hb3.size)
  go_wp2_with fail
  refine (next_any _ 72 _ (by omega) (by omega) hdk4).mono ?_
  rintro e w5 ⟨r, rfl, hr0, hr1, hd5, hg5⟩
  go_wp2_with fail
  refine (layers_any _ _ hd5).mono ?_
  rintro e w6 ⟨v, ls, rfl, hl1, hl3, hall, hown6, hdk6, hg6⟩
  have hg56 := only_trans hg5 hg6
  have hb36 : Below w3.heap.size w3 w6 := below_of_only hb4 hg56 (Nat.le_refl _)
  have hb06 := hb3.trans (hb36.mono hb3.size)
  obtain ⟨B, d, rfl, _⟩ := own_shape hown6
  have hs5 := hg5.size
  have hs4 := hb4.size
  have hs3 := hb3.size
  have hs2 := hb2.size
  have hB : Pairs w6 w.heap.size B ls := (pairs_of_own hown6).low (by omega)
  have HALL := Lib.hid hall
  clear hall hown6
  go_wp2_with fail
  refine bodyPost_ret (results_tmp4 rfl _ _ _) rfl ?_
  exact ⟨LA, lc, los, last, AA, ac, am, 1 + r, B, d, ls, rfl, by omega, HMADE.out, HAL.out, HAM.out, by omega, by omega, hl1, hl3, HALL.out, (hL3.below hb36).low (by omega), (hA.below hb36).low hs2, hB, hb06⟩

end Go.Proofs.Ytjbaildaifdgiaa
