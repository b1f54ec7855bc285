/-
  treatylaw25.few: losses and as many amounts, in rows of the call's own. And a store into one cell of such a row.
-/
import Derived.Test.YtjbaildaifdgiaaAmts
import Derived.Test.YtjbaildaifdgiaaFew26
namespace Go.Proofs.Ytjbaildaifdgiaa
open Go.RowKit
set_option linter.unusedVariables false

theorem flat_set1 {α : Type} (enc : α → List Value) (k : Nat) (hk : ∀ x, (enc x).length = k) (j : Nat) (hj : j < k) (u : Value) (x' : α) :
    ∀ (K : Nat) (xs : List α) (x : α), xs[K]? = some x → enc x' = (enc x).set j u → (xs.flatMap enc).set (K * k + j) u = (xs.set K x').flatMap enc := by
  intro K
  induction K with
  | zero =>
    intro xs x hx he
    cases xs with
    | nil => simp at hx
    | cons y ys =>
      obtain rfl : y = x := by simpa using hx
      simp only [List.flatMap_cons, List.set_cons_zero, Nat.zero_mul, Nat.zero_add]
      rw [List.set_append_left _ _ (by rw [hk]; exact hj), he]
  | succ K ih =>
    intro xs x hx he
    cases xs with
    | nil => simp at hx
    | cons y ys =>
      have := ih ys x (by simpa using hx) he
      simp only [List.flatMap_cons, List.set_cons_succ]
      rw [List.set_append_right _ _ (by rw [hk, Nat.succ_mul]; omega), hk, show (K + 1) * k + j - k = K * k + j by rw [Nat.succ_mul]; omega, this]
theorem own_base {w : World} {base base' : Nat} {e : TypeId} {size n : Nat} {v : Value} {xs : List Value} (h : w.ownsRow base e size v n xs) (hb : base' ≤ base) : w.ownsRow base' e size v n xs := by
  refine ⟨h.1, ?_⟩
  rcases h.2 with h0 | ⟨g, cap, cur, hv, hg, r⟩
  · exact .inl h0
  · exact .inr ⟨g, cap, cur, hv, by omega, r⟩
theorem own_ty {w : World} {base base' : Nat} {e e' : TypeId} {size size' n n' : Nat} {v v' : Value} {xs xs' : List Value} (h : w.ownsRow base e size v n xs) (h' : w.ownsRow base' e' size' v' n' xs') (ht : e ≠ e') (g : Nat) (hg : v'.ownBlock = some g) : v.ownBlock = none ∨ v.ownBlock ≠ some g := by
  rcases h.2 with ⟨rfl, _⟩ | ⟨g1, cap, cur, rfl, _, hh, _⟩
  · exact .inl rfl
  · refine .inr fun he => ?_
    have e1 : g1 = g := by simpa [Value.ownBlock] using he
    subst e1
    rcases h'.2 with ⟨rfl, _⟩ | ⟨g2, cap2, cur2, rfl, _, hh2, _⟩
    · simp [Value.ownBlock] at hg
    · have e2 : g2 = g1 := by simpa [Value.ownBlock] using hg
      subst e2
      rw [hh] at hh2
      exact ht (by injection Option.some.inj hh2)

set_option maxHeartbeats 1000000 in
theorem few25_any (D : Option Addr) (dc : Nat) (deck : List Int) (w : World) (hD : Ints w 0 D deck) (hdl : deck.length ≤ 9223372036854775807) :
    Calls Try.prog 34 #[.slice D deck.length dc] w fun e w' => ∃ (u v : Value) (los : List Los) (last : Int) (am : List Int),
      e = .returned (.tuple #[u, v]) ∧ los.length ≤ 12 ∧ MadeLos los last ∧ am.length = los.length ∧ (∀ x ∈ am, 0 ≤ x ∧ x < 268435456) ∧
      w'.ownsRow w.heap.size 65 10 u los.length (los.flatMap Los.cells) ∧ w'.ownsRow w.heap.size 3 1 v am.length (am.flatMap V1) ∧ Below w.heap.size w w' := by
  have CN := Lib.hid (new_any D dc deck w hdl hD)
  obtain ⟨m, hm⟩ : ∃ m, m = deck.length := ⟨_, rfl⟩
  rw [← hm] at CN ⊢
  clear hm hdl
  go_enter Try.func34, Try.ntmps34
  go_wp2_with fail
  refine CN.out.mono ?_
  rintro e w1 ⟨rfl, hdk, hb1, hs1⟩
  clear hs1
  go_wp2_with fail
  refine (losses_any _ 12 _ (by omega) (by omega) hdk).mono ?_
  rintro e w2 ⟨v, los, last, rfl, hll, hlast, hmade, hown, hd2, hg2⟩
  have hb2 : Below w.heap.size w w2 := below_of_only hb1 hg2 (Nat.le_refl _)
  obtain ⟨LA, lc, rfl, _⟩ := own_shape hown
  have hw1 : w.heap.size < w1.heap.size := hdk.lt
  have HMADE := Lib.hid hmade
  clear hmade
  go_wp2_with fail
  refine (amounts_any _ los.length _ (by omega) hd2).mono ?_
  rintro e w3 ⟨v, am, rfl, hal, ham, hown3, hd3, hg3⟩
  have hb3 : Below w.heap.size w w3 := below_of_only hb2 hg3 (Nat.le_refl _)
  obtain ⟨AA, ac, rfl, _⟩ := own_shape hown3
  have hL3 := hown.kept hg3 (own_far hown (by omega))
  have HAM := Lib.hid ham
  have HAL := Lib.hid hal
  have hs2 := hb2.size
  clear ham hal hg3 hg2 hd3 hd2 hdk hown
  go_wp2_with fail
  go_ret2
  exact ⟨_, _, los, last, am, rfl, by omega, HMADE.out, HAL.out, HAM.out, own_base hL3 (by omega), own_base hown3 hs2, hb3⟩

end Go.Proofs.Ytjbaildaifdgiaa
