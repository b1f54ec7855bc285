/-
  treatylaw26.WindowValues: the law's walk.
-/
import Derived.Test.YtjbaildaifdgiaaAwake26
import Derived.Test.YtjbaildaifdgiaaTerms26
import Derived.Test.YtjbaildaifdgiaaPts
import Derived.Test.YtjbaildaifdgiaaRVal
namespace Go.Proofs.Ytjbaildaifdgiaa
open Go.RowKit
set_option linter.unusedVariables false

theorem sameB_self (xs : List Int) : sameB xs xs = true := by simp [sameB]
theorem valuesF_len (ps : List P2) (L : Int) (ls : List P2) (h : ps.length ≤ 1000) : (valuesF ps L ls).length ≤ 9223372036854775807 := by
  unfold valuesF; split
  · rw [valsF_length]; omega
  · simp

set_option maxHeartbeats 1000000 in
theorem lawValues (A : Option Addr) (c : Nat) (raw : List P2) (L : Int) (B : Option Addr) (d : Nat) (lay : List P2) (D : Option Addr) (dc : Nat) (deck : List Int) (E : Option Addr) (ec : Nat) (other : List Int) (w : World)
    (hA : Pairs w 0 A raw) (hB : Pairs w 0 B lay) (hD : Ints w 0 D deck) (hE : Ints w 0 E other) (hal : raw.length ≤ 9223372036854775807) (hbl : lay.length ≤ 9223372036854775807) (hdl : deck.length ≤ 9223372036854775807) (hel : other.length ≤ 9223372036854775807) :
    Calls Try.prog 5 #[.slice A raw.length c, .int .i64 L, .slice B lay.length d, .slice D deck.length dc, .slice E other.length ec] w fun e w' => e = .returned (.bool true) ∧ Below w.heap.size w w' := by
  have CN := Lib.hid (new_any D dc deck w hdl hD)
  have CT : Hid (∀ W, Ints W 0 E other → _) := fun W h => terms26_any E ec other W h hel
  by_cases hlen : 70 < raw.length ∨ 20 < lay.length
  · clear CN CT
    obtain ⟨n, hn⟩ : ∃ n, n = raw.length := ⟨_, rfl⟩
    obtain ⟨k, hk⟩ : ∃ k, k = lay.length := ⟨_, rfl⟩
    obtain ⟨m, hm⟩ : ∃ m, m = deck.length := ⟨_, rfl⟩
    obtain ⟨o, ho⟩ : ∃ o, o = other.length := ⟨_, rfl⟩
    rw [← hn, ← hk] at hlen
    rw [← hn, ← hk, ← hm, ← ho]
    clear hn hk hm ho hal hbl hdl hel hA hB hD hE
    by_cases h1 : 70 < n
    · clear hlen
      have q : decide (70 < (n : Int)) = true := by simp; omega
      go_enter Try.func5, Try.ntmps5
      go_wp2_with (go_at_call 18; refine (awake26_any _).mono ?_; rintro e w1 ⟨rfl, hb1⟩)
      go_ret
      exact ⟨rfl, hb1⟩
    · have h2 : 20 < k := by omega
      clear hlen
      have q : decide (70 < (n : Int)) = false := by simp; omega
      have q2 : decide (20 < (k : Int)) = true := by simp; omega
      go_enter Try.func5, Try.ntmps5
      go_wp2_with (go_at_call 18; refine (awake26_any _).mono ?_; rintro e w1 ⟨rfl, hb1⟩)
      go_ret
      exact ⟨rfl, hb1⟩
  have hvl := Lib.hid (valuesF_len raw L lay (by omega))
  have CV1 : Hid (∀ W, Pairs W 0 A raw → Pairs W 0 B lay → _) := fun W h h' => values_any A c raw L B d lay W (by omega) (by omega) h h'
  have CV2 : Hid (∀ W, Pairs W 0 A raw → Pairs W 0 B lay → _) := fun W h h' => rvalues_any A c raw L B d lay W (by omega) (by omega) h h'
  obtain ⟨n, hn⟩ : ∃ n, n = raw.length := ⟨_, rfl⟩
  obtain ⟨k, hk⟩ : ∃ k, k = lay.length := ⟨_, rfl⟩
  obtain ⟨m, hm⟩ : ∃ m, m = deck.length := ⟨_, rfl⟩
  obtain ⟨o, ho⟩ : ∃ o, o = other.length := ⟨_, rfl⟩
  rw [← hn, ← hk] at hlen CV1 CV2
  rw [← hm] at CN
  rw [← ho] at CT
  rw [← hn, ← hk, ← hm, ← ho]
  clear hn hk hm ho hal hbl hdl hel
  have q1 : decide (70 < (n : Int)) = false := by simp; omega
  have q2 : decide (20 < (k : Int)) = false := by simp; omega
  clear hlen
  go_enter Try.func5, Try.ntmps5
  go_wp2_with fail
  refine CN.out.mono ?_
  rintro e w1 ⟨rfl, hdk, hb1, hs1⟩
  clear hs1
  go_wp2_with fail
  refine (points_any _ 20 _ (by omega) (by omega) hdk).mono ?_
  rintro e w2 ⟨v, ps, last, rfl, hpl, hlast, hmade, hown, hdk2, hg2⟩
  have hb2 : Below w.heap.size w w2 := below_of_only hb1 hg2 (Nat.le_refl _)
  obtain ⟨F, f, rfl, _⟩ := own_shape hown
  have hF : Pairs w2 0 F ps := (pairs_of_own hown).low (Nat.zero_le _)
  clear hown hdk2 hg2 hdk hb1
  go_wp2_with fail
  refine (CT.out _ (hE.below hb2)).mono ?_
  rintro e w3 ⟨N, G, g, ls, rfl, hN1, hN2, hl1, hl3, hall, hG, hb3⟩
  have hb03 := hb2.trans (hb3.mono hb2.size)
  have hF3 := hF.below hb3
  have hG3 : Pairs w3 0 G ls := hG.low (Nat.zero_le _)
  clear hall hmade
  have hpl' : ps.length ≤ 1000 := by omega
  have hvl2 := Lib.hid (valuesF_len ps N ls hpl')
  have CV3 : Hid (∀ W, Pairs W 0 F ps → Pairs W 0 G ls → _) := fun W h h' => values_any F f ps N G g ls W (by omega) (by omega) h h'
  have CV4 : Hid (∀ W, Pairs W 0 F ps → Pairs W 0 G ls → _) := fun W h h' => rvalues_any F f ps N G g ls W (by omega) (by omega) h h'
  go_wp2_with fail
  refine (CV1.out _ (hA.below hb03) (hB.below hb03)).mono ?_
  rintro e w4 ⟨G1, c1, rfl, hG1, hb4⟩
  have hb04 := hb03.trans (hb4.mono hb03.size)
  go_wp2_with fail
  refine (CV2.out _ (hA.below hb04) (hB.below hb04)).mono ?_
  rintro e w5 ⟨G2, c2, rfl, hG2, hb5⟩
  have hb05 := hb04.trans (hb5.mono hb04.size)
  have hb35 := hb4.trans (hb5.mono hb4.size)
  go_wp2_with fail
  refine (CV3.out _ (hF3.below hb35) (hG3.below hb35)).mono ?_
  rintro e w6 ⟨G3, c3, rfl, hG3', hb6⟩
  have hb06 := hb05.trans (hb6.mono hb05.size)
  have hb36 := hb35.trans (hb6.mono hb35.size)
  go_wp2_with fail
  refine (CV4.out _ (hF3.below hb36) (hG3.below hb36)).mono ?_
  rintro e w7 ⟨G4, c4, rfl, hG4, hb7⟩
  have hb07 := hb06.trans (hb7.mono hb06.size)
  have S1 := Lib.hid (sameInts_any G1 G2 c1 c2 _ _ w7 ((((hG1.below hb5).below hb6).below hb7).low (Nat.zero_le _)) (((hG2.below hb6).below hb7).low (Nat.zero_le _)) hvl.out hvl.out)
  rw [sameB_self] at S1
  have S2 : Hid (∀ W, Below w7.heap.size w7 W → _) := fun W hb => sameInts_any G3 G4 c3 c4 _ _ W (((hG3'.below hb7).below hb).low (Nat.zero_le _)) ((hG4.below hb).low (Nat.zero_le _)) hvl2.out hvl2.out
  rw [sameB_self] at S2
  clear hb06 hb05 hb04 hb03 hb35 hb36 hb3 hb4 hb5 hb6 hb2 hG1 hG2 hG3' hG4 hG3 hF3 hF hG
  go_wp2_with fail
  refine S1.out.mono ?_
  rintro e w8 ⟨rfl, hb8⟩
  go_wp2_with fail
  refine (S2.out _ hb8).mono ?_
  rintro e w9 ⟨rfl, hb9⟩
  have hb09 := (hb07.trans (hb8.mono hb07.size)).trans (hb9.mono (Nat.le_trans hb07.size hb8.size))
  go_wp2_with (go_at_call 18; refine (awake26_any _).mono ?_; rintro e w10 ⟨rfl, hb10⟩)
  go_ret
  exact ⟨rfl, hb09.trans (hb10.mono hb09.size)⟩

end Go.Proofs.Ytjbaildaifdgiaa
