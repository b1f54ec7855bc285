/-
  treatylaw26.WindowRecovery: the law's walk.
-/
import Derived.Test.YtjbaildaifdgiaaAwake26
import Derived.Test.YtjbaildaifdgiaaLays
import Derived.Test.YtjbaildaifdgiaaRRec
namespace Go.Proofs.Ytjbaildaifdgiaa
open Go.RowKit
set_option linter.unusedVariables false

set_option maxHeartbeats 1000000 in
theorem lawRecovery (t : Int) (A : Option Addr) (c : Nat) (raw : List P2) (D : Option Addr) (dc : Nat) (deck : List Int) (w : World) (hA : Pairs w 0 A raw) (hD : Ints w 0 D deck) (hrl : raw.length ≤ 9223372036854775807) (hdl : deck.length ≤ 9223372036854775807) :
    Calls Try.prog 4 #[.int .i64 t, .slice A raw.length c, .slice D deck.length dc] w fun e w' => e = .returned (.bool true) ∧ Below w.heap.size w w' := by
  have CN := Lib.hid (new_any D dc deck w hdl hD)
  by_cases hlen : 20 < raw.length
  · clear CN
    obtain ⟨n, hn⟩ : ∃ n, n = raw.length := ⟨_, rfl⟩
    obtain ⟨m, hm⟩ : ∃ m, m = deck.length := ⟨_, rfl⟩
    rw [← hn] at hlen hrl ⊢
    rw [← hm] at hdl ⊢
    clear hn hm
    go_enter Try.func4, Try.ntmps4
    go_wp2_with (go_at_call 18; refine (awake26_any _).mono ?_; rintro e w1 ⟨rfl, hb1⟩)
    go_ret
    exact ⟨rfl, hb1⟩
  have CR1 : Hid (∀ (x : Int) (W : World), Pairs W 0 A raw → Calls Try.prog 21 #[.int .i64 x, .slice A raw.length c] W fun e w' => e = .returned (.tuple #[.int .i64 (recVal x raw), .int .i64 (recErr x raw)]) ∧ Below W.heap.size W w') := fun x W h => recovery_any x A c raw W (by omega) h
  have CR2 : Hid (∀ (x : Int) (W : World), Pairs W 0 A raw → Calls Try.prog 22 #[.int .i64 x, .slice A raw.length c] W fun e w' => e = .returned (.tuple #[.int .i64 (recVal x raw), .int .i64 (recErr x raw)]) ∧ Below W.heap.size W w') := fun x W h => rrecovery_any x A c raw W (by omega) h
  obtain ⟨n, hn⟩ : ∃ n, n = raw.length := ⟨_, rfl⟩
  obtain ⟨m, hm⟩ : ∃ m, m = deck.length := ⟨_, rfl⟩
  rw [← hn] at hlen hrl CR1 CR2 ⊢
  rw [← hm] at hdl CN ⊢
  clear hn hm
  have hcb := clampA_bd t
  have hmx := @run_imax Try.prog
  go_enter Try.func4, Try.ntmps4
  go_wp2_with fail
  refine CN.out.mono ?_
  rintro e w1 ⟨rfl, hdk, hb1, hs1⟩
  have HS1 := Lib.hid hs1
  clear hs1
  go_wp2_with fail
  refine (layers_any _ _ hdk).mono ?_
  rintro e w2 ⟨v, ls, rfl, hl1, hl3, hall, hown, hdk2, hg2⟩
  have hb2 : Below w.heap.size w w2 := below_of_only hb1 hg2 (Nat.le_refl _)
  obtain ⟨B, d, rfl, _⟩ := own_shape hown
  have hB : Pairs w2 0 B ls := (pairs_of_own hown).low (Nat.zero_le _)
  have HALL := Lib.hid hall
  clear hall hown hdk2 hg2 hdk
  have CR3 : Hid (∀ (x : Int) (W : World), Pairs W 0 B ls → Calls Try.prog 21 #[.int .i64 x, .slice B ls.length d] W fun e w' => e = .returned (.tuple #[.int .i64 (recVal x ls), .int .i64 (recErr x ls)]) ∧ Below W.heap.size W w') := fun x W h => recovery_any x B d ls W (by omega) h
  have CR4 : Hid (∀ (x : Int) (W : World), Pairs W 0 B ls → Calls Try.prog 22 #[.int .i64 x, .slice B ls.length d] W fun e w' => e = .returned (.tuple #[.int .i64 (recVal x ls), .int .i64 (recErr x ls)]) ∧ Below W.heap.size W w') := fun x W h => rrecovery_any x B d ls W (by omega) h
  go_wp2_with (go_at_call 20; refine (clamp_any _ _).mono ?_; rintro e w' ⟨rfl, rfl⟩)
  refine (CR1.out _ _ (hA.below hb2)).mono ?_
  rintro e w3 ⟨rfl, hb3⟩
  have hb03 := hb2.trans (hb3.mono hb2.size)
  go_wp2_with fail
  refine (CR2.out _ _ (hA.below hb03)).mono ?_
  rintro e w4 ⟨rfl, hb4⟩
  have hb04 := hb03.trans (hb4.mono hb03.size)
  go_wp2_with fail
  refine (CR3.out _ _ ((hB.below hb3).below hb4)).mono ?_
  rintro e w5 ⟨rfl, hb5⟩
  have hb05 := hb04.trans (hb5.mono hb04.size)
  go_wp2_with fail
  refine (CR4.out _ _ (((hB.below hb3).below hb4).below hb5)).mono ?_
  rintro e w6 ⟨rfl, hb6⟩
  have hb06 := hb05.trans (hb6.mono hb05.size)
  clear hb05 hb04 hb03 hb3 hb4 hb5 hb6 hb2 hb1
  go_wp2_with (go_at_call 18; refine (awake26_any _).mono ?_; rintro e w7 ⟨rfl, hb7⟩)
  go_ret
  exact ⟨rfl, hb06.trans (hb7.mono hb06.size)⟩

end Go.Proofs.Ytjbaildaifdgiaa
