/-
  treatyref25.Span: its contract, for two indexes in range and in order, of points that are accepted.
-/
import Derived.Test.YtjbaildaifdgiaaSpanDef
import Derived.Test.YtjbaildaifdgiaaRChk
namespace Go.Proofs.Ytjbaildaifdgiaa
open Go.RowKit
set_option linter.unusedVariables false

set_option maxHeartbeats 1000000 in
theorem span_no (A : Option Addr) (c : Nat) (ps : List P2) (L : Int) (B : Option Addr) (d : Nat) (ls : List P2) (w : World) (hp : Pairs w 0 A ps) (hlen : ps.length ≤ 1000) (hok : ∀ p ∈ ps, ptOk p = true)
    (i j : Nat) (p q : P2) (hi : ps[i]? = some p) (hj : ps[j]? = some q) (hij : i ≤ j) (hL : L ≤ q.a - p.a) :
    Calls Try.prog 47 #[.slice A ps.length c, .int .i64 L, .slice B ls.length d, .int .i64 i, .int .i64 j] w fun e w' => e = .returned (.tuple #[.int .i64 0, .bool false]) ∧ Below w.heap.size w w' := by
  obtain ⟨n, hn⟩ : ∃ n, n = ps.length := ⟨_, rfl⟩
  have hjn : j < n := by rw [hn]; exact (List.getElem?_eq_some_iff.1 hj).1
  have h1 := (ptOk_iff p).1 (hok p (List.mem_of_getElem? hi))
  have h2 := (ptOk_iff q).1 (hok q (List.mem_of_getElem? hj))
  obtain ⟨b, off, rfl, _, _, x0, _⟩ := hp.at_ hi
  obtain ⟨b', off', hA, _, _, y0, _⟩ := hp.at_ hj
  obtain ⟨rfl, rfl⟩ : b = b' ∧ off = off' := by simpa using hA
  rw [← hn] at hlen ⊢
  clear hn hi hj hp hok hA
  have e1 : decide ((i : Int) < 0) = false := by simp
  have e2 : decide (j < i) = false := by simp; omega
  have e3 : decide (n ≤ j) = false := by simp; omega
  go_enter Try.func47, Try.ntmps47
  go_wp2_with fail
  go_quiet (fail)
  go_wp2_with fail
  go_ret2
  exact ⟨rfl, below_drewN (Below.refl _ _) _⟩

set_option maxHeartbeats 1000000 in
theorem span_yes (A : Option Addr) (c : Nat) (ps : List P2) (L : Int) (B : Option Addr) (d : Nat) (ls : List P2) (w : World) (hp : Pairs w 0 A ps) (hl : Pairs w 0 B ls) (hlen : ps.length ≤ 1000) (hls : ls.length ≤ 1000) (hok : ∀ p ∈ ps, ptOk p = true) (hsum : sumB ps ≤ 17592186044416)
    (i j : Nat) (p q : P2) (hi : ps[i]? = some p) (hj : ps[j]? = some q) (hij : i ≤ j) (hL : q.a - p.a < L) :
    Calls Try.prog 47 #[.slice A ps.length c, .int .i64 L, .slice B ls.length d, .int .i64 i, .int .i64 j] w fun e w' => e = .returned (.tuple #[.int .i64 (recVal (sumT ps i (j - i + 1)) ls), .bool true]) ∧ Below w.heap.size w w' := by
  obtain ⟨n, hn⟩ : ∃ n, n = ps.length := ⟨_, rfl⟩
  obtain ⟨m, hm⟩ : ∃ m, m = ls.length := ⟨_, rfl⟩
  have CR : Hid (∀ (t : Int) (W : World), Pairs W 0 B ls → Calls Try.prog 22 #[.int .i64 t, .slice B m d] W fun e w' => e = .returned (.tuple #[.int .i64 (recVal t ls), .int .i64 (recErr t ls)]) ∧ Below W.heap.size W w') := by
    intro t W h; rw [hm]; exact rrecovery_any t B d ls W hls h
  have hjn : j < n := by rw [hn]; exact (List.getElem?_eq_some_iff.1 hj).1
  have h1 := (ptOk_iff p).1 (hok p (List.mem_of_getElem? hi))
  have h2 := (ptOk_iff q).1 (hok q (List.mem_of_getElem? hj))
  obtain ⟨b, off, rfl, _, _, x0, _⟩ := hp.at_ hi
  obtain ⟨b', off', hA, _, _, y0, _⟩ := hp.at_ hj
  obtain ⟨rfl, rfl⟩ : b = b' ∧ off = off' := by simpa using hA
  have HN := Lib.hid hn
  have HS := Lib.hid hsum
  rw [← hn] at hlen ⊢
  rw [← hm]
  clear hn hm hi hj hA hls hsum
  have HOK := Lib.hid hok
  clear hok
  have e1 : decide ((i : Int) < 0) = false := by simp
  have e2 : decide (j < i) = false := by simp; omega
  have e3 : decide (n ≤ j) = false := by simp; omega
  have e4 : decide (L ≤ q.a - p.a) = false := by simp; omega
  go_enter Try.func47, Try.ntmps47
  go_wp2_with fail
  go_quiet (fail)
  go_wp2_with fail
  clear x0 y0
  go_loop [12, 13] (fun s kk => ∃ (k : Nat) (acc : Int), i ≤ k ∧ k ≤ j + 1 ∧ kk = .int .i64 k ∧ s = .int .i64 acc ∧ acc = sumT ps i (k - i)) (fun _ kk => j + 1 - (intOf kk).toNat)
  case atStart => exact ⟨i, 0, Nat.le_refl _, by omega, rfl, rfl, by rw [Nat.sub_self, sumT_zero]⟩
  case round =>
    obtain ⟨k, acc, hk1, hk2, rfl, rfl, hacc⟩ := hrel
    have HA := Lib.hid hacc
    have hab := sumT_bd HOK.out i (k - i)
    rw [← hacc] at hab
    have hs := HS.out
    clear hacc
    by_cases hkj : k ≤ j
    · obtain ⟨u, hu, hd⟩ := drop_cons (xs := ps) (i := k) (by rw [← HN.out]; omega)
      obtain ⟨b', off', hA', _, _, _, z1⟩ := hp.at_ hu
      obtain ⟨rfl, rfl⟩ : b = b' ∧ off = off' := by simpa using hA'
      have huo := (ptOk_iff u).1 (HOK.out u (List.mem_of_getElem? hu))
      have HU := Lib.hid (sumT_snoc hk1 hu)
      clear hA' hu hd hs
      have hab2 : acc ≤ 17592186044416 := by have := HS.out; omega
      obtain ⟨hab0, _⟩ := hab
      go_wp2_with fail
      go_round
      case rel => exact ⟨k + 1, acc + u.b, by omega, by omega, by go_num, rfl, by rw [show k + 1 - i = k - i + 1 by omega, HU.out, ← HA.out]⟩
      case measure => simp [intOf]; omega
    · obtain rfl : k = j + 1 := by omega
      go_wp2_with (go_at_call 22; refine (CR.out _ _ (Sl.drewN hl _)).mono ?_; rintro e w2 ⟨rfl, hb2⟩)
      go_ret2
      refine ⟨ret_intb ?_ rfl, ?_⟩
      · rw [show j - i + 1 = j + 1 - i by omega, ← HA.out]
      · exact (below_drewN (Below.refl _ _) _).trans hb2

end Go.Proofs.Ytjbaildaifdgiaa
