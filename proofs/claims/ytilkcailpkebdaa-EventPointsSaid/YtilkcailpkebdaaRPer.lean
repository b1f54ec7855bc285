/-
  treatyref25.Perils: its contract.
-/
import Derived.Test.YtilkcailpkebdaaIns
import Derived.Test.YtilkcailpkebdaaPerils
namespace Go.Proofs.Ytilkcailpkebdaa
open Go.RowKit
set_option linter.unusedVariables false

theorem perilsF_eq (los : List Los) : perilsF los = insAll (perilsL los) := compact_sorted _
theorem ins_next (xs : List Int) {k : Nat} {x : Int} (h : xs[k]? = some x) : insI (insAll (xs.take k)) x = insAll (xs.take (k + 1)) := by
  unfold insAll
  rw [List.take_add_one, h]; simp
theorem insAll_take_len (xs : List Int) (k : Nat) : (insAll (xs.take k)).length ≤ xs.length := Nat.le_trans (insAll_len _) (by rw [List.length_take]; omega)

set_option maxRecDepth 100000 in
set_option maxHeartbeats 1000000 in
theorem rperils_any (A : Option Addr) (c : Nat) (los : List Los) (w : World) (hll : los.length ≤ 900) (hL : Losses w 0 A los) :
    Calls Try.prog 19 #[.slice A los.length c] w fun e w' => ∃ (B : Option Addr) (d : Nat), e = .returned (.slice B (perilsF los).length d) ∧ Ints w' 0 B (perilsF los) ∧ Below w.heap.size w w' := by
  rw [perilsF_eq]
  obtain ⟨n, hn⟩ : ∃ n, n = los.length := ⟨_, rfl⟩
  rw [← hn] at hll ⊢
  have HN := Lib.hid hn
  have HPL : Hid ((perilsL los).length = n) := by show _ = _; unfold perilsL; rw [List.length_map]; exact hn.symm
  clear hn
  go_enter Try.func19, Try.ntmps19
  go_wp2_with fail
  go_loopw [3, 4, 7] (fun v _ ii wr => ∃ (k : Nat) (B : Option Addr) (d : Nat), k ≤ n ∧ ii = .int .i64 k ∧ v = .slice B (insAll ((perilsL los).take k)).length d ∧ (insAll ((perilsL los).take k)).length ≤ d ∧ d ≤ 9223372036854775807 ∧ (B = none → d = 0) ∧ Flat B ∧ Ints wr 0 B (insAll ((perilsL los).take k)) ∧ Below w.heap.size w wr) (fun _ _ ii _ => n - (intOf ii).toNat)
  case atStart => exact ⟨0, none, 0, Nat.zero_le _, rfl, rfl, Nat.le_refl _, by omega, fun _ => rfl, .inl rfl, Sl.none_, Below.refl _ _⟩
  case round =>
    obtain ⟨k, B, d, hk, rfl, rfl, hd1, hd2, hBn, hBf, hI, hb⟩ := hrel
    have hlen := insAll_take_len (perilsL los) k
    rw [HPL.out] at hlen
    by_cases hkn : k < n
    · obtain ⟨x, hx, _⟩ := drop_cons (xs := los) (i := k) (by rw [← HN.out]; exact hkn)
      obtain ⟨b, off, rfl, _, hbl, c0, c1, c2, c3, c4, c5, c6, c7, c8, c9⟩ := (hL.below hb).at_ hx
      have HX : Hid ((perilsL los)[k]? = some x.peril) := by show _ = _; unfold perilsL; rw [List.getElem?_map, hx]; rfl
      have C1 := Lib.hid (insert_any B d (insAll ((perilsL los).take k)) x.peril wr (by omega) hd1 hd2 hBn hBf hI)
      rw [ins_next _ HX.out] at C1
      obtain ⟨m, hm⟩ : ∃ m, m = (insAll ((perilsL los).take k)).length := ⟨_, rfl⟩
      rw [← hm] at C1 ⊢
      clear hx c0 c1 c2 c3 c5 c6 c7 c8 c9 hm hd1 hd2 hBn hBf hI hlen
      go_wp2_with fail
      refine C1.out.mono ?_
      rintro e w2 ⟨B2, d2, rfl, h1, h2, h3, h4, h5, hb2⟩
      have hb02 := hb.trans (hb2.mono hb.size)
      obtain ⟨m2, hm2⟩ : ∃ m, m = (insAll ((perilsL los).take (k + 1))).length := ⟨_, rfl⟩
      rw [← hm2] at h1 ⊢
      have HM2 := Lib.hid hm2
      have H5 := Lib.hid h5
      have H3 := Lib.hid h3
      have H4 := Lib.hid h4
      clear hm2 h5 h3 h4 C1 hb2
      go_wp2_with fail
      go_roundw
      case rel => exact ⟨k + 1, B2, d2, by omega, by go_num, by rw [← HM2.out], by rw [← HM2.out]; exact h1, h2, H3.out, H4.out, H5.out, hb02⟩
      case measure => simp [intOf]; omega
    · obtain rfl : k = n := by omega
      rw [List.take_of_length_le (by rw [HPL.out]; exact Nat.le_refl _)] at hI ⊢
      go_wp2_with fail
      go_ret
      exact ⟨B, d, rfl, hI, hb⟩

end Go.Proofs.Ytilkcailpkebdaa
