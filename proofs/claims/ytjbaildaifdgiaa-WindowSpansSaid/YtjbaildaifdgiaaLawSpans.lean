/-
  treatylaw26.WindowSpans: the law's walk.
-/
import Derived.Test.YtjbaildaifdgiaaAwake26
import Derived.Test.YtjbaildaifdgiaaTerms26
import Derived.Test.YtjbaildaifdgiaaPts
import Derived.Test.YtjbaildaifdgiaaRSpans
import Derived.Test.YtjbaildaifdgiaaBits
namespace Go.Proofs.Ytjbaildaifdgiaa
open Go.RowKit
set_option linter.unusedVariables false

theorem flat_set2 (K : Nat) (x : P2) : ∀ ps : List P2, K < ps.length → ((ps.flatMap P2.cells).set (K * 2) (.int .i64 x.a)).set (K * 2 + 1) (.int .i64 x.b) = (ps.set K x).flatMap P2.cells := by
  induction K with
  | zero =>
    intro ps h
    cases ps with
    | nil => simp at h
    | cons p ps => simp [P2.cells]
  | succ K ih =>
    intro ps h
    cases ps with
    | nil => simp at h
    | cons p ps =>
      have := ih ps (by simpa using h)
      simp only [List.flatMap_cons, List.set_cons_succ, P2.cells, List.cons_append, List.nil_append]
      rw [show (K + 1) * 2 = K * 2 + 1 + 1 by omega, List.set_cons_succ, List.set_cons_succ, List.set_cons_succ, List.set_cons_succ]
      congr 2

set_option maxRecDepth 100000 in
set_option maxHeartbeats 1000000 in
theorem lawSpans (D : Option Addr) (dc : Nat) (deck : List Int) (E : Option Addr) (ec : Nat) (other : List Int) (at_ hour amount : Int) (w : World)
    (hD : Ints w 0 D deck) (hE : Ints w 0 E other) (hdl : deck.length ≤ 9223372036854775807) (hel : other.length ≤ 9223372036854775807) :
    Calls Try.prog 6 #[.slice D deck.length dc, .slice E other.length ec, .int .i64 at_, .int .i64 hour, .int .i64 amount] w fun e w' => e = .returned (.bool true) ∧ Below w.heap.size w w' := by
  have CN := Lib.hid (new_any D dc deck w hdl hD)
  have CT : Hid (∀ W, Ints W 0 E other → _) := fun W h => terms26_any E ec other W h hel
  obtain ⟨m, hm⟩ : ∃ m, m = deck.length := ⟨_, rfl⟩
  obtain ⟨o, ho⟩ : ∃ o, o = other.length := ⟨_, rfl⟩
  rw [← hm] at CN
  rw [← ho] at CT
  rw [← hm, ← ho]
  clear hm ho hdl hel
  go_enter Try.func6, Try.ntmps6
  go_wp2_with fail
  refine CN.out.mono ?_
  rintro e w1 ⟨rfl, hdk, hb1, hs1⟩
  clear hs1
  go_wp2_with fail
  refine (points_any _ 20 _ (by omega) (by omega) hdk).mono ?_
  rintro e w2 ⟨v, ps, last, rfl, hpl, hlast, hmade, hown, hdk2, hg2⟩
  have hb2 : Below w.heap.size w w2 := below_of_only hb1 hg2 (Nat.le_refl _)
  clear hdk2 hg2 hdk
  have hb1s := hb1.size
  clear hb1
  obtain ⟨K, hK⟩ := Int.eq_ofNat_of_zero_le (show 0 ≤ at_ / 2 % 32 from Int.emod_nonneg _ (by omega))
  have hs2 : bits .and .i64 (at_ / 2) 31 = (K : Int) := by rw [bits_mask 5 31 (by omega) (by decide)]; exact hK
  have hK31 : K ≤ 31 := by omega
  clear hK
  have hs3 : bits .and .i64 at_ 1 = at_ % 2 := bits_mask 1 1 (by omega) (by decide) at_
  by_cases hst : at_ % 2 = 1 ∧ K < ps.length
  · obtain ⟨hodd, hKp⟩ := hst
    rw [hodd] at hs3
    clear hodd
    rcases hown.2 with ⟨_, h0⟩ | ⟨g, f, cur, rfl, hgb, _⟩
    · omega
    have c0 : w2.cell? ⟨g, K * 2, none⟩ = some (.int .i64 (ps[K]'hKp).a) := by
      rw [hown.cellAt (K * 2) (by omega)]
      have := flat_get P2.cells 2 (fun _ => rfl) ps K _ (List.getElem?_eq_getElem hKp) 0 (by omega)
      rw [Nat.add_zero] at this
      exact this
    have c1 : w2.cell? ⟨g, K * 2 + 1, none⟩ = some (.int .i64 (ps[K]'hKp).b) := by
      rw [hown.cellAt (K * 2 + 1) (by omega)]
      exact flat_get P2.cells 2 (fun _ => rfl) ps K _ (List.getElem?_eq_getElem hKp) 1 (by omega)
    have f0 := hown.frozenAt (K * 2)
    have f1 := hown.frozenAt (K * 2 + 1)
    have hst1 := ((hown.stored (K * 2) (.int .i64 hour)).1.stored (K * 2 + 1) (.int .i64 amount)).1
    rw [flat_set2 K ⟨hour, amount⟩ ps hKp] at hst1
    have qK : decide (K < ps.length) = true := by simpa using hKp
    obtain ⟨np0, hnp0⟩ : ∃ np0, np0 = ps.length := ⟨_, rfl⟩
    have hps' : (ps.set K ⟨hour, amount⟩).length = np0 := by rw [List.length_set, hnp0]
    rw [← hnp0] at hst1 hKp qK hpl ⊢
    rw [← hps'] at hst1
    generalize hpsx : ps.set K ⟨hour, amount⟩ = ps' at hst1 hps'
    clear hnp0 hpsx hown
    go_wp2_with fail
    obtain ⟨wz, hwz⟩ : ∃ wz : World, wz = (w2.setCell ⟨g, K * 2, none⟩ (.int .i64 hour)).setCell ⟨g, K * 2 + 1, none⟩ (.int .i64 amount) := ⟨_, rfl⟩
    have hbz : Below w.heap.size w wz := by rw [hwz]; exact (hb2.setCell (by simp; omega) _).setCell (by simp; omega) _
    have hF : Pairs wz 0 (some ⟨g, 0, none⟩) ps' := by rw [hwz]; exact (pairs_of_own hst1).low (Nat.zero_le _)
    rw [← hwz]
    obtain ⟨F, hFe⟩ : ∃ F : Option Addr, F = some ⟨g, 0, none⟩ := ⟨_, rfl⟩
    rw [← hFe] at hF ⊢
    rw [← hps']
    have hpl : (ps'.length : Int) ≤ 20 := by rw [hps']; exact hpl
    clear hwz hst1 c0 c1 f0 f1 hFe hps'
    refine (CT.out _ (hE.below hbz)).mono ?_
    rintro e w3 ⟨N, G, g3, ls, rfl, hN1, hN2, hl1, hl3, hall, hG, hb3⟩
    have hb03 := hbz.trans (hb3.mono hbz.size)
    have hF3 := hF.below hb3
    have hG3 : Pairs w3 0 G ls := hG.low (Nat.zero_le _)
    clear hall
    have CV3 : Hid (∀ W, Pairs W 0 F ps' → Pairs W 0 G ls → _) := fun W h h' => spans_any F f ps' N G g3 ls W (by omega) (by omega) h h'
    have CV4 : Hid (∀ W, Pairs W 0 F ps' → Pairs W 0 G ls → _) := fun W h h' => rspans_any F f ps' N G g3 ls W (by omega) (by omega) h h'
    obtain ⟨np, hnp⟩ : ∃ np, np = ps'.length := ⟨_, rfl⟩
    rw [← hnp] at CV3 CV4 ⊢
    obtain ⟨xs, hxs⟩ : ∃ xs, xs = spansOf ps' N ls := ⟨_, rfl⟩
    rw [← hxs] at CV3 CV4
    obtain ⟨er, her⟩ : ∃ er, er = chkErr ps' N ls := ⟨_, rfl⟩
    rw [← her] at CV3 CV4
    have hxl : xs.length ≤ 1000 := by rw [hxs]; exact Nat.le_trans (spansOf_len ps' N ls) (by omega)
    clear hnp hxs her
    go_wp2_with fail
    refine (CV3.out _ hF3 hG3).mono ?_
    rintro e w4 ⟨va, rfl, hva, hb4⟩
    have hb04 := hb03.trans (hb4.mono hb03.size)
    go_wp2_with fail
    refine (CV4.out _ (hF3.below hb4) (hG3.below hb4)).mono ?_
    rintro e w5 ⟨vb, rfl, hvb, hb5⟩
    have hb05 := hb04.trans (hb5.mono hb04.size)
    obtain ⟨X, x, rfl, _⟩ := own_shape hva
    obtain ⟨Y, y, rfl, _⟩ := own_shape hvb
    have hX : Pairs w5 0 X xs := ((pairs_of_own hva).below hb5).low (Nat.zero_le _)
    have hY : Pairs w5 0 Y xs := (pairs_of_own hvb).low (Nat.zero_le _)
    obtain ⟨nx, hnx⟩ : ∃ nx, nx = xs.length := ⟨_, rfl⟩
    rw [← hnx] at hxl ⊢
    have HNX := Lib.hid hnx
    clear hnx hva hvb hb5 hb4 hb3 hb03 hb04 hF3 hG3 hG hF CV3 CV4
    go_wp2_with fail
    go_loopw [19, 72] (fun _ ii wr => ∃ k : Nat, ii = .int .i64 k ∧ k ≤ nx ∧ Below w5.heap.size w5 wr) (fun _ ii _ => nx - (intOf ii).toNat)
    case atStart => exact ⟨0, rfl, Nat.zero_le _, Below.refl _ _⟩
    case round =>
      obtain ⟨k, rfl, hk, hbr⟩ := hrel
      by_cases hkn : k < nx
      · obtain ⟨q, hq, _⟩ := drop_cons (xs := xs) (i := k) (by rw [← HNX.out]; exact hkn)
        obtain ⟨b1, o1, rfl, _, _, c1, c2⟩ := (hX.below hbr).at_ hq
        obtain ⟨b2, o2, rfl, _, _, c3, c4⟩ := (hY.below hbr).at_ hq
        have hne := neq2 q.a q.b q.a q.b
        simp only [beq_self_eq_true, Bool.and_self, Bool.not_true] at hne
        clear hq
        go_wp2_with fail
        go_quiet (fail)
        go_wp2_with fail
        go_roundw
        case rel => exact ⟨k + 1, by go_num, by omega, below_drewN hbr _⟩
        case measure => simp [intOf]; omega
      · have hb0r := hb05.trans (hbr.mono hb05.size)
        go_wp2_with (go_at_call 18; refine (awake26_any _).mono ?_; rintro e w10 ⟨rfl, hb10⟩)
        go_ret
        exact ⟨rfl, hb0r.trans (hb10.mono hb0r.size)⟩

  · obtain ⟨F, f, rfl, _⟩ := own_shape hown
    have hF : Pairs w2 0 F ps := (pairs_of_own hown).low (Nat.zero_le _)
    have hbz := hb2
    obtain ⟨ps', hps'⟩ : ∃ ps', ps' = ps := ⟨_, rfl⟩
    rw [← hps'] at hF hpl ⊢
    rw [← hps'] at hst
    clear hps' hown hmade hlast
    by_cases hodd : at_ % 2 = 1
    · have hKp : ps'.length ≤ K := by omega
      have qK : decide (K < ps'.length) = false := by simp; omega
      rw [hodd] at hs3
      clear hst hodd
      go_wp2_with fail
      refine (CT.out _ (hE.below hbz)).mono ?_
      rintro e w3 ⟨N, G, g3, ls, rfl, hN1, hN2, hl1, hl3, hall, hG, hb3⟩
      have hb03 := hbz.trans (hb3.mono hbz.size)
      have hF3 := hF.below hb3
      have hG3 : Pairs w3 0 G ls := hG.low (Nat.zero_le _)
      clear hall
      have CV3 : Hid (∀ W, Pairs W 0 F ps' → Pairs W 0 G ls → _) := fun W h h' => spans_any F f ps' N G g3 ls W (by omega) (by omega) h h'
      have CV4 : Hid (∀ W, Pairs W 0 F ps' → Pairs W 0 G ls → _) := fun W h h' => rspans_any F f ps' N G g3 ls W (by omega) (by omega) h h'
      obtain ⟨np, hnp⟩ : ∃ np, np = ps'.length := ⟨_, rfl⟩
      rw [← hnp] at CV3 CV4 ⊢
      obtain ⟨xs, hxs⟩ : ∃ xs, xs = spansOf ps' N ls := ⟨_, rfl⟩
      rw [← hxs] at CV3 CV4
      obtain ⟨er, her⟩ : ∃ er, er = chkErr ps' N ls := ⟨_, rfl⟩
      rw [← her] at CV3 CV4
      have hxl : xs.length ≤ 1000 := by rw [hxs]; exact Nat.le_trans (spansOf_len ps' N ls) (by omega)
      clear hnp hxs her
      go_wp2_with fail
      refine (CV3.out _ hF3 hG3).mono ?_
      rintro e w4 ⟨va, rfl, hva, hb4⟩
      have hb04 := hb03.trans (hb4.mono hb03.size)
      go_wp2_with fail
      refine (CV4.out _ (hF3.below hb4) (hG3.below hb4)).mono ?_
      rintro e w5 ⟨vb, rfl, hvb, hb5⟩
      have hb05 := hb04.trans (hb5.mono hb04.size)
      obtain ⟨X, x, rfl, _⟩ := own_shape hva
      obtain ⟨Y, y, rfl, _⟩ := own_shape hvb
      have hX : Pairs w5 0 X xs := ((pairs_of_own hva).below hb5).low (Nat.zero_le _)
      have hY : Pairs w5 0 Y xs := (pairs_of_own hvb).low (Nat.zero_le _)
      obtain ⟨nx, hnx⟩ : ∃ nx, nx = xs.length := ⟨_, rfl⟩
      rw [← hnx] at hxl ⊢
      have HNX := Lib.hid hnx
      clear hnx hva hvb hb5 hb4 hb3 hb03 hb04 hF3 hG3 hG hF CV3 CV4
      go_wp2_with fail
      go_loopw [19, 72] (fun _ ii wr => ∃ k : Nat, ii = .int .i64 k ∧ k ≤ nx ∧ Below w5.heap.size w5 wr) (fun _ ii _ => nx - (intOf ii).toNat)
      case atStart => exact ⟨0, rfl, Nat.zero_le _, Below.refl _ _⟩
      case round =>
        obtain ⟨k, rfl, hk, hbr⟩ := hrel
        by_cases hkn : k < nx
        · obtain ⟨q, hq, _⟩ := drop_cons (xs := xs) (i := k) (by rw [← HNX.out]; exact hkn)
          obtain ⟨b1, o1, rfl, _, _, c1, c2⟩ := (hX.below hbr).at_ hq
          obtain ⟨b2, o2, rfl, _, _, c3, c4⟩ := (hY.below hbr).at_ hq
          have hne := neq2 q.a q.b q.a q.b
          simp only [beq_self_eq_true, Bool.and_self, Bool.not_true] at hne
          clear hq
          go_wp2_with fail
          go_quiet (fail)
          go_wp2_with fail
          go_roundw
          case rel => exact ⟨k + 1, by go_num, by omega, below_drewN hbr _⟩
          case measure => simp [intOf]; omega
        · have hb0r := hb05.trans (hbr.mono hb05.size)
          go_wp2_with (go_at_call 18; refine (awake26_any _).mono ?_; rintro e w10 ⟨rfl, hb10⟩)
          go_ret
          exact ⟨rfl, hb0r.trans (hb10.mono hb0r.size)⟩

    · have hev : at_ % 2 = 0 := by omega
      rw [hev] at hs3
      clear hst hodd hev
      go_wp2_with fail
      refine (CT.out _ (hE.below hbz)).mono ?_
      rintro e w3 ⟨N, G, g3, ls, rfl, hN1, hN2, hl1, hl3, hall, hG, hb3⟩
      have hb03 := hbz.trans (hb3.mono hbz.size)
      have hF3 := hF.below hb3
      have hG3 : Pairs w3 0 G ls := hG.low (Nat.zero_le _)
      clear hall
      have CV3 : Hid (∀ W, Pairs W 0 F ps' → Pairs W 0 G ls → _) := fun W h h' => spans_any F f ps' N G g3 ls W (by omega) (by omega) h h'
      have CV4 : Hid (∀ W, Pairs W 0 F ps' → Pairs W 0 G ls → _) := fun W h h' => rspans_any F f ps' N G g3 ls W (by omega) (by omega) h h'
      obtain ⟨np, hnp⟩ : ∃ np, np = ps'.length := ⟨_, rfl⟩
      rw [← hnp] at CV3 CV4 ⊢
      obtain ⟨xs, hxs⟩ : ∃ xs, xs = spansOf ps' N ls := ⟨_, rfl⟩
      rw [← hxs] at CV3 CV4
      obtain ⟨er, her⟩ : ∃ er, er = chkErr ps' N ls := ⟨_, rfl⟩
      rw [← her] at CV3 CV4
      have hxl : xs.length ≤ 1000 := by rw [hxs]; exact Nat.le_trans (spansOf_len ps' N ls) (by omega)
      clear hnp hxs her
      go_wp2_with fail
      refine (CV3.out _ hF3 hG3).mono ?_
      rintro e w4 ⟨va, rfl, hva, hb4⟩
      have hb04 := hb03.trans (hb4.mono hb03.size)
      go_wp2_with fail
      refine (CV4.out _ (hF3.below hb4) (hG3.below hb4)).mono ?_
      rintro e w5 ⟨vb, rfl, hvb, hb5⟩
      have hb05 := hb04.trans (hb5.mono hb04.size)
      obtain ⟨X, x, rfl, _⟩ := own_shape hva
      obtain ⟨Y, y, rfl, _⟩ := own_shape hvb
      have hX : Pairs w5 0 X xs := ((pairs_of_own hva).below hb5).low (Nat.zero_le _)
      have hY : Pairs w5 0 Y xs := (pairs_of_own hvb).low (Nat.zero_le _)
      obtain ⟨nx, hnx⟩ : ∃ nx, nx = xs.length := ⟨_, rfl⟩
      rw [← hnx] at hxl ⊢
      have HNX := Lib.hid hnx
      clear hnx hva hvb hb5 hb4 hb3 hb03 hb04 hF3 hG3 hG hF CV3 CV4
      go_wp2_with fail
      go_loopw [19, 72] (fun _ ii wr => ∃ k : Nat, ii = .int .i64 k ∧ k ≤ nx ∧ Below w5.heap.size w5 wr) (fun _ ii _ => nx - (intOf ii).toNat)
      case atStart => exact ⟨0, rfl, Nat.zero_le _, Below.refl _ _⟩
      case round =>
        obtain ⟨k, rfl, hk, hbr⟩ := hrel
        by_cases hkn : k < nx
        · obtain ⟨q, hq, _⟩ := drop_cons (xs := xs) (i := k) (by rw [← HNX.out]; exact hkn)
          obtain ⟨b1, o1, rfl, _, _, c1, c2⟩ := (hX.below hbr).at_ hq
          obtain ⟨b2, o2, rfl, _, _, c3, c4⟩ := (hY.below hbr).at_ hq
          have hne := neq2 q.a q.b q.a q.b
          simp only [beq_self_eq_true, Bool.and_self, Bool.not_true] at hne
          clear hq
          go_wp2_with fail
          go_quiet (fail)
          go_wp2_with fail
          go_roundw
          case rel => exact ⟨k + 1, by go_num, by omega, below_drewN hbr _⟩
          case measure => simp [intOf]; omega
        · have hb0r := hb05.trans (hbr.mono hb05.size)
          go_wp2_with (go_at_call 18; refine (awake26_any _).mono ?_; rintro e w10 ⟨rfl, hb10⟩)
          go_ret
          exact ⟨rfl, hb0r.trans (hb10.mono hb0r.size)⟩

end Go.Proofs.Ytjbaildaifdgiaa
