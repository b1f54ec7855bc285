/-
  treatylaw25.EventPoints: the law's walk.
-/
import Derived.Test.YtilkcailpkebdaaRPts
import Derived.Test.YtilkcailpkebdaaPSame
import Derived.Test.YtilkcailpkebdaaAwake25
import Derived.Test.YtilkcailpkebdaaBits
namespace Go.Proofs.Ytilkcailpkebdaa
open Go.RowKit
set_option linter.unusedVariables false

theorem eptsF_len (los : List Los) (am : List Int) (p : Int) : (eptsF los am p).length ≤ los.length := by
  unfold eptsF; split
  · unfold ptsF; rw [List.length_map]; exact hoursF_len _ _ _
  · simp
theorem sameB_refl5 (xs : List Int) : sameB xs xs = true := by simp [sameB]
theorem pairs_of_ownP {w : World} {base n c : Nat} {e : TypeId} {A : Option Addr} {xs : List P2} (h : w.ownsRow base e 2 (.slice A n c) n (xs.flatMap P2.cells)) (hn : n = xs.length) : Pairs w base A xs := by
  subst hn; exact pairs_of_own h
theorem losses_of_ownP {w : World} {base n c : Nat} {e : TypeId} {A : Option Addr} {xs : List Los} (h : w.ownsRow base e 10 (.slice A n c) n (xs.flatMap Los.cells)) (hn : n = xs.length) : Losses w base A xs := by
  subst hn; exact losses_of_own h

set_option maxRecDepth 100000 in
set_option maxHeartbeats 2000000 in
theorem lawPoints (A : Option Addr) (c : Nat) (losses : List Los) (B : Option Addr) (d : Nat) (amounts : List Int) (D : Option Addr) (dc : Nat) (deck : List Int) (peril : Int) (w : World)
    (hA : Losses w 0 A losses) (hB : Ints w 0 B amounts) (hD : Ints w 0 D deck) (hal : losses.length ≤ 9223372036854775807) (hbl : amounts.length ≤ 9223372036854775807) (hdl : deck.length ≤ 9223372036854775807) (hac : losses.length ≤ c) (han : A = none → c = 0) :
    Calls Try.prog 3 #[.slice A losses.length c, .slice B amounts.length d, .slice D deck.length dc, .int .i64 peril] w fun e w' => e = .returned (.bool true) ∧ Below w.heap.size w w' := by
  by_cases hbig : 70 < losses.length ∨ 70 < amounts.length
  · obtain ⟨na, hna⟩ : ∃ k, k = losses.length := ⟨_, rfl⟩
    obtain ⟨nb, hnb⟩ : ∃ k, k = amounts.length := ⟨_, rfl⟩
    rw [← hna] at hbig hal ⊢
    rw [← hnb] at hbig hbl ⊢
    clear hna hnb hac han
    by_cases ha : 70 < na
    · have q : decide (70 < (na : Int)) = true := by simp; omega
      go_enter Try.func3, Try.ntmps3
      go_wp2_with (go_at_call 12; refine (awake25_any _).mono ?_; rintro e w10 ⟨rfl, hb10⟩)
      go_ret
      exact ⟨rfl, hb10⟩
    · have q : decide (70 < (na : Int)) = false := by simp; omega
      have q2 : decide (70 < (nb : Int)) = true := by simp; omega
      clear hbig
      go_enter Try.func3, Try.ntmps3
      go_wp2_with (go_at_call 12; refine (awake25_any _).mono ?_; rintro e w10 ⟨rfl, hb10⟩)
      go_ret
      exact ⟨rfl, hb10⟩
  have C1 := Lib.hid (few25_any D dc deck w hD hdl)
  have P1 : Hid (∀ W, Losses W 0 A losses → Ints W 0 B amounts → _) := fun W h h' => epoints_any A c losses B d amounts peril W (by omega) (by omega) h h'
  have P2' : Hid (∀ W, Losses W 0 A losses → Ints W 0 B amounts → _) := fun W h h' => rpoints_any A c losses B d amounts peril W (by omega) (by omega) h h'
  have P5 : Hid (∀ W, Losses W 0 A losses → _) := fun W h => perils_any A c losses W (by omega) h
  have P6 : Hid (∀ W, Losses W 0 A losses → _) := fun W h => rperils_any A c losses W (by omega) h
  have z1 := Lib.hid (show (eptsF losses amounts peril).length ≤ 9223372036854775807 from Nat.le_trans (eptsF_len _ _ _) hal)
  have z2 : Hid ((perilsF losses).length ≤ 9223372036854775807) := by
    show _ ≤ _
    rw [perilsF_eq]
    refine Nat.le_trans (insAll_len _) ?_
    unfold perilsL; rw [List.length_map]; exact hal
  obtain ⟨na, hna⟩ : ∃ k, k = losses.length := ⟨_, rfl⟩
  obtain ⟨nb, hnb⟩ : ∃ k, k = amounts.length := ⟨_, rfl⟩
  obtain ⟨nd, hnd⟩ : ∃ k, k = deck.length := ⟨_, rfl⟩
  rw [← hna, ← hnb] at P1 P2'
  rw [← hna] at P5 P6
  rw [← hnd] at C1
  rw [← hna, ← hnb, ← hnd]
  rw [← hna] at hal hbig
  rw [← hnb] at hbl hbig
  clear hna hnb hnd hac han hdl
  have qa : decide (70 < (na : Int)) = false := by simp; omega
  have qb : decide (70 < (nb : Int)) = false := by simp; omega
  have hs3 : bits .and .i64 peril 3 = peril % 4 := bits_mask 2 3 (by omega) (by decide) peril
  obtain ⟨K, hK⟩ : ∃ K, K = peril % 4 := ⟨_, rfl⟩
  rw [← hK] at hs3
  clear hK hbig
  obtain ⟨e1, he1⟩ : ∃ k, k = eptsF losses amounts peril := ⟨_, rfl⟩
  obtain ⟨r1, hr1⟩ : ∃ k, k = chkE losses amounts := ⟨_, rfl⟩
  obtain ⟨pp, hpp⟩ : ∃ k, k = perilsF losses := ⟨_, rfl⟩
  rw [← he1, ← hr1] at P1 P2'
  rw [← he1] at z1
  rw [← hpp] at P5 P6 z2
  clear he1 hr1 hpp
  go_enter Try.func3, Try.ntmps3
  go_wp2_with fail
  refine C1.out.mono ?_
  rintro e w1 ⟨u, v, los, last, am, rfl, hl12, hmade, hamn, hamb, hownL, hownA, hb1⟩
  clear hmade hamb C1
  obtain ⟨LA, lc, rfl, _⟩ := own_shape hownL
  obtain ⟨AA, ac, rfl, _⟩ := own_shape hownA
  have hL1 : Losses w1 0 LA los := (losses_of_own hownL).low (Nat.zero_le _)
  have hA1 : Ints w1 0 AA am := (ints_of_own hownA).low (Nat.zero_le _)
  have P3 : Hid (∀ W, Losses W 0 LA los → Ints W 0 AA am → _) := fun W h h' => epoints_any LA lc los AA ac am K W (by omega) (by omega) h h'
  have P4 : Hid (∀ W, Losses W 0 LA los → Ints W 0 AA am → _) := fun W h h' => rpoints_any LA lc los AA ac am K W (by omega) (by omega) h h'
  have z3 := Lib.hid (show (eptsF los am K).length ≤ 9223372036854775807 from Nat.le_trans (eptsF_len _ _ _) (by omega))
  obtain ⟨e2, he2⟩ : ∃ k, k = eptsF los am K := ⟨_, rfl⟩
  obtain ⟨r2, hr2⟩ : ∃ k, k = chkE los am := ⟨_, rfl⟩
  rw [← he2, ← hr2] at P3 P4
  rw [← he2] at z3
  obtain ⟨nl, hnl⟩ : ∃ k, k = los.length := ⟨_, rfl⟩
  obtain ⟨nm, hnm⟩ : ∃ k, k = am.length := ⟨_, rfl⟩
  rw [← hnl, ← hnm] at P3 P4
  rw [← hnl, ← hnm]
  clear he2 hr2 hnl hnm hownL hownA hl12 hamn
  go_wp2_with fail
  refine (P1.out _ (hA.below hb1) (hB.below hb1)).mono ?_
  rintro e w2 ⟨v1, rfl, hv1, hb2⟩
  obtain ⟨V1', c1, rfl, _⟩ := own_shape hv1
  have hV1 : Pairs w2 0 V1' e1 := (pairs_of_own hv1).low (Nat.zero_le _)
  have hb02 := hb1.trans (hb2.mono hb1.size)
  clear hv1
  go_wp2_with fail
  refine (P2'.out _ (hA.below hb02) (hB.below hb02)).mono ?_
  rintro e w3 ⟨v2, rfl, hv2, hb3⟩
  obtain ⟨V2', c2, rfl, _⟩ := own_shape hv2
  have hV2 : Pairs w3 0 V2' e1 := (pairs_of_own hv2).low (Nat.zero_le _)
  have hb03 := hb02.trans (hb3.mono hb02.size)
  have hb13 := hb2.trans (hb3.mono hb2.size)
  have hV1b := hV1.below hb3
  clear hv2 hV1
  go_wp2_with fail
  refine (P3.out _ (hL1.below hb13) (hA1.below hb13)).mono ?_
  rintro e w4 ⟨v3, rfl, hv3, hb4⟩
  obtain ⟨V3', c3, rfl, _⟩ := own_shape hv3
  have hV3 : Pairs w4 0 V3' e2 := (pairs_of_own hv3).low (Nat.zero_le _)
  have hb04 := hb03.trans (hb4.mono hb03.size)
  have hb14 := hb13.trans (hb4.mono hb13.size)
  have hV1c := hV1b.below hb4
  have hV2c := hV2.below hb4
  clear hv3 hV1b hV2
  go_wp2_with fail
  refine (P4.out _ (hL1.below hb14) (hA1.below hb14)).mono ?_
  rintro e w5 ⟨v4, rfl, hv4, hb5⟩
  obtain ⟨V4', c4, rfl, _⟩ := own_shape hv4
  have hV4 : Pairs w5 0 V4' e2 := (pairs_of_own hv4).low (Nat.zero_le _)
  have hb05 := hb04.trans (hb5.mono hb04.size)
  have S1 := Lib.hid (psame_self V1' V2' c1 c2 e1 w5 z1.out (hV1c.below hb5) (hV2c.below hb5))
  have S2 : Hid (∀ W, Below w5.heap.size w5 W → _) := fun W h => psame_self V3' V4' c3 c4 e2 W z3.out ((hV3.below hb5).below h) (hV4.below h)
  clear hv4 hV1c hV2c hV3 hV4 hb2 hb3 hb4 hb5 hb02 hb03 hb04 hb13 hb14 hb1 hL1 hA1 P1 P2' P3 P4
  go_wp2_with fail
  refine S1.out.mono ?_
  rintro e w6 ⟨rfl, hb6⟩
  have hb06 := hb05.trans (hb6.mono hb05.size)
  go_wp2_with fail
  refine (S2.out _ hb6).mono ?_
  rintro e w7 ⟨rfl, hb7⟩
  have hb07 := hb06.trans (hb7.mono hb06.size)
  clear hb05 hb06 hb6 hb7 S1 S2
  go_wp2_with fail
  refine (P5.out _ (hA.below hb07)).mono ?_
  rintro e w8 ⟨v5, rfl, hv5, hb8⟩
  obtain ⟨V5', c5, rfl, _⟩ := own_shape hv5
  have hV5 : Ints w8 0 V5' pp := (ints_of_own hv5).low (Nat.zero_le _)
  have hb08 := hb07.trans (hb8.mono hb07.size)
  clear hv5 hb8 hb07
  go_wp2_with fail
  refine (P6.out _ (hA.below hb08)).mono ?_
  rintro e w9 ⟨V6', c6, rfl, hV6, hb9⟩
  have hb09 := hb08.trans (hb9.mono hb08.size)
  have S3 := Lib.hid (sameInts_any V5' V6' c5 c6 pp pp w9 (hV5.below hb9) hV6 z2.out z2.out)
  rw [sameB_refl5] at S3
  clear hb08 hV5 hV6 hb9
  go_wp2_with fail
  refine S3.out.mono ?_
  rintro e w10 ⟨rfl, hb10⟩
  have hb010 := hb09.trans (hb10.mono hb09.size)
  go_wp2_with (go_at_call 12; refine (awake25_any _).mono ?_; rintro e w11 ⟨rfl, hb11⟩)
  go_ret
  exact ⟨rfl, hb010.trans (hb11.mono hb010.size)⟩

end Go.Proofs.Ytilkcailpkebdaa
