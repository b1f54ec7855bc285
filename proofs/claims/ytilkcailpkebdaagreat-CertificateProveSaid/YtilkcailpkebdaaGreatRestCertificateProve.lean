/-
  Texts of the proof, one after the other.
-/
import Derived.Test.YtilkcailpkebdaaGreatBase3
import Derived.Test.YtilkcailpkebdaaGreatBase9
import Derived.Test.YtilkcailpkebdaaGreatBase11

/-
  treatylaw27.CertificateProve: the law's walk.
-/
namespace Go.Proofs.YtilkcailpkebdaaGreat
open Go.RowKit
set_option linter.unusedVariables false

theorem prov_any {los : List Los} {am : List Int} {n : Int} {ls : List P2} {bs : List Bd} (hk : bs.map Bd.key = provF los am n ls) : bs.length ≤ los.length ∧ ∀ b ∈ bs, b.vs.length ≤ 65 := by
  constructor
  · have := congrArg List.length hk
    rw [List.length_map] at this
    rw [this]; exact prov_len _ _ _ _
  · intro b hb
    have hm : b.key ∈ provF los am n ls := by rw [← hk]; exact List.mem_map_of_mem hb
    unfold provF at hm
    split at hm
    · rename_i h
      obtain ⟨p, _, e⟩ := List.mem_map.1 hm
      have e2 : b.vs = valsF n ls (ptsF los am p) := (congrArg Prod.snd e).symm
      rw [e2, valsF_length]
      have := (ptsF_fine (bestA_parts h).1 p).2.2.2
      omega
    · simp at hm

set_option maxRecDepth 100000 in
set_option maxHeartbeats 4000000 in
theorem lawProve (U : Option Addr) (uc : Nat) (lg : List Los) (M : Option Addr) (mc : Nat) (ag : List Int) (length : Int) (Y : Option Addr) (yc : Nat) (lay : List P2) (D : Option Addr) (dc : Nat) (deck : List Int) (O : Option Addr) (oc : Nat) (other : List Int) (w : World)
    (hU : Losses w 0 U lg) (hM : Ints w 0 M ag) (hY : Pairs w 0 Y lay) (hD : Ints w 0 D deck) (hO : Ints w 0 O other) (hul : lg.length ≤ 9223372036854775807) (hml : ag.length ≤ 9223372036854775807) (hyl : lay.length ≤ 9223372036854775807) (hdl : deck.length ≤ 9223372036854775807) (hol : other.length ≤ 9223372036854775807) (hcp : lg.length ≤ uc) (hnc : U = none → uc = 0) :
    Calls Tryz.prog 4 #[.slice U lg.length uc, .slice M ag.length mc, .int .i64 length, .slice Y lay.length yc, .slice D deck.length dc, .slice O other.length oc] w fun e w' => e = .returned (.bool true) ∧ Below w.heap.size w w' := by
  clear hcp hnc
  by_cases hlen : 40 < lg.length ∨ 40 < ag.length ∨ 20 < lay.length
  · obtain ⟨n, hn⟩ : ∃ n, n = lg.length := ⟨_, rfl⟩
    obtain ⟨k, hk⟩ : ∃ n, n = ag.length := ⟨_, rfl⟩
    obtain ⟨j, hj⟩ : ∃ n, n = lay.length := ⟨_, rfl⟩
    obtain ⟨dl, hdl'⟩ : ∃ n, n = deck.length := ⟨_, rfl⟩
    obtain ⟨ol, hol'⟩ : ∃ n, n = other.length := ⟨_, rfl⟩
    rw [← hn, ← hk, ← hj] at hlen
    rw [← hn, ← hk, ← hj, ← hdl', ← hol']
    clear hn hk hj hul hml hyl hdl hol hU hM hY hD hO hdl' hol'
    by_cases h1 : 40 < n
    · have q1 : decide (40 < (n : Int)) = true := by simp; omega
      clear hlen
      go_enter Tryz.func4, Tryz.ntmps4
      go_wp2_with (go_at_call 12; refine (awake27_any _).mono ?_; rintro e w10 ⟨rfl, hb10⟩)
      go_ret
      exact ⟨rfl, hb10⟩
    · have q1 : decide (40 < (n : Int)) = false := by simp; omega
      by_cases h2 : 40 < k
      · have q2 : decide (40 < (k : Int)) = true := by simp; omega
        clear hlen
        go_enter Tryz.func4, Tryz.ntmps4
        go_wp2_with (go_at_call 12; refine (awake27_any _).mono ?_; rintro e w10 ⟨rfl, hb10⟩)
        go_ret
        exact ⟨rfl, hb10⟩
      · have q2 : decide (40 < (k : Int)) = false := by simp; omega
        have q3 : decide (20 < (j : Int)) = true := by simp; omega
        clear hlen
        go_enter Tryz.func4, Tryz.ntmps4
        go_wp2_with (go_at_call 12; refine (awake27_any _).mono ?_; rintro e w10 ⟨rfl, hb10⟩)
        go_ret
        exact ⟨rfl, hb10⟩
  have C1 := Lib.hid (few27_any D dc deck O oc other w hD hO hdl hol)
  have hx5 : lg.length ≤ 40 := by omega
  have hx6 : ag.length ≤ 40 := by omega
  have hx7 : lay.length ≤ 20 := by omega
  have E1 : Hid (∀ W, Below w.heap.size w W → _) := fun W h => cprove_any U uc lg M mc ag length Y yc lay W (by omega) (by omega) (by omega) (hU.below h) (hM.below h) (hY.below h)
  have E2 : Hid (∀ W, Below w.heap.size w W → _) := fun W h => rprove_any U uc lg M mc ag length Y yc lay W (by omega) (by omega) (by omega) (hU.below h) (hM.below h) (hY.below h)
  obtain ⟨nu, hnu⟩ : ∃ k, k = lg.length := ⟨_, rfl⟩
  obtain ⟨nm, hnm⟩ : ∃ k, k = ag.length := ⟨_, rfl⟩
  obtain ⟨ny, hny⟩ : ∃ k, k = lay.length := ⟨_, rfl⟩
  obtain ⟨er1, her1⟩ : ∃ k, k = bestA lg ag length lay := ⟨_, rfl⟩
  rw [← hnu, ← hnm, ← hny, ← her1] at E1 E2
  have HNU := Lib.hid hnu
  have q1 : decide (40 < (nu : Int)) = false := by simp; omega
  have q2 : decide (40 < (nm : Int)) = false := by simp; omega
  have q3 : decide (20 < (ny : Int)) = false := by simp; omega
  obtain ⟨m, hm⟩ : ∃ k, k = deck.length := ⟨_, rfl⟩
  obtain ⟨o, ho⟩ : ∃ k, k = other.length := ⟨_, rfl⟩
  rw [← hm, ← ho] at C1
  rw [← hm, ← ho, ← hnu, ← hnm, ← hny]
  clear hm ho hnu hnm hny her1 hdl hol hul hml hyl hlen
  go_enter Tryz.func4, Tryz.ntmps4
  go_wp2_with fail
  refine C1.out.mono ?_
  rintro e w1 ⟨LA, lc, los, last, AA, ac, am, N, G, gc, ls, rfl, hl10, _, hal, _, hN1, hN2, hl1, hl3, _, hLo, hAm, hG, hb1⟩
  have hL1 : Losses w1 0 LA los := hLo.low (Nat.zero_le _)
  have hA1 : Ints w1 0 AA am := hAm.low (Nat.zero_le _)
  have hG1 : Pairs w1 0 G ls := hG.low (Nat.zero_le _)
  have hal' : am.length ≤ 10 := by omega
  have E3 : Hid (∀ W, Below w1.heap.size w1 W → _) := fun W h => cprove_any LA lc los AA ac am N G gc ls W (by omega) (by omega) (by omega) (hL1.below h) (hA1.below h) (hG1.below h)
  have E4 : Hid (∀ W, Below w1.heap.size w1 W → _) := fun W h => rprove_any LA lc los AA ac am N G gc ls W (by omega) (by omega) (by omega) (hL1.below h) (hA1.below h) (hG1.below h)
  have HL10 := Lib.hid hl10
  obtain ⟨er2, her2⟩ : ∃ k, k = bestA los am N ls := ⟨_, rfl⟩
  obtain ⟨nl, hnl⟩ : ∃ k, k = los.length := ⟨_, rfl⟩
  obtain ⟨na, hna⟩ : ∃ k, k = am.length := ⟨_, rfl⟩
  obtain ⟨ng, hng⟩ : ∃ k, k = ls.length := ⟨_, rfl⟩
  rw [← hnl, ← hna, ← hng, ← her2] at E3 E4
  rw [← hnl, ← hna, ← hng]
  clear her2 hnl hna hng hal hal' hl1 hl3 hLo hAm hG hL1 hA1 hG1 C1 hl10 hx6 hx7
  go_wp2_with fail
  refine (E1.out _ hb1).mono ?_
  rintro e w2 ⟨B1, b1, bs1, rfl, hk1, hB1, hb2⟩
  obtain ⟨n1, hn1⟩ : ∃ k, k = bs1.length := ⟨_, rfl⟩
  rw [← hn1]
  have hb02 := hb1.trans (hb2.mono hb1.size)
  have HN1 := Lib.hid hn1
  have HK1 := Lib.hid hk1
  have HB1 := Lib.hid hB1
  clear hn1 hk1 hB1
  go_wp2_with fail
  refine (E2.out _ hb02).mono ?_
  rintro e w3 ⟨B2, b2, bs2, rfl, hk2, hB2, hb3⟩
  obtain ⟨n2, hn2⟩ : ∃ k, k = bs2.length := ⟨_, rfl⟩
  rw [← hn2]
  have hb13 := hb2.trans (hb3.mono hb2.size)
  have HN2 := Lib.hid hn2
  have HK2 := Lib.hid hk2
  have HB2 := Lib.hid hB2
  clear hn2 hk2 hB2 hb02 E1 E2
  go_wp2_with fail
  refine (E3.out _ hb13).mono ?_
  rintro e w4 ⟨B3, b3, bs3, rfl, hk3, hB3, hb4⟩
  obtain ⟨n3, hn3⟩ : ∃ k, k = bs3.length := ⟨_, rfl⟩
  rw [← hn3]
  have hb14 := hb13.trans (hb4.mono hb13.size)
  have HN3 := Lib.hid hn3
  have HK3 := Lib.hid hk3
  have HB3 := Lib.hid hB3
  clear hn3 hk3 hB3
  go_wp2_with fail
  refine (E4.out _ hb14).mono ?_
  rintro e w5 ⟨B4, b4, bs4, rfl, hk4, hB4, hb5⟩
  obtain ⟨n4, hn4⟩ : ∃ k, k = bs4.length := ⟨_, rfl⟩
  rw [← hn4]
  have hb15 := hb14.trans (hb5.mono hb14.size)
  have HN4 := Lib.hid hn4
  have y35 := hb4.trans (hb5.mono hb4.size)
  have y25 := hb3.trans (y35.mono hb3.size)
  have D1 := Lib.hid (sameBounds_self B1 B2 b1 b2 bs1 bs2 w5 (HK1.out.trans HK2.out.symm) (by have := (prov_any HK1.out).1; have := HNU.out; omega) (fun b hb => by have := (prov_any HK1.out).2 b hb; omega) (HB1.out.below y25) (HB2.out.below y35))
  have D2 : Hid (∀ W, Below w5.heap.size w5 W → _) := fun W h => sameBounds_self B3 B4 b3 b4 bs3 bs4 W (HK3.out.trans hk4.symm) (by have := (prov_any HK3.out).1; have := HL10.out; omega) (fun b hb => by have := (prov_any HK3.out).2 b hb; omega) ((HB3.out.below hb5).below h) (hB4.below h)
  rw [← HN1.out, ← HN2.out] at D1
  rw [← HN3.out, ← HN4.out] at D2
  clear hn4 hk4 hB4 E3 E4 hb13 hb14 hb2 hb3 hb4 hb5 y35 y25
  go_wp2_with fail
  refine D1.out.mono ?_
  rintro e w6 ⟨rfl, hb6⟩
  go_wp2_with fail
  refine (D2.out _ hb6).mono ?_
  rintro e w7 ⟨rfl, hb7⟩
  have hb16 := hb15.trans (hb6.mono hb15.size)
  have hb17 := hb16.trans (hb7.mono hb16.size)
  have hb07 := hb1.trans (hb17.mono hb1.size)
  go_wp2_with (go_at_call 12; refine (awake27_any _).mono ?_; rintro e wE ⟨rfl, hbE⟩)
  go_ret
  exact ⟨rfl, hb07.trans (hbE.mono hb07.size)⟩

end Go.Proofs.YtilkcailpkebdaaGreat
