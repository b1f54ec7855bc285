/-
  Texts of the proof, one after the other.
-/
import Derived.Test.YtilkcailpkebdaaBase3
import Derived.Test.YtilkcailpkebdaaBase9
import Derived.Test.YtilkcailpkebdaaBase10
import Derived.Test.YtilkcailpkebdaaBase7

/-
  treatylaw27.CertificateTies: the law's walk.
-/
namespace Go.Proofs.Ytilkcailpkebdaa
open Go.RowKit
set_option linter.unusedVariables false

set_option maxRecDepth 100000 in
set_option maxHeartbeats 4000000 in
theorem lawTies (D : Option Addr) (dc : Nat) (deck : List Int) (O : Option Addr) (oc : Nat) (other : List Int) (T : Option Addr) (tc : Nat) (third : List Int) (w : World)
    (hD : Ints w 0 D deck) (hO : Ints w 0 O other) (hTT : Ints w 0 T third) (hdl : deck.length ≤ 9223372036854775807) (hol : other.length ≤ 9223372036854775807) (htl : third.length ≤ 9223372036854775807) :
    Calls Try.prog 11 #[.slice D deck.length dc, .slice O other.length oc, .slice T third.length tc] w fun e w' => e = .returned (.bool true) ∧ Below w.heap.size w w' := by
  have C1 := Lib.hid (few27_any D dc deck O oc other w hD hO hdl hol)
  have C3 : Hid (∀ W, Ints W 0 T third → _) := fun W h => new_any T tc third W htl h
  obtain ⟨m0, hm0⟩ : ∃ k, k = deck.length := ⟨_, rfl⟩
  obtain ⟨o, ho⟩ : ∃ k, k = other.length := ⟨_, rfl⟩
  obtain ⟨t, ht⟩ : ∃ k, k = third.length := ⟨_, rfl⟩
  rw [← hm0, ← ho] at C1
  rw [← ht] at C3
  rw [← hm0, ← ho, ← ht]
  clear hm0 ho ht hdl hol htl hD hO
  go_enter Try.func11, Try.ntmps11
  go_wp2_with fail
  refine C1.out.mono ?_
  rintro e w1 ⟨LA, lc, los, last, AA, ac, am, N, G, gc, ls, rfl, hl10, hmade, hal, hall, hN1, hN2, hl1, hl3, hlall, hLo, hAm, hG, hb1⟩
  have hL1 : Losses w1 0 LA los := hLo.low (Nat.zero_le _)
  have hA1 : Ints w1 0 AA am := hAm.low (Nat.zero_le _)
  have hG1 : Pairs w1 0 G ls := hG.low (Nat.zero_le _)
  have hce := chkE_made hmade (by omega) hal hall
  have hre := (rec_ok (t := 0) (ls := ls) (by omega) hlall (by omega)).1
  have hK := lay_sum hl3 (show am.length ≤ 10 by omega) hall
  have h87 : N ≤ 8784 := by omega
  have hal' : am.length ≤ 10 := by omega
  obtain ⟨a1, _, _, _, a5, _⟩ := best_all hce hre hN1 h87
  have hA0 := bestA_ok hce hre hN1 h87
  have E1 := Lib.hid (wbest_any LA lc los AA ac am N G gc ls w1 (by omega) (by omega) (by omega) hL1 hA1 hG1)
  rw [a1, a5] at E1
  have E2 : Hid (∀ W, Below w1.heap.size w1 W → _) := fun W h => cprove_any LA lc los AA ac am N G gc ls W (by omega) (by omega) (by omega) (hL1.below h) (hA1.below h) (hG1.below h)
  rw [hA0] at E2
  have HCE := Lib.hid hce
  have HRE := Lib.hid hre
  have E4 : Hid (∀ (X : Option Addr) (xc : Nat) (xs : List Win) V, xs.length ≤ 5 → xs.length ≤ xc → winsE xs N = 0 → Wins V 0 X xs → Below w1.heap.size w1 V → Calls Try.prog 24 #[.slice LA los.length lc, .slice AA am.length ac, .slice X xs.length xc, .int .i64 N, .slice G ls.length gc] V fun e w' => ∃ (W : Option Addr) (wc : Nat) (T : Option Addr) (tc : Nat) (R : Option Addr) (rc : Nat), e = .returned (.tuple #[.agg #[.slice W xs.length wc, .slice T xs.length tc, .slice R xs.length rc, .int .i64 (sumI (evR los am xs N ls))], .int .i64 0]) ∧ Wins w' V.heap.size W xs ∧ Ints w' V.heap.size T (totF los am xs) ∧ Ints w' V.heap.size R (evR los am xs N ls) ∧ Below V.heap.size V w' ∧ xs.length ≤ wc) := fun X xc xs V h5 hc hv hX hb => by
    have := evaluate_any LA lc los AA ac am X xc xs N G gc ls V (by omega) (by omega) (by omega) hc (by omega) (hL1.below hb) (hA1.below hb) hX (hG1.below hb)
    have hev := ev_parts HCE.out HRE.out hv
    obtain ⟨f1, f2, _⟩ := ev_ok hev
    rw [hev, f1, f2, totF_len, show (evR los am xs N ls).length = xs.length by rw [evR_valid HCE.out HRE.out hv, List.length_map]] at this
    exact this
  have E3 : Hid (∀ (xs : List Win) (W : Option Addr) (wc : Nat) (T : Option Addr) (tc : Nat) (R : Option Addr) (rc : Nat) (B : Option Addr) (bc : Nat) (bs : List Bd) V, Below w1.heap.size w1 V → winsE xs N = 0 → xs.length ≤ wc → bs.map Bd.key = provF los am N ls → Wins V 0 W xs → Ints V 0 T (totF los am xs) → Ints V 0 R (evR los am xs N ls) → Bnds V B bs → Calls Try.prog 31 #[.slice LA los.length lc, .slice AA am.length ac, .int .i64 N, .slice G ls.length gc, .agg #[.slice W xs.length wc, .slice T xs.length tc, .slice R xs.length rc, .int .i64 (sumI (evR los am xs N ls))], .slice B bs.length bc] V fun e w' => e = .returned (.int .i64 (if bestSum los am N ls = sumI (evR los am xs N ls) then 0 else 17)) ∧ Below V.heap.size V w') := fun xs W wc T tc R rc B bc bs V hV hv hwc hk h1 h2 h3 h4 => by
    have hpf := prov_facts HCE.out hk
    have := verify_any LA lc los AA ac am N G gc ls W wc xs T tc R rc B bc bs V HCE.out HRE.out hv (by omega) hwc (by omega) (fun b hb => by have := hpf.2 b hb; omega) (hL1.below hV) (hA1.below hV) (hG1.below hV) h1 h2 h3 h4
    rw [ver_prov HCE.out HRE.out hN1 h87 hK hk] at this
    exact this
  obtain ⟨bsum, hbs⟩ : ∃ x, x = bestSum los am N ls := ⟨_, rfl⟩
  rw [← hbs] at E1 E3
  obtain ⟨l1, hl1'⟩ : ∃ k, k = (bestW los am N ls).length := ⟨_, rfl⟩
  obtain ⟨l2, hl2'⟩ : ∃ k, k = (bestT los am N ls).length := ⟨_, rfl⟩
  obtain ⟨l3, hl3'⟩ : ∃ k, k = (bestR los am N ls).length := ⟨_, rfl⟩
  rw [← hl1', ← hl2', ← hl3'] at E1
  obtain ⟨nl, hnl⟩ : ∃ k, k = los.length := ⟨_, rfl⟩
  obtain ⟨na, hna⟩ : ∃ k, k = am.length := ⟨_, rfl⟩
  obtain ⟨ng, hng⟩ : ∃ k, k = ls.length := ⟨_, rfl⟩
  rw [← hnl, ← hna, ← hng] at E1 E2 E3 E4
  rw [← hnl, ← hna, ← hng]
  clear hbs hl1' hl2' hl3' hnl hna hng hl10 hmade hal hall hl1 hl3 hlall hLo hAm hG hL1 hA1 hG1 hce hre hK hal' a1 a5 hA0 C1
  go_wp2_with fail
  refine E1.out.mono ?_
  rintro e w2 ⟨W1, wc1, T1, tc1, R1, rc1, rfl, _, _, _, hb2, _⟩
  obtain ⟨v2, hv2⟩ : ∃ x : World, x = w2.alloc (.cells #[.slice W1 l1 wc1, .slice T1 l2 tc1, .slice R1 l3 rc1, .int .i64 bsum] 46) := ⟨_, rfl⟩
  obtain ⟨p1, hp1⟩ : ∃ x : Nat, x = w2.heap.size := ⟨_, rfl⟩
  have hB1 : v2.heap[p1]? = some (.cells #[.slice W1 l1 wc1, .slice T1 l2 tc1, .slice R1 l3 rc1, .int .i64 bsum] 46 (0, 0)) := by rw [hv2, hp1]; exact heap_alloc_new _ _
  have hX2 : Below w2.heap.size w2 v2 := by rw [hv2]; exact below_alloc _ _
  have hd2 := hb2.trans (hX2.mono hb2.size)
  clear E1 hb2 hX2
  go_upto_region 3 with fail
  rw [← hv2, ← hp1]
  clear hv2 hp1
  go_wp2_with fail
  refine (E2.out _ hd2).mono ?_
  rintro e w3 ⟨B, bc, bs, rfl, hkey, hBn, hb3⟩
  have hd3 := hd2.trans (hb3.mono hd2.size)
  have hB3 := (hb3.block p1 (lt_of_heap0 hB1)).trans hB1
  have hb03 := hb1.trans (hd3.mono hb1.size)
  have HKEY := Lib.hid hkey
  obtain ⟨kb, hkb⟩ : ∃ x, x = bs.length := ⟨_, rfl⟩
  rw [← hkb]
  have HKB := Lib.hid hkb
  clear hkey hkb E2 hb3 hB1
  go_wp2_with fail
  refine (C3.out _ (hTT.below hb03)).mono ?_
  rintro e w4 ⟨rfl, hdk, hb4, hs4⟩
  clear hs4 C3
  go_wp2_with fail
  refine (mwindows_any _ N _ hN1 (by omega) hdk).mono ?_
  rintro e w5 ⟨v, xs, rfl, hx5, hxE, hown, hdk5, hg5⟩
  have hb35 : Below w3.heap.size w3 w5 := below_of_only hb4 hg5 (Nat.le_refl _)
  have hd5 := hd3.trans (hb35.mono hd3.size)
  have hB5 := (hb35.block p1 (lt_of_heap0 hB3)).trans hB3
  obtain ⟨X, xc, rfl, hxc⟩ := own_shape hown
  have hX : Wins w5 0 X xs := (wins_of_ownE hown rfl).low (Nat.zero_le _)
  have D4 := Lib.hid (E4.out X xc xs w5 hx5 hxc hxE hX hd5)
  have hBn5 := hBn.below hb35
  have HXE := Lib.hid hxE
  have E3' : Hid (∀ (W : Option Addr) (wc : Nat) (T : Option Addr) (tc : Nat) (R : Option Addr) (rc : Nat) V, _) := fun W wc T tc R rc V => E3.out xs W wc T tc R rc B bc bs V
  rw [← HKB.out] at E3'
  obtain ⟨ts, hts⟩ : ∃ x, x = totF los am xs := ⟨_, rfl⟩
  obtain ⟨rs, hrs⟩ : ∃ x, x = evR los am xs N ls := ⟨_, rfl⟩
  rw [← hts, ← hrs] at D4 E3'
  obtain ⟨tot, htot⟩ : ∃ x, x = sumI rs := ⟨_, rfl⟩
  rw [← htot] at D4 E3'
  obtain ⟨nx, hnx⟩ : ∃ x, x = xs.length := ⟨_, rfl⟩
  rw [← hnx] at D4 E3' ⊢
  clear hts hrs htot hnx E4 E3 hx5 hxE hown hdk5 hg5 hdk hb4 hb35 hB3 hBn hxc hX
  go_wp2_with fail
  refine D4.out.mono ?_
  rintro e w6 ⟨W2, wc2, T2, tc2, R2, rc2, rfl, hW2, hT2, hR2, hb6, hcp⟩
  obtain ⟨v6, hv6⟩ : ∃ x : World, x = w6.alloc (.cells #[.slice W2 nx wc2, .slice T2 nx tc2, .slice R2 nx rc2, .int .i64 tot] 46) := ⟨_, rfl⟩
  obtain ⟨p2, hp2⟩ : ∃ x : Nat, x = w6.heap.size := ⟨_, rfl⟩
  have hB6 : v6.heap[p2]? = some (.cells #[.slice W2 nx wc2, .slice T2 nx tc2, .slice R2 nx rc2, .int .i64 tot] 46 (0, 0)) := by rw [hv6, hp2]; exact heap_alloc_new _ _
  have hX6 : Below w6.heap.size w6 v6 := by rw [hv6]; exact below_alloc _ _
  have hb56 := hb6.trans (hX6.mono hb6.size)
  have hd6 := hd5.trans (hb56.mono hd5.size)
  have hB1v := (hb56.block p1 (lt_of_heap0 hB5)).trans hB5
  have c1 : v6.cell? ⟨p1, 3, none⟩ = some (.int .i64 bsum) := by simp [World.cell?, hB1v]
  have c20 : v6.cell? ⟨p2, 0, none⟩ = some (.slice W2 nx wc2) := by simp [World.cell?, hB6]
  have c21 : v6.cell? ⟨p2, 1, none⟩ = some (.slice T2 nx tc2) := by simp [World.cell?, hB6]
  have c22 : v6.cell? ⟨p2, 2, none⟩ = some (.slice R2 nx rc2) := by simp [World.cell?, hB6]
  have c23 : v6.cell? ⟨p2, 3, none⟩ = some (.int .i64 tot) := by simp [World.cell?, hB6]
  have D3 := Lib.hid (E3'.out W2 wc2 T2 tc2 R2 rc2 v6 hd6 HXE.out hcp HKEY.out ((hW2.below hX6).low (Nat.zero_le _)) ((hT2.below hX6).low (Nat.zero_le _)) ((hR2.below hX6).low (Nat.zero_le _)) (hBn5.below hb56))
  have hb06 := hb1.trans (hd6.mono hb1.size)
  clear hW2 hT2 hR2 hb6 hcp hX6 hb56 hB6 hB1v hB5 E3' D4 hBn5
  go_upto_region 5 with fail
  rw [← hv6, ← hp2]
  clear hv6 hp2
  by_cases heq : tot = bsum
  · have q : (tot == bsum) = true := by simpa using heq
    rw [if_pos heq.symm] at D3
    clear heq
    go_wp2_with fail
    refine D3.out.mono ?_
    rintro e w7 ⟨rfl, hb7⟩
    have hb07 := hb06.trans (hb7.mono hb06.size)
    go_wp2_with (go_at_call 32; refine (awake27_any _).mono ?_; rintro e wE ⟨rfl, hbE⟩)
    go_ret
    exact ⟨rfl, hb07.trans (hbE.mono hb07.size)⟩
  · have q : (tot == bsum) = false := by simpa using heq
    rw [if_neg (fun h => heq h.symm)] at D3
    clear heq
    go_wp2_with fail
    refine D3.out.mono ?_
    rintro e w7 ⟨rfl, hb7⟩
    have hb07 := hb06.trans (hb7.mono hb06.size)
    go_wp2_with (go_at_call 32; refine (awake27_any _).mono ?_; rintro e wE ⟨rfl, hbE⟩)
    go_ret
    exact ⟨rfl, hb07.trans (hbE.mono hb07.size)⟩

end Go.Proofs.Ytilkcailpkebdaa
