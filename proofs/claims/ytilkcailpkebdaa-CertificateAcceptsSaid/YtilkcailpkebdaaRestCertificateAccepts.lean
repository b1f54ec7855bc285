/-
  Texts of the proof, one after the other.
-/
import Derived.Test.YtilkcailpkebdaaBase3
import Derived.Test.YtilkcailpkebdaaBase9
import Derived.Test.YtilkcailpkebdaaBase10

/-
  treatylaw27.CertificateAccepts: the law's walk.
-/
namespace Go.Proofs.Ytilkcailpkebdaa
open Go.RowKit
set_option linter.unusedVariables false

set_option maxRecDepth 100000 in
set_option maxHeartbeats 4000000 in
theorem lawAccepts (D : Option Addr) (dc : Nat) (deck : List Int) (O : Option Addr) (oc : Nat) (other : List Int) (w : World)
    (hD : Ints w 0 D deck) (hO : Ints w 0 O other) (hdl : deck.length ≤ 9223372036854775807) (hol : other.length ≤ 9223372036854775807) :
    Calls Try.prog 10 #[.slice D deck.length dc, .slice O other.length oc] w fun e w' => e = .returned (.bool true) ∧ Below w.heap.size w w' := by
  have C1 := Lib.hid (few27_any D dc deck O oc other w hD hO hdl hol)
  obtain ⟨m0, hm0⟩ : ∃ k, k = deck.length := ⟨_, rfl⟩
  obtain ⟨o, ho⟩ : ∃ k, k = other.length := ⟨_, rfl⟩
  rw [← hm0, ← ho] at C1
  rw [← hm0, ← ho]
  clear hm0 ho hdl hol hD hO
  go_enter Try.func10, Try.ntmps10
  go_wp2_with fail
  refine C1.out.mono ?_
  rintro e w1 ⟨LA, lc, los, last, AA, ac, am, N, G, gc, ls, rfl, hl10, hmade, hal, hall, hN1, hN2, hl1, hl3, hlall, hLo, hAm, hG, hb1⟩
  have hL1 : Losses w1 0 LA los := hLo.low (Nat.zero_le _)
  have hA1 : Ints w1 0 AA am := hAm.low (Nat.zero_le _)
  have hG1 : Pairs w1 0 G ls := hG.low (Nat.zero_le _)
  have hce := chkE_made hmade (by omega) hal hall
  have hre := (rec_ok (t := 0) (ls := ls) (by omega) hlall (by omega)).1
  have hK := lay_sum hl3 (show am.length ≤ 10 by omega) hall
  have h87 : N ≤ 8784 := by omega
  have hal' : am.length ≤ 10 := by omega
  obtain ⟨a1, a2, a3, a4, a5, _⟩ := best_all hce hre hN1 h87
  have hva := best_valid (ls := ls) hce hN1 h87
  obtain ⟨hR, hT⟩ := bestR_evC hce hre hN1 h87
  have hlT : (bestT los am N ls).length = (bestF los am N ls).length := by rw [a3, List.length_map]
  have hlR : (bestR los am N ls).length = (bestF los am N ls).length := by rw [a4, List.length_map]
  have hA0 := bestA_ok hce hre hN1 h87
  have E1 := Lib.hid (wbest_any LA lc los AA ac am N G gc ls w1 (by omega) (by omega) (by omega) hL1 hA1 hG1)
  rw [a1, hlT, hlR, a2, hR, hT] at E1
  have E2 : Hid (∀ W, Below w1.heap.size w1 W → _) := fun W h => cprove_any LA lc los AA ac am N G gc ls W (by omega) (by omega) (by omega) (hL1.below h) (hA1.below h) (hG1.below h)
  rw [hA0] at E2
  have hsum : bestSum los am N ls = sumI (evR los am (bestF los am N ls) N ls) := by rw [← hR, a5]
  have E3 : Hid (∀ (W : Option Addr) (wc : Nat) (T : Option Addr) (tc : Nat) (R : Option Addr) (rc : Nat) (B : Option Addr) (bc : Nat) (bs : List Bd) V, Below w1.heap.size w1 V → (bestF los am N ls).length ≤ wc → bs.map Bd.key = provF los am N ls → Wins V 0 W (bestF los am N ls) → Ints V 0 T (totF los am (bestF los am N ls)) → Ints V 0 R (evR los am (bestF los am N ls) N ls) → Bnds V B bs → Calls Try.prog 31 #[.slice LA los.length lc, .slice AA am.length ac, .int .i64 N, .slice G ls.length gc, .agg #[.slice W (bestF los am N ls).length wc, .slice T (bestF los am N ls).length tc, .slice R (bestF los am N ls).length rc, .int .i64 (sumI (evR los am (bestF los am N ls) N ls))], .slice B bs.length bc] V fun e w' => e = .returned (.int .i64 0) ∧ Below V.heap.size V w') := fun W wc T tc R rc B bc bs V hV hwc hk h1 h2 h3 h4 => by
    have hpf := prov_facts hce hk
    have := verify_any LA lc los AA ac am N G gc ls W wc (bestF los am N ls) T tc R rc B bc bs V hce hre hva (by omega) hwc (by omega) (fun b hb => by have := hpf.2 b hb; omega) (hL1.below hV) (hA1.below hV) (hG1.below hV) h1 h2 h3 h4
    rw [ver_prov hce hre hN1 h87 hK hk, if_pos hsum] at this
    exact this
  obtain ⟨bf, hbf⟩ : ∃ x, x = bestF los am N ls := ⟨_, rfl⟩
  rw [← hbf] at E1 E3
  obtain ⟨ts, hts⟩ : ∃ x, x = totF los am bf := ⟨_, rfl⟩
  obtain ⟨rs, hrs⟩ : ∃ x, x = evR los am bf N ls := ⟨_, rfl⟩
  rw [← hts, ← hrs] at E1 E3
  obtain ⟨tot, htot⟩ : ∃ x, x = sumI rs := ⟨_, rfl⟩
  rw [← htot] at E1 E3
  obtain ⟨nb, hnb⟩ : ∃ x, x = bf.length := ⟨_, rfl⟩
  rw [← hnb] at E1 E3
  obtain ⟨nl, hnl⟩ : ∃ k, k = los.length := ⟨_, rfl⟩
  obtain ⟨na, hna⟩ : ∃ k, k = am.length := ⟨_, rfl⟩
  obtain ⟨ng, hng⟩ : ∃ k, k = ls.length := ⟨_, rfl⟩
  rw [← hnl, ← hna, ← hng] at E1 E2 E3
  rw [← hnl, ← hna, ← hng]
  clear hbf hts hrs htot hnb hnl hna hng hl10 hmade hal hall hl1 hl3 hlall hLo hAm hG hL1 hA1 hG1 hce hre hK hal' a1 a2 a3 a4 a5 hva hR hT hlT hlR hA0 hsum C1
  go_wp2_with fail
  refine E1.out.mono ?_
  rintro e w2 ⟨W1, wc1, T1, tc1, R1, rc1, rfl, hW1, hT1, hR1, hb2, hcp⟩
  obtain ⟨v2, hv2⟩ : ∃ x : World, x = w2.alloc (.cells #[.slice W1 nb wc1, .slice T1 nb tc1, .slice R1 nb rc1, .int .i64 tot] 46) := ⟨_, rfl⟩
  obtain ⟨p1, hp1⟩ : ∃ x : Nat, x = w2.heap.size := ⟨_, rfl⟩
  have hB1 : v2.heap[p1]? = some (.cells #[.slice W1 nb wc1, .slice T1 nb tc1, .slice R1 nb rc1, .int .i64 tot] 46 (0, 0)) := by rw [hv2, hp1]; exact heap_alloc_new _ _
  have hX2 : Below w2.heap.size w2 v2 := by rw [hv2]; exact below_alloc _ _
  have hd2 := hb2.trans (hX2.mono hb2.size)
  have HCP := Lib.hid hcp
  clear hcp E1
  go_upto_region 3 with fail
  rw [← hv2, ← hp1]
  clear hv2 hp1
  go_wp2_with fail
  refine (E2.out _ hd2).mono ?_
  rintro e w3 ⟨B, bc, bs, rfl, hkey, hBn, hb3⟩
  have hd3 := hd2.trans (hb3.mono hd2.size)
  have hB3 := (hb3.block p1 (lt_of_heap0 hB1)).trans hB1
  have c0 : w3.cell? ⟨p1, 0, none⟩ = some (.slice W1 nb wc1) := by simp [World.cell?, hB3]
  have c1 : w3.cell? ⟨p1, 1, none⟩ = some (.slice T1 nb tc1) := by simp [World.cell?, hB3]
  have c2 : w3.cell? ⟨p1, 2, none⟩ = some (.slice R1 nb rc1) := by simp [World.cell?, hB3]
  have c3 : w3.cell? ⟨p1, 3, none⟩ = some (.int .i64 tot) := by simp [World.cell?, hB3]
  have D3 := Lib.hid (E3.out W1 wc1 T1 tc1 R1 rc1 B bc bs w3 hd3 HCP.out hkey (((hW1.below hX2).below hb3).low (Nat.zero_le _)) (((hT1.below hX2).below hb3).low (Nat.zero_le _)) (((hR1.below hX2).below hb3).low (Nat.zero_le _)) hBn)
  obtain ⟨kb, hkb⟩ : ∃ x, x = bs.length := ⟨_, rfl⟩
  rw [← hkb] at D3 ⊢
  clear hkb hkey hBn E3 E2 hW1 hT1 hR1 hX2 hB1 hB3 hb3
  go_wp2_with fail
  refine D3.out.mono ?_
  rintro e w4 ⟨rfl, hb4⟩
  have hd4 := hd3.trans (hb4.mono hd3.size)
  have hb04 := hb1.trans (hd4.mono hb1.size)
  go_wp2_with (go_at_call 32; refine (awake27_any _).mono ?_; rintro e wE ⟨rfl, hbE⟩)
  go_ret
  exact ⟨rfl, hb04.trans (hbE.mono hb04.size)⟩

end Go.Proofs.Ytilkcailpkebdaa
