/-
  treatylaw26.WindowEvaluate: the law's walk.
-/
import Derived.Test.YtjbaildaifdgiaaAwake26
import Derived.Test.YtjbaildaifdgiaaTerms26
import Derived.Test.YtjbaildaifdgiaaFew26
import Derived.Test.YtjbaildaifdgiaaMWin
import Derived.Test.YtjbaildaifdgiaaREval
import Derived.Test.YtjbaildaifdgiaaSameC
namespace Go.Proofs.Ytjbaildaifdgiaa
open Go.RowKit
set_option linter.unusedVariables false

theorem evT_len (los : List Los) (am : List Int) (ws : List Win) (n : Int) (ls : List P2) : (evT los am ws n ls).length ≤ ws.length := by
  unfold evT; split
  · rw [totF_len]; exact Nat.le_refl _
  · simp
theorem evR_len (los : List Los) (am : List Int) (ws : List Win) (n : Int) (ls : List P2) : (evR los am ws n ls).length ≤ ws.length := by
  unfold evR recsF; rw [List.length_map]; exact evT_len _ _ _ _ _
theorem evW_len (los : List Los) (am : List Int) (ws : List Win) (n : Int) (ls : List P2) : (evW los am ws n ls).length ≤ ws.length := by
  unfold evW; split
  · exact Nat.le_refl _
  · simp

set_option maxRecDepth 100000 in
set_option maxHeartbeats 2000000 in
theorem lawEvaluate (U : Option Addr) (uc : Nat) (ws : List Win) (length : Int) (D : Option Addr) (dc : Nat) (deck : List Int) (O : Option Addr) (oc : Nat) (other : List Int) (T : Option Addr) (tc : Nat) (third : List Int) (w : World)
    (hU : Wins w 0 U ws) (hD : Ints w 0 D deck) (hO : Ints w 0 O other) (hT : Ints w 0 T third) (hul : ws.length ≤ 9223372036854775807) (hdl : deck.length ≤ 9223372036854775807) (hol : other.length ≤ 9223372036854775807) (htl : third.length ≤ 9223372036854775807) (huc : ws.length ≤ uc) (hun : U = none → uc = 0) :
    Calls Try.prog 7 #[.slice U ws.length uc, .int .i64 length, .slice D deck.length dc, .slice O other.length oc, .slice T third.length tc] w fun e w' => e = .returned (.bool true) ∧ Below w.heap.size w w' := by
  by_cases hlen : 70 < ws.length
  · obtain ⟨n, hn⟩ : ∃ n, n = ws.length := ⟨_, rfl⟩
    rw [← hn] at hlen hul ⊢
    have q1 : decide (70 < (n : Int)) = true := by simp; omega
    clear hn
    go_enter Try.func7, Try.ntmps7
    go_wp2_with (go_at_call 18; refine (awake26_any _).mono ?_; rintro e w10 ⟨rfl, hb10⟩)
    go_ret
    exact ⟨rfl, hb10⟩
  have C1 := Lib.hid (few26_any D dc deck w hD hdl)
  have C2 : Hid (∀ W, Ints W 0 O other → _) := fun W h => terms26_any O oc other W h hol
  have C3 : Hid (∀ W, Ints W 0 T third → _) := fun W h => new_any T tc third W htl h
  have hws70 : ws.length ≤ 70 := by omega
  obtain ⟨nu, hnu⟩ : ∃ k, k = ws.length := ⟨_, rfl⟩
  have HNU := Lib.hid hnu
  have q1 : decide (70 < (nu : Int)) = false := by simp; omega
  obtain ⟨m, hm⟩ : ∃ k, k = deck.length := ⟨_, rfl⟩
  obtain ⟨o, ho⟩ : ∃ k, k = other.length := ⟨_, rfl⟩
  obtain ⟨t, ht⟩ : ∃ k, k = third.length := ⟨_, rfl⟩
  rw [← hm] at C1
  rw [← ho] at C2
  rw [← ht] at C3
  rw [← hm, ← ho, ← ht, ← hnu]
  rw [← hnu] at hlen
  clear hm ho ht hnu hdl hol htl hul
  go_enter Try.func7, Try.ntmps7
  go_wp2_with fail
  refine C1.out.mono ?_
  rintro e w1 ⟨LA, lc, los, last, AA, ac, am, rfl, hl10, hmade, hal, hall, hLo, hAm, hb1⟩
  have hL1 : Losses w1 0 LA los := hLo.low (Nat.zero_le _)
  have hA1 : Ints w1 0 AA am := hAm.low (Nat.zero_le _)
  have hal' : am.length ≤ 10 := by omega
  clear hmade hall hLo hAm C1 hal
  go_wp2_with fail
  refine (C2.out _ (hO.below hb1)).mono ?_
  rintro e w2 ⟨N, G, gc, ls, rfl, hN1, hN2, hl1, hl3, hlall, hG, hb2⟩
  have hG2 : Pairs w2 0 G ls := hG.low (Nat.zero_le _)
  have hb02 := hb1.trans (hb2.mono hb1.size)
  clear hlall hG C2
  go_wp2_with fail
  refine (C3.out _ (hT.below hb02)).mono ?_
  rintro e w3 ⟨rfl, hdk, hb3, hs3⟩
  clear hs3 C3
  go_wp2_with fail
  refine (mwindows_any _ N _ hN1 (by omega) hdk).mono ?_
  rintro e w4 ⟨v, xs, rfl, hx5, hxE, hown, hdk4, hg4⟩
  have hb24 : Below w2.heap.size w2 w4 := below_of_only hb3 hg4 (Nat.le_refl _)
  have hb04 := hb02.trans (hb24.mono hb02.size)
  obtain ⟨X, xc, rfl, hxc⟩ := own_shape hown
  have hXn : X = none → xc = 0 := by
    rcases hown.2 with ⟨h, _⟩ | ⟨g, cap, cur, h, _⟩
    · intro _; injection h
    · intro h0; rw [h0] at h; injection h with h1; cases h1
  have hX : Wins w4 0 X xs := (wins_of_ownE hown rfl).low (Nat.zero_le _)
  have hL4 := (hL1.below hb2).below hb24
  have hA4 := (hA1.below hb2).below hb24
  have hG4 := hG2.below hb24
  have hU4 := hU.below hb04
  clear hdk hdk4 hg4 hb3 hb2 hb1 hb24 hb02 hL1 hA1 hG2 hxE hown
  have E1 : Hid (∀ W, Below w4.heap.size w4 W → _) := fun W h => evaluate_any LA lc los AA ac am U uc ws length G gc ls W (by omega) (by omega) (by omega) huc (by omega) (hL4.below h) (hA4.below h) (hU4.below h) (hG4.below h)
  have E2 : Hid (∀ W, Below w4.heap.size w4 W → _) := fun W h => revaluate_any LA lc los AA ac am U uc ws length G gc ls W (by omega) (by omega) (by omega) huc hun (by omega) (hL4.below h) (hA4.below h) (hU4.below h) (hG4.below h)
  have E3 : Hid (∀ W, Below w4.heap.size w4 W → _) := fun W h => evaluate_any LA lc los AA ac am X xc xs N G gc ls W (by omega) (by omega) (by omega) hxc (by omega) (hL4.below h) (hA4.below h) (hX.below h) (hG4.below h)
  have E4 : Hid (∀ W, Below w4.heap.size w4 W → _) := fun W h => revaluate_any LA lc los AA ac am X xc xs N G gc ls W (by omega) (by omega) (by omega) hxc hXn (by omega) (hL4.below h) (hA4.below h) (hX.below h) (hG4.below h)
  have z1 := evW_len los am ws length ls
  have z2 := evT_len los am ws length ls
  have z3 := evR_len los am ws length ls
  have z4 := evW_len los am xs N ls
  have z5 := evT_len los am xs N ls
  have z6 := evR_len los am xs N ls
  rw [← HNU.out] at E1 E2
  obtain ⟨fw, hfw⟩ : ∃ k, k = evW los am ws length ls := ⟨_, rfl⟩
  obtain ⟨ft, hft⟩ : ∃ k, k = evT los am ws length ls := ⟨_, rfl⟩
  obtain ⟨fr, hfr⟩ : ∃ k, k = evR los am ws length ls := ⟨_, rfl⟩
  obtain ⟨fe, hfe⟩ : ∃ k, k = evalErr los am ws length ls := ⟨_, rfl⟩
  obtain ⟨gw, hgw⟩ : ∃ k, k = evW los am xs N ls := ⟨_, rfl⟩
  obtain ⟨gt, hgt⟩ : ∃ k, k = evT los am xs N ls := ⟨_, rfl⟩
  obtain ⟨gr, hgr⟩ : ∃ k, k = evR los am xs N ls := ⟨_, rfl⟩
  obtain ⟨ge, hge⟩ : ∃ k, k = evalErr los am xs N ls := ⟨_, rfl⟩
  rw [← hfw, ← hft, ← hfr, ← hfe] at E1 E2
  rw [← hgw, ← hgt, ← hgr, ← hge] at E3 E4
  rw [← hfw] at z1
  rw [← hft] at z2
  rw [← hfr] at z3
  rw [← hgw] at z4
  rw [← hgt] at z5
  rw [← hgr] at z6
  clear hfw hft hfr hfe hgw hgt hgr hge hL4 hA4 hG4 hU4 hX
  obtain ⟨nl, hnl⟩ : ∃ k, k = los.length := ⟨_, rfl⟩
  obtain ⟨na, hna⟩ : ∃ k, k = am.length := ⟨_, rfl⟩
  obtain ⟨nx, hnx⟩ : ∃ k, k = xs.length := ⟨_, rfl⟩
  obtain ⟨ng, hng⟩ : ∃ k, k = ls.length := ⟨_, rfl⟩
  rw [← hnl, ← hna, ← hng] at E1 E2 E3 E4
  rw [← hnx] at E3 E4
  rw [← hnl, ← hna, ← hnx, ← hng]
  rw [← hnx] at z4 z5 z6 hx5
  clear hnl hna hnx hng hl10 hal' hl1 hl3 hxc huc
  have S1 : Hid (∀ (a1 a2 a3 b1 b2 b3 : Option Addr) (k1 k2 k3 l1 l2 l3 : Nat) (W : World), Wins W 0 a1 fw → Ints W 0 a2 ft → Ints W 0 a3 fr → Wins W 0 b1 fw → Ints W 0 b2 ft → Ints W 0 b3 fr → _) := fun a1 a2 a3 b1 b2 b3 k1 k2 k3 l1 l2 l3 W p1 p2 p3 p4 p5 p6 => sameChoice_self a1 a2 a3 b1 b2 b3 k1 k2 k3 l1 l2 l3 fw ft fr (sumI fr) W (by omega) (by omega) (by omega) p1 p2 p3 p4 p5 p6
  have S2 : Hid (∀ (a1 a2 a3 b1 b2 b3 : Option Addr) (k1 k2 k3 l1 l2 l3 : Nat) (W : World), Wins W 0 a1 gw → Ints W 0 a2 gt → Ints W 0 a3 gr → Wins W 0 b1 gw → Ints W 0 b2 gt → Ints W 0 b3 gr → _) := fun a1 a2 a3 b1 b2 b3 k1 k2 k3 l1 l2 l3 W p1 p2 p3 p4 p5 p6 => sameChoice_self a1 a2 a3 b1 b2 b3 k1 k2 k3 l1 l2 l3 gw gt gr (sumI gr) W (by omega) (by omega) (by omega) p1 p2 p3 p4 p5 p6
  obtain ⟨fs, hfs⟩ : ∃ k, k = sumI fr := ⟨_, rfl⟩
  obtain ⟨gs, hgs⟩ : ∃ k, k = sumI gr := ⟨_, rfl⟩
  rw [← hfs] at E1 E2 S1
  rw [← hgs] at E3 E4 S2
  clear hfs hgs
  go_wp2_with fail
  refine (E1.out _ (Below.refl _ _)).mono ?_
  rintro e w5 ⟨W1, wc1, T1, tc1, R1, rc1, rfl, hW1, hT1, hR1, hb5⟩
  obtain ⟨v5, hv5⟩ : ∃ x : World, x = w5.alloc (.cells #[.slice W1 fw.length wc1, .slice T1 ft.length tc1, .slice R1 fr.length rc1, .int .i64 fs] 59) := ⟨_, rfl⟩
  obtain ⟨p1, hp1⟩ : ∃ x : Nat, x = w5.heap.size := ⟨_, rfl⟩
  have hB1 : v5.heap[p1]? = some (.cells #[.slice W1 fw.length wc1, .slice T1 ft.length tc1, .slice R1 fr.length rc1, .int .i64 fs] 59 (0, 0)) := by rw [hv5, hp1]; exact heap_alloc_new _ _
  have hX1 : Below w5.heap.size w5 v5 := by rw [hv5]; exact below_alloc _ _
  go_wp2_with fail
  rw [← hv5, ← hp1]
  clear hv5 hp1
  have hd5 : Below w4.heap.size w4 v5 := hb5.trans (hX1.mono hb5.size)
  refine (E2.out _ hd5).mono ?_
  rintro e w6 ⟨W2, wc2, T2, tc2, R2, rc2, rfl, hW2, hT2, hR2, hb6⟩
  obtain ⟨v6, hv6⟩ : ∃ x : World, x = w6.alloc (.cells #[.slice W2 fw.length wc2, .slice T2 ft.length tc2, .slice R2 fr.length rc2, .int .i64 fs] 59) := ⟨_, rfl⟩
  obtain ⟨p2, hp2⟩ : ∃ x : Nat, x = w6.heap.size := ⟨_, rfl⟩
  have hB2 : v6.heap[p2]? = some (.cells #[.slice W2 fw.length wc2, .slice T2 ft.length tc2, .slice R2 fr.length rc2, .int .i64 fs] 59 (0, 0)) := by rw [hv6, hp2]; exact heap_alloc_new _ _
  have hX2 : Below w6.heap.size w6 v6 := by rw [hv6]; exact below_alloc _ _
  go_wp2_with fail
  rw [← hv6, ← hp2]
  clear hv6 hp2
  have hd6 : Below w4.heap.size w4 v6 := hd5.trans ((hb6.trans (hX2.mono hb6.size)).mono hd5.size)
  refine (E3.out _ hd6).mono ?_
  rintro e w7 ⟨W3, wc3, T3, tc3, R3, rc3, rfl, hW3, hT3, hR3, hb7⟩
  obtain ⟨v7, hv7⟩ : ∃ x : World, x = w7.alloc (.cells #[.slice W3 gw.length wc3, .slice T3 gt.length tc3, .slice R3 gr.length rc3, .int .i64 gs] 59) := ⟨_, rfl⟩
  obtain ⟨p3, hp3⟩ : ∃ x : Nat, x = w7.heap.size := ⟨_, rfl⟩
  have hB3 : v7.heap[p3]? = some (.cells #[.slice W3 gw.length wc3, .slice T3 gt.length tc3, .slice R3 gr.length rc3, .int .i64 gs] 59 (0, 0)) := by rw [hv7, hp3]; exact heap_alloc_new _ _
  have hX3 : Below w7.heap.size w7 v7 := by rw [hv7]; exact below_alloc _ _
  go_wp2_with fail
  rw [← hv7, ← hp3]
  clear hv7 hp3
  have hd7 : Below w4.heap.size w4 v7 := hd6.trans ((hb7.trans (hX3.mono hb7.size)).mono hd6.size)
  refine (E4.out _ hd7).mono ?_
  rintro e w8 ⟨W4, wc4, T4, tc4, R4, rc4, rfl, hW4, hT4, hR4, hb8⟩
  obtain ⟨v8, hv8⟩ : ∃ x : World, x = w8.alloc (.cells #[.slice W4 gw.length wc4, .slice T4 gt.length tc4, .slice R4 gr.length rc4, .int .i64 gs] 59) := ⟨_, rfl⟩
  obtain ⟨p4, hp4⟩ : ∃ x : Nat, x = w8.heap.size := ⟨_, rfl⟩
  have hB4 : v8.heap[p4]? = some (.cells #[.slice W4 gw.length wc4, .slice T4 gt.length tc4, .slice R4 gr.length rc4, .int .i64 gs] 59 (0, 0)) := by rw [hv8, hp4]; exact heap_alloc_new _ _
  have hX4 : Below w8.heap.size w8 v8 := by rw [hv8]; exact below_alloc _ _
  have hd8 : Below w4.heap.size w4 v8 := hd7.trans ((hb8.trans (hX4.mono hb8.size)).mono hd7.size)
  have y78 := hb8.trans (hX4.mono hb8.size)
  have y67 := hb7.trans (hX3.mono hb7.size)
  have y56 := hb6.trans (hX2.mono hb6.size)
  have y68 := y67.trans (y78.mono y67.size)
  have y58 := y56.trans (y68.mono y56.size)
  have hB1' := (y58.block _ (lt_of_heap0 hB1)).trans hB1
  have hB2' := (y68.block _ (lt_of_heap0 hB2)).trans hB2
  have hB3' := (y78.block _ (lt_of_heap0 hB3)).trans hB3
  have s1 := lt_of_heap0 hB1'
  have s2 := lt_of_heap0 hB2'
  have s3 := lt_of_heap0 hB3'
  have s4 := lt_of_heap0 hB4
  have S1' := Lib.hid (S1.out W1 T1 R1 W2 T2 R2 wc1 tc1 rc1 wc2 tc2 rc2 v8 (((hW1.below hX1).below y58).low (Nat.zero_le _)) (((hT1.below hX1).below y58).low (Nat.zero_le _)) (((hR1.below hX1).below y58).low (Nat.zero_le _)) (((hW2.below hX2).below y68).low (Nat.zero_le _)) (((hT2.below hX2).below y68).low (Nat.zero_le _)) (((hR2.below hX2).below y68).low (Nat.zero_le _)))
  have S2' : Hid (∀ W, Below v8.heap.size v8 W → _) := fun W h => S2.out W3 T3 R3 W4 T4 R4 wc3 tc3 rc3 wc4 tc4 rc4 W ((((hW3.below hX3).below y78).below h).low (Nat.zero_le _)) ((((hT3.below hX3).below y78).below h).low (Nat.zero_le _)) ((((hR3.below hX3).below y78).below h).low (Nat.zero_le _)) (((hW4.below hX4).below h).low (Nat.zero_le _)) (((hT4.below hX4).below h).low (Nat.zero_le _)) (((hR4.below hX4).below h).low (Nat.zero_le _))
  clear hW1 hT1 hR1 hW2 hT2 hR2 hW3 hT3 hR3 hW4 hT4 hR4 hX1 hX2 hX3 hX4 hB1 hB2 hB3 hb5 hb6 hb7 hb8 y78 y67 y56 y68 y58 hd5 hd6 hd7 E1 E2 E3 E4 S1 S2
  obtain ⟨l1, hl1⟩ : ∃ k, k = fw.length := ⟨_, rfl⟩
  obtain ⟨l2, hl2⟩ : ∃ k, k = ft.length := ⟨_, rfl⟩
  obtain ⟨l3, hl3⟩ : ∃ k, k = fr.length := ⟨_, rfl⟩
  obtain ⟨l4, hl4⟩ : ∃ k, k = gw.length := ⟨_, rfl⟩
  obtain ⟨l5, hl5⟩ : ∃ k, k = gt.length := ⟨_, rfl⟩
  obtain ⟨l6, hl6⟩ : ∃ k, k = gr.length := ⟨_, rfl⟩
  rw [← hl1, ← hl2, ← hl3] at S1' hB1' hB2'
  rw [← hl4, ← hl5, ← hl6] at S2' hB3' hB4 hv8
  rw [← hl1, ← hl2, ← hl3, ← hl4, ← hl5, ← hl6]
  clear hl1 hl2 hl3 hl4 hl5 hl6
  go_upto_region 10 with fail
  rw [← hv8, ← hp4]
  clear hv8 hp4
  have c10 : v8.cell? ⟨p1, 0, none⟩ = some (.slice W1 l1 wc1) := by simp [World.cell?, hB1']
  have c11 : v8.cell? ⟨p1, 1, none⟩ = some (.slice T1 l2 tc1) := by simp [World.cell?, hB1']
  have c12 : v8.cell? ⟨p1, 2, none⟩ = some (.slice R1 l3 rc1) := by simp [World.cell?, hB1']
  have c13 : v8.cell? ⟨p1, 3, none⟩ = some (.int .i64 fs) := by simp [World.cell?, hB1']
  have c20 : v8.cell? ⟨p2, 0, none⟩ = some (.slice W2 l1 wc2) := by simp [World.cell?, hB2']
  have c21 : v8.cell? ⟨p2, 1, none⟩ = some (.slice T2 l2 tc2) := by simp [World.cell?, hB2']
  have c22 : v8.cell? ⟨p2, 2, none⟩ = some (.slice R2 l3 rc2) := by simp [World.cell?, hB2']
  have c23 : v8.cell? ⟨p2, 3, none⟩ = some (.int .i64 fs) := by simp [World.cell?, hB2']
  go_wp2_with fail
  refine S1'.out.mono ?_
  rintro e w9 ⟨rfl, hb9⟩
  have hB3'' := (hb9.block _ s3).trans hB3'
  have hB4'' := (hb9.block _ s4).trans hB4
  clear c10 c11 c12 c13 c20 c21 c22 c23
  have c30 : w9.cell? ⟨p3, 0, none⟩ = some (.slice W3 l4 wc3) := by simp [World.cell?, hB3'']
  have c31 : w9.cell? ⟨p3, 1, none⟩ = some (.slice T3 l5 tc3) := by simp [World.cell?, hB3'']
  have c32 : w9.cell? ⟨p3, 2, none⟩ = some (.slice R3 l6 rc3) := by simp [World.cell?, hB3'']
  have c33 : w9.cell? ⟨p3, 3, none⟩ = some (.int .i64 gs) := by simp [World.cell?, hB3'']
  have c40 : w9.cell? ⟨p4, 0, none⟩ = some (.slice W4 l4 wc4) := by simp [World.cell?, hB4'']
  have c41 : w9.cell? ⟨p4, 1, none⟩ = some (.slice T4 l5 tc4) := by simp [World.cell?, hB4'']
  have c42 : w9.cell? ⟨p4, 2, none⟩ = some (.slice R4 l6 rc4) := by simp [World.cell?, hB4'']
  have c43 : w9.cell? ⟨p4, 3, none⟩ = some (.int .i64 gs) := by simp [World.cell?, hB4'']
  go_wp2_with fail
  refine (S2'.out _ hb9).mono ?_
  rintro e w10 ⟨rfl, hb10⟩
  have hd9 := hd8.trans (hb9.mono hd8.size)
  have hd10 := hd9.trans (hb10.mono hd9.size)
  have hb010 := hb04.trans (hd10.mono hb04.size)
  go_wp2_with (go_at_call 18; refine (awake26_any _).mono ?_; rintro e w11 ⟨rfl, hb11⟩)
  go_ret
  exact ⟨rfl, hb010.trans (hb11.mono hb010.size)⟩

end Go.Proofs.Ytjbaildaifdgiaa
