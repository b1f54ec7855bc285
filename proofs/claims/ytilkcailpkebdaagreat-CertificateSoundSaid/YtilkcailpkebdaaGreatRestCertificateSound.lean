/-
  Texts of the proof, one after the other.
-/
import Derived.Test.YtilkcailpkebdaaGreatBase3
import Derived.Test.YtilkcailpkebdaaGreatBase9
import Derived.Test.YtilkcailpkebdaaGreatBase12
import Derived.Test.YtilkcailpkebdaaGreatBase7

/-
  treatylaw27.CertificateSound: the law's walk.
-/
namespace Go.Proofs.YtilkcailpkebdaaGreat
open Go.RowKit
set_option linter.unusedVariables false

set_option maxRecDepth 100000 in
set_option maxHeartbeats 4000000 in
theorem lawSound (D : Option Addr) (dc : Nat) (deck : List Int) (O : Option Addr) (oc : Nat) (other : List Int) (T : Option Addr) (tc : Nat) (third : List Int) (at_ n : Int) (w : World)
    (hD : Ints w 0 D deck) (hO : Ints w 0 O other) (hTT : Ints w 0 T third) (hdl : deck.length ≤ 9223372036854775807) (hol : other.length ≤ 9223372036854775807) (htl : third.length ≤ 9223372036854775807) :
    Calls Tryz.prog 5 #[.slice D deck.length dc, .slice O other.length oc, .slice T third.length tc, .int .i64 at_, .int .i64 n] w fun e w' => e = .returned (.bool true) ∧ Below w.heap.size w w' := by
  have C1 := Lib.hid (few27_any D dc deck O oc other w hD hO hdl hol)
  have C3 : Hid (∀ W, Ints W 0 T third → _) := fun W h => new_any T tc third W htl h
  obtain ⟨m0, hm0⟩ : ∃ k, k = deck.length := ⟨_, rfl⟩
  obtain ⟨o, ho⟩ : ∃ k, k = other.length := ⟨_, rfl⟩
  obtain ⟨t, ht⟩ : ∃ k, k = third.length := ⟨_, rfl⟩
  rw [← hm0, ← ho] at C1
  rw [← ht] at C3
  rw [← hm0, ← ho, ← ht]
  clear hm0 ho ht hdl hol htl hD hO
  go_enter Tryz.func5, Tryz.ntmps5
  go_wp2_with fail
  refine C1.out.mono ?_
  rintro e w1 ⟨LA, lc, los, last, AA, ac, am, N, G, gc, ls, rfl, hl10, hmade, hal, hall, hN1, hN2, hl1, hl3, hlall, hLo, hAm, hG, hb1⟩
  have hL1 : Losses w1 0 LA los := hLo.low (Nat.zero_le _)
  have hA1 : Ints w1 0 AA am := hAm.low (Nat.zero_le _)
  have hG1 : Pairs w1 0 G ls := hG.low (Nat.zero_le _)
  have hce := chkE_made hmade (by omega) hal hall
  have hre := (rec_ok (t := 0) (ls := ls) (by omega) hlall (by omega)).1
  have h87 : N ≤ 8784 := by omega
  have hal' : am.length ≤ 10 := by omega
  have hA0 := bestA_ok hce hre hN1 h87
  have E2 : Hid (∀ W, Below w1.heap.size w1 W → _) := fun W h => rprove_any LA lc los AA ac am N G gc ls W (by omega) (by omega) (by omega) (hL1.below h) (hA1.below h) (hG1.below h)
  rw [hA0] at E2
  have HCE := Lib.hid hce
  have HRE := Lib.hid hre
  have HL10 := Lib.hid hl10
  have E4 : Hid (∀ (X : Option Addr) (xc : Nat) (xs : List Win) V, xs.length ≤ 5 → xs.length ≤ xc → winsE xs N = 0 → Wins V 0 X xs → Below w1.heap.size w1 V → Calls Tryz.prog 18 #[.slice LA los.length lc, .slice AA am.length ac, .slice X xs.length xc, .int .i64 N, .slice G ls.length gc] V fun e w' => ∃ (W : Option Addr) (wc : Nat) (T : Option Addr) (tc : Nat) (R : Option Addr) (rc : Nat), e = .returned (.tuple #[.agg #[.slice W xs.length wc, .slice T xs.length tc, .slice R xs.length rc, .int .i64 (sumI (evR los am xs N ls))], .int .i64 0]) ∧ Wins w' V.heap.size W xs ∧ Ints w' V.heap.size T (totF los am xs) ∧ Ints w' V.heap.size R (evR los am xs N ls) ∧ Below V.heap.size V w' ∧ xs.length ≤ wc) := fun X xc xs V h5 hc hv hX hb => by
    have := evaluate_any LA lc los AA ac am X xc xs N G gc ls V (by omega) (by omega) (by omega) hc (by omega) (hL1.below hb) (hA1.below hb) hX (hG1.below hb)
    have hev := ev_parts HCE.out HRE.out hv
    obtain ⟨f1, f2, _⟩ := ev_ok hev
    rw [hev, f1, f2, totF_len, show (evR los am xs N ls).length = xs.length by rw [evR_valid HCE.out HRE.out hv, List.length_map]] at this
    exact this
  have E3 : Hid (∀ (xs : List Win) (W : Option Addr) (wc : Nat) (T : Option Addr) (tc : Nat) (R : Option Addr) (rc : Nat) (B : Option Addr) (bc : Nat) (bs : List Bd) V, Below w1.heap.size w1 V → winsE xs N = 0 → xs.length ≤ wc → bs.length ≤ 1000 → (∀ b ∈ bs, b.vs.length ≤ 1000) → Wins V 0 W xs → Ints V 0 T (totF los am xs) → Ints V 0 R (evR los am xs N ls) → Bnds V B bs → Calls Tryz.prog 21 #[.slice LA los.length lc, .slice AA am.length ac, .int .i64 N, .slice G ls.length gc, .agg #[.slice W xs.length wc, .slice T xs.length tc, .slice R xs.length rc, .int .i64 (sumI (evR los am xs N ls))], .slice B bs.length bc] V fun e w' => e = .returned (.int .i64 (verF los am N ls (sumI (evR los am xs N ls)) bs)) ∧ Below V.heap.size V w') := fun xs W wc T tc R rc B bc bs V hV hv hwc hbl hbv h1 h2 h3 h4 => verify_any LA lc los AA ac am N G gc ls W wc xs T tc R rc B bc bs V HCE.out HRE.out hv (by omega) hwc hbl (fun b hb => by have := hbv b hb; omega) (hL1.below hV) (hA1.below hV) (hG1.below hV) h1 h2 h3 h4
  obtain ⟨nl, hnl⟩ : ∃ k, k = los.length := ⟨_, rfl⟩
  obtain ⟨na, hna⟩ : ∃ k, k = am.length := ⟨_, rfl⟩
  obtain ⟨ng, hng⟩ : ∃ k, k = ls.length := ⟨_, rfl⟩
  rw [← hnl, ← hna, ← hng] at E2 E3 E4
  rw [← hnl, ← hna, ← hng]
  clear hnl hna hng hl10 hmade hal hall hl1 hl3 hlall hLo hAm hG hL1 hA1 hG1 hce hre hal' hA0 C1
  go_wp2_with fail
  refine (C3.out _ (hTT.below hb1)).mono ?_
  rintro e w4 ⟨rfl, hdk, hb4, hs4⟩
  clear hs4 C3
  go_wp2_with fail
  refine (mwindows_any _ N _ hN1 (by omega) hdk).mono ?_
  rintro e w5 ⟨v, xs, rfl, hx5, hxE, hown, hdk5, hg5⟩
  have hd5 : Below w1.heap.size w1 w5 := below_of_only hb4 hg5 (Nat.le_refl _)
  obtain ⟨X, xc, rfl, hxc⟩ := own_shape hown
  have hX : Wins w5 0 X xs := (wins_of_ownE hown rfl).low (Nat.zero_le _)
  have D4 := Lib.hid (E4.out X xc xs w5 hx5 hxc hxE hX hd5)
  have HXE := Lib.hid hxE
  obtain ⟨tot, htot⟩ : ∃ x, x = sumI (evR los am xs N ls) := ⟨_, rfl⟩
  rw [← htot] at D4
  have HTOT := Lib.hid htot
  obtain ⟨nx, hnx⟩ : ∃ x, x = xs.length := ⟨_, rfl⟩
  rw [← hnx] at D4 ⊢
  have HNX := Lib.hid hnx
  clear htot hnx hx5 hxE hown hg5 hdk hb4 hxc hX
  go_wp2_with fail
  refine D4.out.mono ?_
  rintro e w6 ⟨W2, wc2, T2, tc2, R2, rc2, rfl, hW2, hT2, hR2, hb6, hcp⟩
  obtain ⟨v6, hv6⟩ : ∃ x : World, x = w6.alloc (.cells #[.slice W2 nx wc2, .slice T2 nx tc2, .slice R2 nx rc2, .int .i64 tot] 32) := ⟨_, rfl⟩
  obtain ⟨p2, hp2⟩ : ∃ x : Nat, x = w6.heap.size := ⟨_, rfl⟩
  have hB6 : v6.heap[p2]? = some (.cells #[.slice W2 nx wc2, .slice T2 nx tc2, .slice R2 nx rc2, .int .i64 tot] 32 (0, 0)) := by rw [hv6, hp2]; exact heap_alloc_new _ _
  have hX6 : Below w6.heap.size w6 v6 := by rw [hv6]; exact below_alloc _ _
  have hb56 := hb6.trans (hX6.mono hb6.size)
  have hd6 := hd5.trans (hb56.mono hd5.size)
  have hW6 : Wins v6 w5.heap.size W2 xs := hW2.below hX6
  have hT6 : Ints v6 w5.heap.size T2 (totF los am xs) := hT2.below hX6
  have hR6 : Ints v6 w5.heap.size R2 (evR los am xs N ls) := hR2.below hX6
  have hlt5 : w1.heap.size < w5.heap.size := hdk5.lt
  have hp2l : w5.heap.size ≤ p2 := by rw [hp2]; exact hb6.size
  have hdk6 := hdk5.below hb56
  have HCP := Lib.hid hcp
  clear hW2 hT2 hR2 hb6 hcp hX6 hb56 D4 hdk5 hd5
  go_upto_region 4 with fail
  rw [← hv6, ← hp2]
  clear hv6 hp2
  go_wp2_with fail
  refine (mwindows_any _ N _ hN1 (by omega) hdk6).mono ?_
  rintro e w7 ⟨v, ys, rfl, hy5, hyE, hown, hdk7, hg7⟩
  have hd7 : Below w1.heap.size w1 w7 := below_of_only hd6 hg7 (Nat.le_refl _)
  obtain ⟨Y, yc, rfl, hyc⟩ := own_shape hown
  have hY : Wins w7 0 Y ys := (wins_of_ownE hown rfl).low (Nat.zero_le _)
  have D5 := Lib.hid (E4.out Y yc ys w7 hy5 hyc hyE hY hd7)
  have HYE := Lib.hid hyE
  have hW7 := hW6.grown hg7 (fun g e => by injection e with e; omega)
  have hT7 := hT6.grown hg7 (fun g e => by injection e with e; omega)
  have hR7 := hR6.grown hg7 (fun g e => by injection e with e; omega)
  have hB7 := (hg7.block p2 (lt_of_heap0 hB6) (fun e => by injection e with e; omega)).trans hB6
  obtain ⟨tot2, htot2⟩ : ∃ x, x = sumI (evR los am ys N ls) := ⟨_, rfl⟩
  rw [← htot2] at D5
  have HTOT2 := Lib.hid htot2
  obtain ⟨ny, hny⟩ : ∃ x, x = ys.length := ⟨_, rfl⟩
  rw [← hny] at D5 ⊢
  clear htot2 hny hy5 hyE hown hyc hY hg7 hdk7 hdk6 hW6 hT6 hR6 hB6 hd6
  go_wp2_with fail
  refine D5.out.mono ?_
  rintro e w8 ⟨W3, wc3, T3, tc3, R3, rc3, rfl, _, _, _, hb8, _⟩
  obtain ⟨v8, hv8⟩ : ∃ x : World, x = w8.alloc (.cells #[.slice W3 ny wc3, .slice T3 ny tc3, .slice R3 ny rc3, .int .i64 tot2] 32) := ⟨_, rfl⟩
  obtain ⟨p3, hp3⟩ : ∃ x : Nat, x = w8.heap.size := ⟨_, rfl⟩
  have hB8 : v8.heap[p3]? = some (.cells #[.slice W3 ny wc3, .slice T3 ny tc3, .slice R3 ny rc3, .int .i64 tot2] 32 (0, 0)) := by rw [hv8, hp3]; exact heap_alloc_new _ _
  have hX8 : Below w8.heap.size w8 v8 := by rw [hv8]; exact below_alloc _ _
  have hb78 := hb8.trans (hX8.mono hb8.size)
  have hd8 := hd7.trans (hb78.mono hd7.size)
  have hB78 := (hb78.block p2 (lt_of_heap0 hB7)).trans hB7
  have hW8 := hW7.below hb78
  have hT8 := hT7.below hb78
  have hR8 := hR7.below hb78
  clear hb8 hX8 D5 hb78 hd7 hB7 hW7 hT7 hR7
  go_upto_region 5 with fail
  rw [← hv8, ← hp3]
  clear hv8 hp3
  go_wp2_with fail
  refine (E2.out _ hd8).mono ?_
  rintro e w9 ⟨B, bc, bs, rfl, hkey, hBn, hb9⟩
  have hd9 := hd8.trans (hb9.mono hd8.size)
  have hBx9 := (hb9.block p2 (lt_of_heap0 hB78)).trans hB78
  have hBy9 := (hb9.block p3 (lt_of_heap0 hB8)).trans hB8
  have hW9 := hW8.below hb9
  have hT9 := hT8.below hb9
  have hR9 := hR8.below hb9
  have hpf := prov_facts HCE.out hkey
  have hpp : ∀ b ∈ bs, 0 < b.vs.length ∧ b.vs.length ≤ 1000 := fun b hb => by
    have h65 := hpf.2 b hb
    have hm : b.key ∈ provF los am N ls := by rw [← hkey]; exact List.mem_map_of_mem hb
    unfold provF at hm
    split at hm
    · obtain ⟨p, _, e⟩ := List.mem_map.1 hm
      have e2 : b.vs = valsF N ls (ptsF los am p) := (congrArg Prod.snd e).symm
      have h1 : b.vs.length = (ptsF los am p).length + 1 := by rw [e2, valsF_length]
      omega
    · simp at hm
  have hbl9 : bs.length ≤ 100 := by have := HL10.out; omega
  clear hkey hb9 hB78 hB8 hW8 hT8 hR8 hd8
  have hs1 : bits .and .i64 at_ 1 = at_ % 2 := bits_mask 1 1 (by omega) (by decide) at_
  by_cases hodd : at_ % 2 = 1
  · have q0 : (at_ % 2 == 1) = true := by simpa using hodd
    have DS := Lib.hid (spoilt_any B bc bs (at_ / 2) n w9 hBn hbl9 hpp)
    obtain ⟨k9, hk9⟩ : ∃ x, x = bs.length := ⟨_, rfl⟩
    rw [← hk9] at DS ⊢
    clear hk9 hodd hpf hpp hbl9 hBn
    go_wp2_with fail
    refine DS.out.mono ?_
    rintro e wz ⟨BB, bb, bz, rfl, hBz, hbl', hbv, hbz⟩
    have hbl : bz.length ≤ 1000 := by omega
    have hdz := hd9.trans (hbz.mono hd9.size)
    have hBx := (hbz.block p2 (lt_of_heap0 hBx9)).trans hBx9
    have hBy := (hbz.block p3 (lt_of_heap0 hBy9)).trans hBy9
    have hWz := hW9.below hbz
    have hTz := hT9.below hbz
    have hRz := hR9.below hbz
    clear DS hbl' hbz hBx9 hBy9 hW9 hT9 hR9 hd9
    have D6 := Lib.hid (E3.out xs W2 wc2 T2 tc2 R2 rc2 BB bb bz wz hdz HXE.out (by rw [HNX.out] at *; exact HCP.out) hbl hbv (hWz.low (Nat.zero_le _)) (hTz.low (Nat.zero_le _)) (hRz.low (Nat.zero_le _)) hBz)
    rw [← HTOT.out, ← HNX.out] at D6
    have hsnd : verF los am N ls tot bz = 0 → tot2 ≤ tot := fun hv => by rw [HTOT2.out]; exact ver_sound HCE.out HRE.out HYE.out hv
    obtain ⟨ver, hver⟩ : ∃ x, x = verF los am N ls tot bz := ⟨_, rfl⟩
    rw [← hver] at D6 hsnd
    obtain ⟨kz, hkz⟩ : ∃ x, x = bz.length := ⟨_, rfl⟩
    rw [← hkz] at D6 ⊢
    have c0 : wz.cell? ⟨p2, 0, none⟩ = some (.slice W2 nx wc2) := by simp [World.cell?, hBx]
    have c1 : wz.cell? ⟨p2, 1, none⟩ = some (.slice T2 nx tc2) := by simp [World.cell?, hBx]
    have c2 : wz.cell? ⟨p2, 2, none⟩ = some (.slice R2 nx rc2) := by simp [World.cell?, hBx]
    have c3 : wz.cell? ⟨p2, 3, none⟩ = some (.int .i64 tot) := by simp [World.cell?, hBx]
    clear hver hkz E2 E3 E4 hBz hWz hTz hRz hbl hbv
    go_wp2_with fail
    refine D6.out.mono ?_
    rintro e wv ⟨rfl, hbv⟩
    have hBxv := (hbv.block p2 (lt_of_heap0 hBx)).trans hBx
    have hByv := (hbv.block p3 (lt_of_heap0 hBy)).trans hBy
    have d3 : wv.cell? ⟨p2, 3, none⟩ = some (.int .i64 tot) := by simp [World.cell?, hBxv]
    have e3 : wv.cell? ⟨p3, 3, none⟩ = some (.int .i64 tot2) := by simp [World.cell?, hByv]
    have hdv := hdz.trans (hbv.mono hdz.size)
    have hb0v := hb1.trans (hdv.mono hb1.size)
    by_cases hz : ver = 0
    · have q1 : (ver != 0) = false := by simpa using hz
      have q2 : decide (tot2 ≤ tot) = true := by simpa using hsnd hz
      clear hz hsnd
      go_wp2_with (go_at_call 12; refine (awake27_any _).mono ?_; rintro e wE ⟨rfl, hbE⟩)
      go_ret
      exact ⟨rfl, hb0v.trans (hbE.mono hb0v.size)⟩
    · have q1 : (ver != 0) = true := by simpa using hz
      clear hz hsnd
      go_wp2_with (go_at_call 12; refine (awake27_any _).mono ?_; rintro e wE ⟨rfl, hbE⟩)
      go_ret
      exact ⟨rfl, hb0v.trans (hbE.mono hb0v.size)⟩
  · have q0 : (at_ % 2 == 1) = false := by simpa using hodd
    obtain ⟨wz, hwz⟩ : ∃ x, x = w9 := ⟨_, rfl⟩
    obtain ⟨bz, hbz⟩ : ∃ x, x = bs := ⟨_, rfl⟩
    obtain ⟨BB, hBB⟩ : ∃ x, x = B := ⟨_, rfl⟩
    obtain ⟨bb, hbb⟩ : ∃ x, x = bc := ⟨_, rfl⟩
    rw [← hwz, ← hbz, ← hBB] at hBn
    rw [← hbz] at hbl9 hpp
    rw [← hwz] at hd9 hBx9 hBy9 hW9 hT9 hR9
    rw [← hwz, ← hbz, ← hBB, ← hbb]
    clear hwz hbz hBB hbb hodd hpf
    have hBz := hBn
    have hbl : bz.length ≤ 1000 := by omega
    have hbv : ∀ b ∈ bz, b.vs.length ≤ 1000 := fun b hb => (hpp b hb).2
    have hdz := hd9
    have hBx := hBx9
    have hBy := hBy9
    have hWz := hW9
    have hTz := hT9
    have hRz := hR9
    clear hBn hbl9 hpp hBx9 hBy9 hW9 hT9 hR9 hd9
    have D6 := Lib.hid (E3.out xs W2 wc2 T2 tc2 R2 rc2 BB bb bz wz hdz HXE.out (by rw [HNX.out] at *; exact HCP.out) hbl hbv (hWz.low (Nat.zero_le _)) (hTz.low (Nat.zero_le _)) (hRz.low (Nat.zero_le _)) hBz)
    rw [← HTOT.out, ← HNX.out] at D6
    have hsnd : verF los am N ls tot bz = 0 → tot2 ≤ tot := fun hv => by rw [HTOT2.out]; exact ver_sound HCE.out HRE.out HYE.out hv
    obtain ⟨ver, hver⟩ : ∃ x, x = verF los am N ls tot bz := ⟨_, rfl⟩
    rw [← hver] at D6 hsnd
    obtain ⟨kz, hkz⟩ : ∃ x, x = bz.length := ⟨_, rfl⟩
    rw [← hkz] at D6 ⊢
    have c0 : wz.cell? ⟨p2, 0, none⟩ = some (.slice W2 nx wc2) := by simp [World.cell?, hBx]
    have c1 : wz.cell? ⟨p2, 1, none⟩ = some (.slice T2 nx tc2) := by simp [World.cell?, hBx]
    have c2 : wz.cell? ⟨p2, 2, none⟩ = some (.slice R2 nx rc2) := by simp [World.cell?, hBx]
    have c3 : wz.cell? ⟨p2, 3, none⟩ = some (.int .i64 tot) := by simp [World.cell?, hBx]
    clear hver hkz E2 E3 E4 hBz hWz hTz hRz hbl hbv
    go_wp2_with fail
    refine D6.out.mono ?_
    rintro e wv ⟨rfl, hbv⟩
    have hBxv := (hbv.block p2 (lt_of_heap0 hBx)).trans hBx
    have hByv := (hbv.block p3 (lt_of_heap0 hBy)).trans hBy
    have d3 : wv.cell? ⟨p2, 3, none⟩ = some (.int .i64 tot) := by simp [World.cell?, hBxv]
    have e3 : wv.cell? ⟨p3, 3, none⟩ = some (.int .i64 tot2) := by simp [World.cell?, hByv]
    have hdv := hdz.trans (hbv.mono hdz.size)
    have hb0v := hb1.trans (hdv.mono hb1.size)
    by_cases hz : ver = 0
    · have q1 : (ver != 0) = false := by simpa using hz
      have q2 : decide (tot2 ≤ tot) = true := by simpa using hsnd hz
      clear hz hsnd
      go_wp2_with (go_at_call 12; refine (awake27_any _).mono ?_; rintro e wE ⟨rfl, hbE⟩)
      go_ret
      exact ⟨rfl, hb0v.trans (hbE.mono hb0v.size)⟩
    · have q1 : (ver != 0) = true := by simpa using hz
      clear hz hsnd
      go_wp2_with (go_at_call 12; refine (awake27_any _).mono ?_; rintro e wE ⟨rfl, hbE⟩)
      go_ret
      exact ⟨rfl, hb0v.trans (hbE.mono hb0v.size)⟩

end Go.Proofs.YtilkcailpkebdaaGreat
