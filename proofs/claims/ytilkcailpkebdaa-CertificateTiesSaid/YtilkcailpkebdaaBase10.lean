/-
  Texts of the proof, one after the other.
-/
import Derived.Test.YtilkcailpkebdaaBase9
import Derived.Test.YtilkcailpkebdaaBase3
import Derived.Test.YtilkcailpkebdaaBase4
import Derived.Test.YtilkcailpkebdaaBase1
import Derived.ProofKit
import Derived.OpenShut
import Derived.ChangeOld
import Derived.Below
import Derived.Deep.Slices
import Derived.Deep.Fields
import Derived.ChangeSame

/-
  certificate.same and certificate.Verify: their contracts.
-/
namespace Go.Proofs.Ytilkcailpkebdaa
open Go.RowKit
set_option linter.unusedVariables false

set_option maxHeartbeats 1000000 in
theorem csameW_self (A B : Option Addr) (c d : Nat) (ws : List Win) (w : World) (hl : ws.length ≤ 9223372036854775807) (hA : Wins w 0 A ws) (hB : Wins w 0 B ws) :
    Calls Try.prog 60 #[.slice A ws.length c, .slice B ws.length d] w fun e w' => e = .returned (.bool true) ∧ Below w.heap.size w w' := by
  obtain ⟨n, hn⟩ : ∃ n, n = ws.length := ⟨_, rfl⟩
  rw [← hn] at hl ⊢
  have HN := Lib.hid hn
  clear hn
  go_enter Try.func60, Try.ntmps60
  go_wp2_with fail
  go_loopw [5, 13] (fun _ ii wr => ∃ i : Nat, ii = .int .i64 i ∧ i ≤ n ∧ Below w.heap.size w wr) (fun _ ii _ => n - (intOf ii).toNat)
  case atStart => exact ⟨0, rfl, Nat.zero_le _, Below.refl _ _⟩
  case round =>
    obtain ⟨i, rfl, hi, hb⟩ := hrel
    by_cases hin : i < n
    · obtain ⟨x, hx, _⟩ := drop_cons (xs := ws) (i := i) (by rw [← HN.out]; exact hin)
      obtain ⟨b1, o1, rfl, _, _, c0, c1, c2⟩ := (hA.below hb).at_ hx
      obtain ⟨b2, o2, rfl, _, _, e0, e1, e2⟩ := (hB.below hb).at_ hx
      clear hx
      go_wp2_with fail
      go_quiet (fail)
      go_wp2_with fail
      go_roundw
      case rel => exact ⟨i + 1, by go_num, by omega, below_drewN hb _⟩
      case measure => simp [intOf]; omega
    · go_wp2_with fail
      go_ret
      exact ⟨rfl, hb⟩
set_option maxHeartbeats 1000000 in
theorem csameI_self (A B : Option Addr) (c d : Nat) (ws : List Int) (w : World) (hl : ws.length ≤ 9223372036854775807) (hA : Ints w 0 A ws) (hB : Ints w 0 B ws) :
    Calls Try.prog 61 #[.slice A ws.length c, .slice B ws.length d] w fun e w' => e = .returned (.bool true) ∧ Below w.heap.size w w' := by
  obtain ⟨n, hn⟩ : ∃ n, n = ws.length := ⟨_, rfl⟩
  rw [← hn] at hl ⊢
  have HN := Lib.hid hn
  clear hn
  go_enter Try.func61, Try.ntmps61
  go_wp2_with fail
  go_loopw [5, 13] (fun _ ii wr => ∃ i : Nat, ii = .int .i64 i ∧ i ≤ n ∧ Below w.heap.size w wr) (fun _ ii _ => n - (intOf ii).toNat)
  case atStart => exact ⟨0, rfl, Nat.zero_le _, Below.refl _ _⟩
  case round =>
    obtain ⟨i, rfl, hi, hb⟩ := hrel
    by_cases hin : i < n
    · obtain ⟨x, hx, _⟩ := drop_cons (xs := ws) (i := i) (by rw [← HN.out]; exact hin)
      obtain ⟨b1, o1, rfl, _, _, c0⟩ := (hA.below hb).at_ hx
      obtain ⟨b2, o2, rfl, _, _, e0⟩ := (hB.below hb).at_ hx
      clear hx
      go_wp2_with fail
      go_quiet (fail)
      go_wp2_with fail
      go_roundw
      case rel => exact ⟨i + 1, by go_num, by omega, below_drewN hb _⟩
      case measure => simp [intOf]; omega
    · go_wp2_with fail
      go_ret
      exact ⟨rfl, hb⟩

theorem hdV_next {bs : List Bd} {k : Nat} {b : Bd} (h : bs[k]? = some b) : sumI ((bs.take (k + 1)).map hdV) = sumI ((bs.take k).map hdV) + hdV b := by
  rw [List.take_add_one, h, List.map_append, sumI_append]; simp [sumI]
theorem okTo.next {los : List Los} {am : List Int} {n : Int} {ls : List P2} {bs : List Bd} {k : Nat} {p : Int} {b : Bd} (h : okTo los am n ls bs k) (hp : (perilsF los)[k]? = some p) (hb : bs[k]? = some b) (ho : okB los am n ls (p, b) = true) : okTo los am n ls bs (k + 1) := fun i p' b' hi hp' hb' => by
  by_cases e : i = k
  · subst e
    rw [hp] at hp'; rw [hb] at hb'
    injection hp' with e1; injection hb' with e2
    subst e1; subst e2; exact ho
  · exact h i p' b' (by omega) hp' hb'

set_option maxRecDepth 100000 in
set_option maxHeartbeats 4000000 in
theorem verify_any (A : Option Addr) (c : Nat) (los : List Los) (M : Option Addr) (mc : Nat) (am : List Int) (n : Int) (E : Option Addr) (ec : Nat) (ls : List P2) (W : Option Addr) (wc : Nat) (ws : List Win) (T : Option Addr) (tc : Nat) (R : Option Addr) (rc : Nat) (B : Option Addr) (bc : Nat) (bs : List Bd) (w : World)
    (hce : chkE los am = 0) (hre : recErr 0 ls = 0) (hwe : winsE ws n = 0) (hel : ls.length ≤ 1000) (hwc : ws.length ≤ wc) (hbl : bs.length ≤ 1000) (hbv : ∀ b ∈ bs, b.vs.length ≤ 9223372036854775807)
    (hL : Losses w 0 A los) (hM : Ints w 0 M am) (hE : Pairs w 0 E ls) (hW : Wins w 0 W ws) (hT : Ints w 0 T (totF los am ws)) (hR : Ints w 0 R (evR los am ws n ls)) (hB : Bnds w B bs) :
    Calls Try.prog 31 #[.slice A los.length c, .slice M am.length mc, .int .i64 n, .slice E ls.length ec, .agg #[.slice W ws.length wc, .slice T ws.length tc, .slice R ws.length rc, .int .i64 (sumI (evR los am ws n ls))], .slice B bs.length bc] w fun e w' => e = .returned (.int .i64 (verF los am n ls (sumI (evR los am ws n ls)) bs)) ∧ Below w.heap.size w w' := by
  have hG := goodE_of hce
  obtain ⟨_, hn1, hn2, hw64⟩ := winsE_parts hwe
  have hll := hG.len
  have hal : am.length ≤ 64 := by rw [hG.same]; exact hll
  have HBA := Lib.hid (best_all hce hre hn1 hn2)
  have HEV := Lib.hid (ev_parts hce hre hwe)
  obtain ⟨hf1, hf2, _⟩ := ev_ok HEV.out
  have htl : (totF los am ws).length = ws.length := by rw [totF_len]
  have hrl : (evR los am ws n ls).length = ws.length := by rw [evR_valid hce hre hwe, List.length_map]
  have C0 : Hid (∀ V, Losses V 0 A los → Ints V 0 M am → Pairs V 0 E ls → _) := fun V h h' h'' => wbest_any A c los M mc am n E ec ls V (by omega) (by omega) hel h h' h''
  have C1 : Hid (∀ V, Losses V 0 A los → Ints V 0 M am → Wins V 0 W ws → Pairs V 0 E ls → _) := fun V h h' h'' h3 => evaluate_any A c los M mc am W wc ws n E ec ls V (by omega) (by omega) (by omega) hwc hel h h' h'' h3
  have C3 : Hid (∀ V, Losses V 0 A los → _) := fun V h => perils_any A c los V (by omega) h
  have C4 : Hid (∀ (p : Int) V, Losses V 0 A los → Ints V 0 M am → _) := fun p V h h' => epoints_any A c los M mc am p V (by omega) (by omega) h h'
  have HPL : Hid (∀ p, (ptsF los am p).length ≤ 64) := fun p => (ptsF_fine hce p).2.2.2
  have HEF : Hid (∀ p, eptsF los am p = ptsF los am p) := fun p => by unfold eptsF; rw [if_pos hce]
  have C5 : Hid (∀ (F : Option Addr) (f : Nat) (p : Int) (G : Option Addr) (gc : Nat) (vs : List Int) V, vs.length ≤ 9223372036854775807 → Pairs V 0 F (ptsF los am p) → Pairs V 0 E ls → Ints V 0 G vs → _) := fun F f p G gc vs V h0 h h' h'' => bound_any F f (ptsF los am p) n E ec ls G gc vs V (by have := HPL.out p; omega) hel h0 h h' h''
  have S1 : Hid (∀ (X : Option Addr) (x : Nat) V, Wins V 0 W ws → Wins V 0 X ws → _) := fun X x V h h' => csameW_self W X wc x ws V (by omega) h h'
  have S2 : Hid (∀ (X : Option Addr) (x : Nat) V, Ints V 0 T (totF los am ws) → Ints V 0 X (totF los am ws) → _) := fun X x V h h' => csameI_self T X tc x (totF los am ws) V (by omega) h h'
  have S3 : Hid (∀ (X : Option Addr) (x : Nat) V, Ints V 0 R (evR los am ws n ls) → Ints V 0 X (evR los am ws n ls) → _) := fun X x V h h' => csameI_self R X rc x (evR los am ws n ls) V (by omega) h h'
  have hpl := perils_len los
  rw [HBA.out.1] at C0
  rw [HEV.out, hf1, hf2, htl, hrl] at C1
  rw [htl] at S2
  rw [hrl] at S3
  rw [hce] at C4
  have HBV := Lib.hid hbv
  have HHB := Lib.hid hB
  obtain ⟨tot, htot⟩ : ∃ x, x = sumI (evR los am ws n ls) := ⟨_, rfl⟩
  rw [← htot] at C1 ⊢
  obtain ⟨nl, hnl⟩ : ∃ k, k = los.length := ⟨_, rfl⟩
  obtain ⟨na, hna⟩ : ∃ k, k = am.length := ⟨_, rfl⟩
  obtain ⟨ne, hne⟩ : ∃ k, k = ls.length := ⟨_, rfl⟩
  obtain ⟨nw, hnw⟩ : ∃ k, k = ws.length := ⟨_, rfl⟩
  obtain ⟨nb, hnb⟩ : ∃ k, k = bs.length := ⟨_, rfl⟩
  rw [← hnl, ← hna] at C0 C1 C4
  rw [← hne] at C0 C1 C5
  rw [← hnw] at C1 S1 S2 S3
  rw [← hnl] at C3 hpl hll
  rw [← hnl, ← hna, ← hne, ← hnw, ← hnb]
  rw [← hnb] at hbl
  have HNB := Lib.hid hnb
  obtain ⟨l1, hl1⟩ : ∃ k, k = (bestW los am n ls).length := ⟨_, rfl⟩
  obtain ⟨l2, hl2⟩ : ∃ k, k = (bestT los am n ls).length := ⟨_, rfl⟩
  obtain ⟨l3, hl3⟩ : ∃ k, k = (bestR los am n ls).length := ⟨_, rfl⟩
  obtain ⟨sm, hsm⟩ : ∃ k, k = sumI (bestR los am n ls) := ⟨_, rfl⟩
  rw [← hl1, ← hl2, ← hl3, ← hsm] at C0
  clear hl1 hl2 hl3 hsm hnl hna hne hnw hnb hG hn1 hn2 hw64 HBA HEV hf1 hf2 htl hrl hce hre hwe hwc hbv hB hal hel htot
  obtain ⟨w0, hw0⟩ : ∃ x : World, x = w.alloc (.cells #[.slice W nw wc, .slice T nw tc, .slice R nw rc, .int .i64 tot] 46) := ⟨_, rfl⟩
  obtain ⟨p0, hp0⟩ : ∃ x, x = w.heap.size := ⟨_, rfl⟩
  have hb0 : Below w.heap.size w w0 := by rw [hw0]; exact below_alloc1 _ _
  have hh0 : w0.heap[p0]? = some (.cells #[.slice W nw wc, .slice T nw tc, .slice R nw rc, .int .i64 tot] 46 (0, 0)) := by rw [hw0, hp0]; exact heap_alloc_new _ _
  go_enter Try.func31, Try.ntmps31
  go_wp2_with fail
  rw [← hw0, ← hp0]
  clear hw0 hp0
  refine (C0.out _ (hL.below hb0) (hM.below hb0) (hE.below hb0)).mono ?_
  rintro e w1 ⟨X1, x1, X2, x2, X3, x3, rfl, _, _, _, hb1, _⟩
  obtain ⟨w2, hw2⟩ : ∃ x : World, x = w1.alloc (.cells #[.slice X1 l1 x1, .slice X2 l2 x2, .slice X3 l3 x3, .int .i64 sm] 46) := ⟨_, rfl⟩
  have hb12 : Below w1.heap.size w1 w2 := by rw [hw2]; exact below_alloc1 _ _
  have hb02 := hb1.trans (hb12.mono hb1.size)
  have hh2 := (hb02.block p0 (lt_of_heap0 hh0)).trans hh0
  have hb2 := hb0.trans (hb02.mono hb0.size)
  have c0 : w2.cell? ⟨p0, 0, none⟩ = some (.slice W nw wc) := by simp [World.cell?, hh2]
  clear hb1 hb12 hb02 hb0 hh0 C0
  go_upto_region 4 with fail
  rw [← hw2]
  clear hw2
  go_wp2_with fail
  refine (C1.out _ (hL.below hb2) (hM.below hb2) (hW.below hb2) (hE.below hb2)).mono ?_
  rintro e w3 ⟨Y1, y1, Y2, y2, Y3, y3, rfl, hY1, hY2, hY3, hb3, _⟩
  obtain ⟨w4, hw4⟩ : ∃ x : World, x = w3.alloc (.cells #[.slice Y1 nw y1, .slice Y2 nw y2, .slice Y3 nw y3, .int .i64 tot] 46) := ⟨_, rfl⟩
  obtain ⟨p1, hp1⟩ : ∃ x, x = w3.heap.size := ⟨_, rfl⟩
  have hb34 : Below w3.heap.size w3 w4 := by rw [hw4]; exact below_alloc1 _ _
  have hh4' : w4.heap[p1]? = some (.cells #[.slice Y1 nw y1, .slice Y2 nw y2, .slice Y3 nw y3, .int .i64 tot] 46 (0, 0)) := by rw [hw4, hp1]; exact heap_alloc_new _ _
  have hb24 := hb3.trans (hb34.mono hb3.size)
  have hh4 := (hb24.block p0 (lt_of_heap0 hh2)).trans hh2
  have hb4 := hb2.trans (hb24.mono hb2.size)
  have hZ1 : Wins w4 0 Y1 ws := (hY1.below hb34).low (Nat.zero_le _)
  have hZ2 : Ints w4 0 Y2 (totF los am ws) := (hY2.below hb34).low (Nat.zero_le _)
  have hZ3 : Ints w4 0 Y3 (evR los am ws n ls) := (hY3.below hb34).low (Nat.zero_le _)
  have q0 : w4.cell? ⟨p0, 0, none⟩ = some (.slice W nw wc) := by simp [World.cell?, hh4]
  have q1 : w4.cell? ⟨p1, 0, none⟩ = some (.slice Y1 nw y1) := by simp [World.cell?, hh4']
  have D1 := Lib.hid (S1.out Y1 y1 w4 (hW.below hb4) hZ1)
  clear hY1 hY2 hY3 hb3 hb34 hb24 hb2 hh2 c0 C1 S1 hZ1
  go_upto_region 7 with fail
  rw [← hw4, ← hp1]
  clear hw4 hp1
  go_wp2_with fail
  refine D1.out.mono ?_
  rintro e w5 ⟨rfl, hb5⟩
  have hb05 := hb4.trans (hb5.mono hb4.size)
  have hh5 := (hb5.block p0 (lt_of_heap0 hh4)).trans hh4
  have hh5' := (hb5.block p1 (lt_of_heap0 hh4')).trans hh4'
  have r0 : w5.cell? ⟨p0, 1, none⟩ = some (.slice T nw tc) := by simp [World.cell?, hh5]
  have r1 : w5.cell? ⟨p1, 1, none⟩ = some (.slice Y2 nw y2) := by simp [World.cell?, hh5']
  have D2 := Lib.hid (S2.out Y2 y2 w5 (hT.below hb05) (hZ2.below hb5))
  have hZ35 := hZ3.below hb5
  clear D1 q0 q1 hh4 hh4' hb4 hb5 S2 hZ2 hZ3
  go_wp2_with fail
  refine D2.out.mono ?_
  rintro e w6 ⟨rfl, hb6⟩
  have hb06 := hb05.trans (hb6.mono hb05.size)
  have hh6 := (hb6.block p0 (lt_of_heap0 hh5)).trans hh5
  have hh6' := (hb6.block p1 (lt_of_heap0 hh5')).trans hh5'
  have s0 : w6.cell? ⟨p0, 2, none⟩ = some (.slice R nw rc) := by simp [World.cell?, hh6]
  have s1 : w6.cell? ⟨p1, 2, none⟩ = some (.slice Y3 nw y3) := by simp [World.cell?, hh6']
  have D3 := Lib.hid (S3.out Y3 y3 w6 (hR.below hb06) (hZ35.below hb6))
  clear D2 r0 r1 hh5 hh5' hb05 hb6 S3 hZ35
  go_wp2_with fail
  refine D3.out.mono ?_
  rintro e w7 ⟨rfl, hb7⟩
  have hb07 := hb06.trans (hb7.mono hb06.size)
  have hh7 := (hb7.block p0 (lt_of_heap0 hh6)).trans hh6
  have hh7' := (hb7.block p1 (lt_of_heap0 hh6')).trans hh6'
  have t0 : w7.cell? ⟨p0, 3, none⟩ = some (.int .i64 tot) := by simp [World.cell?, hh7]
  have t1 : w7.cell? ⟨p1, 3, none⟩ = some (.int .i64 tot) := by simp [World.cell?, hh7']
  have qt : (tot != tot) = false := by simp
  have D4 := Lib.hid (C3.out w7 (hL.below hb07))
  clear D3 s0 s1 hh6 hh6' hb06 hb7 C3 hh7'
  go_wp2_with fail
  refine D4.out.mono ?_
  rintro e w8 ⟨pv, rfl, hpv, hb8⟩
  obtain ⟨PV, pc, rfl, _⟩ := own_shape hpv
  have hPV : Ints w8 0 PV (perilsF los) := (ints_of_own hpv).low (Nat.zero_le _)
  have hb08 := hb07.trans (hb8.mono hb07.size)
  have hh8 := (hb8.block p0 (lt_of_heap0 hh7)).trans hh7
  obtain ⟨np, hnp⟩ : ∃ m, m = (perilsF los).length := ⟨_, rfl⟩
  rw [← hnp] at hpl ⊢
  have HNP := Lib.hid hnp
  clear D4 t0 t1 hh7 hb07 hb8 hpv hnp
  by_cases hlen : nb = np
  case neg =>
    have HV : Hid (verF los am n ls tot bs = 17) := ver_short (by rw [← HNB.out, ← HNP.out]; exact hlen)
    have q2 : ((nb : Int) != (np : Int)) = true := by simp; omega
    have q3 : (nb != np) = true := by simpa using hlen
    clear hlen
    go_wp2_with fail
    go_ret
    exact ⟨ret_int HV.out.symm, hb08⟩
  subst hlen
  have q2 : ((nb : Int) != (nb : Int)) = false := by simp
  have q3 : (nb != nb) = false := by simp
  have HLEQ : Hid (bs.length = (perilsF los).length) := by show _ = _; rw [← HNB.out, ← HNP.out]
  go_wp2_with fail
  go_loopw [18, 19, 20, 21, 22, 84] (fun s18 _ _ _ _ ii wr => ∃ k : Nat, k ≤ nb ∧ ii = .int .i64 k ∧ s18 = .int .i64 (sumI ((bs.take k).map hdV)) ∧ okTo los am n ls bs k ∧ 0 ≤ sumI ((bs.take k).map hdV) ∧ sumI ((bs.take k).map hdV) ≤ 17592186044416 * k ∧ Below w8.heap.size w8 wr) (fun _ _ _ _ _ ii _ => nb - (intOf ii).toNat)
  case atStart => exact ⟨0, Nat.zero_le _, rfl, rfl, fun i p b hi => by omega, by simp [sumI], by simp [sumI], Below.refl _ _⟩
  case round =>
    obtain ⟨k, hk, rfl, rfl, hok, hs0, hs1, hbr⟩ := hrel
    have HOK := Lib.hid hok
    clear hok
    obtain ⟨s, hs⟩ : ∃ x, x = sumI ((bs.take k).map hdV) := ⟨_, rfl⟩
    rw [← hs] at hs0 hs1 ⊢
    have HS := Lib.hid hs
    clear hs
    obtain ⟨wo, hwo⟩ : ∃ wo : World, wo = wr := ⟨_, rfl⟩
    rw [← hwo] at hbr ⊢
    clear hwo
    have hb0r := hb08.trans (hbr.mono hb08.size)
    by_cases hkn : k < nb
    case neg =>
      obtain rfl : k = nb := by omega
      have hhr := (hbr.block p0 (lt_of_heap0 hh8)).trans hh8
      have t0 : wo.cell? ⟨p0, 3, none⟩ = some (.int .i64 tot) := by simp [World.cell?, hhr]
      have hall : sumI (bs.map hdV) = s := by rw [HS.out, HNB.out, List.take_length]
      have hV := ver_good (tot := tot) HLEQ.out (by rw [← HNB.out]; exact HOK.out)
      rw [hall] at hV
      by_cases he : s = tot
      · have q5 : (s != tot) = false := by simpa using he
        rw [if_pos he] at hV
        have HV := Lib.hid hV
        clear hV he hall
        go_wp2_with fail
        go_ret
        exact ⟨ret_int HV.out.symm, hb0r⟩
      · have q5 : (s != tot) = true := by simpa using he
        rw [if_neg he] at hV
        have HV := Lib.hid hV
        clear hV he hall
        go_wp2_with fail
        go_ret
        exact ⟨ret_int HV.out.symm, hb0r⟩
    obtain ⟨p, hp, _⟩ := drop_cons (xs := perilsF los) (i := k) (by rw [← HNP.out]; exact hkn)
    obtain ⟨b, hbk, _⟩ := drop_cons (xs := bs) (i := k) (by rw [← HNB.out]; exact hkn)
    obtain ⟨pb, po, rfl, _, _, e0⟩ := (hPV.below hbr).at_ hp
    have HP := Lib.hid hp
    have HBK := Lib.hid hbk
    have hvl := HBV.out b (List.mem_of_getElem? hbk)
    have D4 := Lib.hid (C4.out p wo (hL.below hb0r) (hM.below hb0r))
    rw [HEF.out p] at D4
    have hkn' : (k : Int) < (nb : Int) := by omega
    clear hp hbk
    go_wp2_with fail
    refine D4.out.mono ?_
    rintro e w9 ⟨xv, rfl, hxv, hb9⟩
    obtain ⟨XV, xc, rfl, _⟩ := own_shape hxv
    have hXV : Pairs w9 0 XV (ptsF los am p) := (pairs_of_own hxv).low (Nat.zero_le _)
    have hb09 := hb0r.trans (hb9.mono hb0r.size)
    obtain ⟨bg, bo, rfl, _, b0, b1, hvs⟩ := (HHB.out.below hb09).at_ HBK.out
    have D5 := Lib.hid (C5.out XV xc p b.G b.c b.vs w9 hvl hXV (hE.below hb09) hvs)
    obtain ⟨nx, hnx⟩ : ∃ m, m = (ptsF los am p).length := ⟨_, rfl⟩
    rw [← hnx] at D5 ⊢
    have hb89 := hbr.trans (hb9.mono hbr.size)
    clear hnx D4 hxv hXV e0
    by_cases hpb : b.p = p
    case neg =>
      have HV : Hid (verF los am n ls tot bs = 17) := ver_bad HLEQ.out HP.out HBK.out (by unfold okB; simp [hpb])
      have q5 : (b.p != p) = true := by simpa using hpb
      clear hpb
      go_wp2_with fail
      go_ret
      exact ⟨ret_int HV.out.symm, hb09⟩
    have q5 : (b.p != p) = false := by simpa using hpb
    have HPB := Lib.hid hpb
    clear hpb
    by_cases hbd : boundB (ptsF los am p) n ls b.vs = true
    case neg =>
      have HV : Hid (verF los am n ls tot bs = 17) := ver_bad HLEQ.out HP.out HBK.out (by unfold okB; simp [hbd])
      rw [Bool.eq_false_iff.2 hbd] at D5
      clear hbd
      go_wp2_with (go_at_call 62; refine D5.out.mono ?_; rintro e w10 ⟨rfl, hb10⟩)
      go_ret
      exact ⟨ret_int HV.out.symm, hb09.trans (hb10.mono hb09.size)⟩
    have HO : Hid (okB los am n ls (p, b) = true) := by show _ = _; unfold okB; simp [HPB.out, hbd]
    rw [hbd] at D5
    obtain ⟨_, _, g1, g2, v, r, hv, hve⟩ := hdV_range HO.out
    have HNX := Lib.hid (hdV_next HBK.out)
    rw [← HS.out] at HNX
    have HOK2 := Lib.hid (HOK.out.next HP.out HBK.out HO.out)
    have hg0 : b.vs[0]? = some v := by rw [hv]; rfl
    obtain ⟨vg, vo, hvG, _, _, v0⟩ := hvs.at_ hg0
    have HG0 := Lib.hid hg0
    have HVLEN : Hid (0 < b.vs.length) := by show _ < _; rw [hv]; simp
    rw [hvG] at D5 b1 hvs
    rw [hve] at g1 g2 HNX
    obtain ⟨lv, hlv⟩ : ∃ x, x = b.vs.length := ⟨_, rfl⟩
    rw [← hlv] at D5 b1 HVLEN
    have HLV := Lib.hid hlv
    have HVG := Lib.hid hvG
    have hl0 : (0 : Int) < (lv : Int) := by have := HVLEN.out; omega
    clear hbd hv hve hg0 hlv hvl hvG
    go_wp2_with fail
    refine D5.out.mono ?_
    rintro e w10 ⟨rfl, hb10⟩
    have hb010 := hb09.trans (hb10.mono hb09.size)
    obtain ⟨bg', bo', e1, _, b0', b1', _⟩ := (HHB.out.below hb010).at_ HBK.out
    obtain ⟨rfl, rfl⟩ : bg = bg' ∧ bo = bo' := by simpa using e1
    rw [HVG.out, ← HLV.out] at b1'
    have v0' : w10.cell? ⟨vg, vo, none⟩ = some (.int .i64 v) := by
      obtain ⟨vg', vo', e2, _, _, v1⟩ := (hvs.below hb10).at_ (i := 0) (x := v) HG0.out
      obtain ⟨rfl, rfl⟩ : vg = vg' ∧ vo = vo' := by simpa using e2
      simpa using v1
    have hwr : IntKind.i64.wrap (s + v) = s + v := IntWalk.i64_in _ (by omega)
    have hb810 := hb89.trans (hb10.mono hb89.size)
    go_wp2_with fail
    go_roundw
    case rel => exact ⟨k + 1, by omega, by go_num, by rw [HNX.out], HOK2.out, by rw [HNX.out]; omega, by rw [HNX.out]; omega, hb810⟩
    case measure => simp [intOf]; omega

end Go.Proofs.Ytilkcailpkebdaa

/-
  Facts on certificates that were made. Plain Lean.
-/
namespace Go.Proofs.Ytilkcailpkebdaa
open Go.RowKit
set_option linter.unusedVariables false

theorem bestR_evC {los : List Los} {am : List Int} {n : Int} {ls : List P2} (h : chkE los am = 0) (hr : recErr 0 ls = 0) (h1 : 1 ≤ n) (h2 : n ≤ 8784) : bestR los am n ls = evR los am (bestF los am n ls) n ls ∧ bestT los am n ls = totF los am (bestF los am n ls) := by
  have hb := best_ok (bestA_ok h hr h1 h2)
  have he := ev_ok (ev_parts h hr (best_valid (ls := ls) h h1 h2))
  exact ⟨hb.2.2.1, by rw [hb.2.1, he.2.1]⟩
theorem prov_facts {los : List Los} {am : List Int} {n : Int} {ls : List P2} {bs : List Bd} (h : chkE los am = 0) (hk : bs.map Bd.key = provF los am n ls) : bs.length ≤ los.length ∧ ∀ b ∈ bs, b.vs.length ≤ 65 := by
  constructor
  · have := congrArg List.length hk
    rw [List.length_map] at this
    rw [this]; exact prov_len _ _ _ _
  · intro b hb
    have hm : b.key ∈ provF los am n ls := by rw [← hk]; exact List.mem_map_of_mem hb
    unfold provF at hm
    split at hm
    · obtain ⟨p, _, e⟩ := List.mem_map.1 hm
      have e2 : b.vs = valsF n ls (ptsF los am p) := (congrArg Prod.snd e).symm
      rw [e2, valsF_length]
      have := (ptsF_fine h p).2.2.2
      omega
    · simp at hm
theorem lay_sum {ls : List P2} {am : List Int} (h3 : ls.length ≤ 3) (h10 : am.length ≤ 10) (h : ∀ x ∈ am, 0 ≤ x ∧ x < 268435456) : ls.length * sumI am ≤ 17592186044416 := by
  have h1 := sumI_le h
  have h2 := Int.mul_le_mul_of_nonneg_right (show (ls.length : Int) ≤ 3 by omega) h1.1
  omega

end Go.Proofs.Ytilkcailpkebdaa

/-
  Arguments that came in: slices of ints and of structs of ints, opened to cells.
-/
namespace Go.Proofs.Ytilkcailpkebdaa
open Go.ChangeShapes Go.WideShapes Go.Deep Go.RowKit
set_option linter.unusedVariables false

theorem addr_add_none (b off i : Nat) : (({ block := b, off := off } : Addr).add i) = ⟨b, off + i, none⟩ := by
  unfold Addr.add; split
  · rename_i h; rw [h]; simp
  · rfl

section
variable {H : Type} {enc : TypeId × Value → H} {P : Program} {w : World} {spare : Nat → Bool} {held : Bool}

theorem open_rows {t e : TypeId} {fs : Array Field} {fuel : Nat} {cs : List Value} {x : DataW H × List MemPlace} (ht : P.underlying t = some (.slice e)) (he : P.underlying e = some (.struct fs))
    (hone : oneCellFields P fs = true) (hC : P.cellsOf e = fs.size) (hint : ∀ (j : Nat) (f : Field), fs[j]? = some f → P.underlying f.type = some (.int .i64)) (h0 : 0 < fs.size)
    (h : DataW.trod enc P w 0 (fun _ => true) held fuel t cs = some x) :
    ∃ (A : Option Addr) (n c : Nat) (F : Nat → Nat → Int), cs = [.slice A n c] ∧ n ≤ c ∧ c ≤ maxLen ∧ (0 < n → ∃ b off, A = some ⟨b, off, none⟩ ∧ b < w.heap.size ∧ ∀ i, i < n → ∀ j, j < fs.size → w.cell? ⟨b, off + i * fs.size + j, none⟩ = some (.int .i64 (F i j))) := by
  rcases open_slice ht h with ⟨rfl, _⟩ | ⟨a, len, cap, m, n, D, Pl, hcs, hb, hl, hm, hmm, hx, hi⟩
  · exact ⟨none, 0, 0, fun _ _ => 0, rfl, Nat.le_refl _, Nat.zero_le _, fun h => absurd h (by omega)⟩
  · have hcell : ∀ i j, i < m → j < fs.size → ∃ z : Int, w.cell? (a.add (i * fs.size + j)) = some (.int .i64 z) := by
      intro i j him hj
      obtain ⟨cs', hc, ht'⟩ := hi i him
      rw [hC] at hc
      obtain ⟨ys, n', hn', hy, hlen, hyl, hf⟩ := DataW.trod_struct he ht'
      obtain ⟨_, hcl, hat⟩ := World.cells?_some hc
      obtain ⟨f, hfj⟩ : ∃ f, fs[j]? = some f := ⟨_, Array.getElem?_eq_getElem hj⟩
      obtain ⟨ho, hk⟩ := hone_of hone j f hfj
      have h1 := hf j f hfj
      rw [ho, hk] at h1
      have hone' : (cs'.drop j).take 1 = [cs'[j]'(by omega)] := by
        rw [List.drop_eq_getElem_cons (by omega)]
        rfl
      rw [hone'] at h1
      have hys : ys[j]? = some (ys[j]'(by omega)) := List.getElem?_eq_getElem (by omega)
      obtain ⟨z, e0, _, _⟩ := DataW.trod_int (hint j f hfj) (h1.trans hys)
      refine ⟨z, ?_⟩
      rw [← Go.Deep.add_add, hat j hj, List.getElem?_eq_getElem (by omega)]
      simp only [List.cons.injEq, and_true] at e0
      rw [e0]
    have hm2 : len ≤ m := by rw [hmm]; split <;> omega
    refine ⟨some a, len, cap, fun i j => if hh : i < m ∧ j < fs.size then (hcell i j hh.1 hh.2).choose else 0, hcs, hl, hm, fun hp => ?_⟩
    obtain ⟨z, hz⟩ := hcell 0 0 (by omega) h0
    obtain ⟨b, off, sp⟩ := a
    have hz' : w.cell? ⟨b, off, sp⟩ = some (.int .i64 z) := by simpa [Addr.add] using hz
    obtain rfl : sp = none := by simpa using World.cell?_spot hz'
    refine ⟨b, off, rfl, World.block_lt_of_cell? w _ hz', fun i hin j hj => ?_⟩
    have hh : i < m ∧ j < fs.size := ⟨by omega, hj⟩
    have := (hcell i j hh.1 hh.2).choose_spec
    have hadd : (({ block := b, off := off } : Addr).add (i * fs.size + j)) = ⟨b, off + i * fs.size + j, none⟩ := by rw [addr_add_none, Nat.add_assoc]
    dsimp only
    rw [dif_pos hh]
    exact (congrArg w.cell? hadd.symm).trans this

theorem open_pairs {r : Reach} {b0 : Nat} {t e : TypeId} {f0 f1 : Field} {v : Value} {d : DataW H} {p : List MemPlace} (ht : P.underlying t = some (.slice e)) (he : P.underlying e = some (.struct #[f0, f1]))
    (hone : oneCellFields P #[f0, f1] = true) (hC : P.cellsOf e = 2) (i0 : P.underlying f0.type = some (.int .i64)) (i1 : P.underlying f1.type = some (.int .i64))
    (hv : Value.okWide P w r b0 t v) (h : DataW.Trod enc P w 0 (fun _ => true) held t v d p) :
    ∃ (A : Option Addr) (c : Nat) (xs : List P2), v = .slice A xs.length c ∧ Pairs w 0 A xs ∧ xs.length ≤ 9223372036854775807 := by
  obtain ⟨a0, len, cap, rfl⟩ := okWide_slice ht hv
  obtain ⟨fuel, hf⟩ := h
  obtain ⟨A, n, c, F, hcs, hnc, hcm, hc⟩ := open_rows ht he hone (by simpa using hC) (fun j f hj => by
    match j, hj with
    | 0, hj => simp at hj; subst hj; exact i0
    | 1, hj => simp at hj; subst hj; exact i1
    | j + 2, hj => simp at hj) (by simp) hf
  simp [Value.cells] at hcs
  obtain ⟨rfl, rfl, rfl⟩ := hcs
  refine ⟨a0, cap, (List.range len).map fun i => ⟨F i 0, F i 1⟩, by simp, fun hp => ?_, by simp; unfold maxLen at hcm; omega⟩
  obtain ⟨b, off, e0, hb, hcell⟩ := hc (by simpa using hp)
  refine ⟨b, off, e0, Nat.zero_le _, hb, fun i x hx j u hu => ?_⟩
  simp only [List.getElem?_map, Option.map_eq_some_iff] at hx
  obtain ⟨y, ⟨k, hk, rfl⟩, rfl⟩ := hx
  obtain ⟨hkl, hk⟩ := List.getElem?_eq_some_iff.1 hk
  have hki : k = i := by simpa using hk.symm
  subst hki
  have hlen : k < len := by simpa using hkl
  match j, hu with
  | 0, hu => simp [P2.cells] at hu; subst hu; exact hcell k hlen 0 (by simp)
  | 1, hu => simp [P2.cells] at hu; subst hu; exact hcell k hlen 1 (by simp)
  | j + 2, hu => simp [P2.cells] at hu

theorem open_intsL {r : Reach} {b0 : Nat} {t e : TypeId} {v : Value} {d : DataW H} {p : List MemPlace} (ht : P.underlying t = some (.slice e)) (he : P.underlying e = some (.int .i64)) (hC : P.cellsOf e = 1)
    (hv : Value.okWide P w r b0 t v) (h : DataW.Trod enc P w 0 (fun _ => true) held t v d p) :
    ∃ (A : Option Addr) (c : Nat) (xs : List Int), v = .slice A xs.length c ∧ Ints w 0 A xs ∧ xs.length ≤ 9223372036854775807 := by
  obtain ⟨a0, len, cap, rfl⟩ := okWide_slice ht hv
  obtain ⟨fuel, hf⟩ := h
  rcases open_ints ht he hC hf with ⟨hcs, _⟩ | ⟨x, l, c, zs, hcs, _, hl, hm, hz, _, hcell, hwz⟩
  · simp [Value.cells] at hcs
    obtain ⟨rfl, rfl, rfl⟩ := hcs
    exact ⟨none, 0, [], rfl, Sl.none_, by simp⟩
  · simp [Value.cells] at hcs
    obtain ⟨rfl, rfl, rfl⟩ := hcs
    have hzl : len ≤ zs.length := by simp at hz; omega
    refine ⟨some x, cap, zs.take len, by simp [hzl], fun hp => ?_, by simp; unfold maxLen at hm; omega⟩
    have hp' : 0 < len := by simp at hp; omega
    have hc0 := hcell 0 (by omega)
    obtain ⟨b, off, sp⟩ := x
    have hz' : w.cell? ⟨b, off, sp⟩ = some (.int .i64 (zs.getD 0 0)) := by simpa [Addr.add] using hc0
    obtain rfl : sp = none := by simpa using World.cell?_spot hz'
    refine ⟨b, off, rfl, Nat.zero_le _, World.block_lt_of_cell? w _ hz', fun i x hx j u hu => ?_⟩
    rw [List.getElem?_map, Option.map_eq_some_iff] at hx
    obtain ⟨y, hy, rfl⟩ := hx
    match j, hu with
    | 0, hu =>
      simp [V1] at hu
      subst hu
      rw [List.getElem?_take] at hy
      split at hy
      · have hi := (List.getElem?_eq_some_iff.1 hy).1
        have := hcell i hi
        rw [show zs.getD i 0 = y by simp [hy]] at this
        simpa [addr_add_none] using this
      · cases hy
    | j + 1, hu => simp [V1] at hu
end

end Go.Proofs.Ytilkcailpkebdaa

/-
  Slices of structs of ints that came in, opened: the list, the capacity, and that nil has none.
-/
namespace Go.Proofs.Ytilkcailpkebdaa
open Go.ChangeShapes Go.WideShapes Go.Deep Go.RowKit
set_option linter.unusedVariables false

section
variable {H : Type} {enc : TypeId × Value → H} {P : Program} {w : World} {spare : Nat → Bool} {held : Bool}

theorem open_cap {t e : TypeId} {fuel : Nat} {A : Option Addr} {n c : Nat} {x : DataW H × List MemPlace} (ht : P.underlying t = some (.slice e))
    (h : DataW.trod enc P w 0 (fun _ => true) held fuel t [.slice A n c] = some x) : A = none → c = 0 := by
  rcases open_slice ht h with ⟨hcs, _⟩ | ⟨a, len, cap, m, n', D, Pl, hcs, _⟩
  · intro _; simp at hcs; exact hcs.2.2
  · intro hA; simp at hcs; rw [hA] at hcs; cases hcs.1

theorem open_recs {α : Type} (ec : α → List Value) (mk : (Nat → Int) → α) (k : Nat) (hk : ∀ x, (ec x).length = k) (hmk : ∀ f j, j < k → (ec (mk f))[j]? = some (.int .i64 (f j))) (hk0 : 0 < k)
    {r : Reach} {b0 : Nat} {t e ti : TypeId} {fs : Array Field} {v : Value} {d : DataW H} {p : List MemPlace} (ht : P.underlying t = some (.slice e)) (he : P.underlying e = some (.struct fs)) (hfs : fs.size = k)
    (hone : oneCellFields P fs = true) (hC : P.cellsOf e = k) (hall : fs.all (fun f => f.type == ti) = true) (hti : P.underlying ti = some (.int .i64))
    (hv : Value.okWide P w r b0 t v) (h : DataW.Trod enc P w 0 (fun _ => true) held t v d p) :
    ∃ (A : Option Addr) (c : Nat) (xs : List α), v = .slice A xs.length c ∧ Sl w 0 k A (xs.map ec) ∧ xs.length ≤ 9223372036854775807 ∧ xs.length ≤ c ∧ (A = none → c = 0) := by
  obtain ⟨a0, len, cap, rfl⟩ := okWide_slice ht hv
  obtain ⟨fuel, hf⟩ := h
  obtain ⟨A, n, c, F, hcs, hnc, hcm, hc⟩ := open_rows ht he hone (by rw [hfs]; exact hC) (fun j f hj => by
    have := Array.all_eq_true.1 hall j (by exact (Array.getElem?_eq_some_iff.1 hj).1)
    rw [(Array.getElem?_eq_some_iff.1 hj).2] at this
    rw [beq_iff_eq.1 this]; exact hti) (by omega) hf
  have hcap := open_cap (A := a0) (n := len) (c := cap) ht hf
  simp [Value.cells] at hcs
  obtain ⟨rfl, rfl, rfl⟩ := hcs
  refine ⟨a0, cap, (List.range len).map fun i => mk (F i), by simp, fun hp => ?_, by simp; unfold maxLen at hcm; omega, by simpa using hnc, hcap⟩
  obtain ⟨b, off, e0, hb, hcell⟩ := hc (by simpa using hp)
  refine ⟨b, off, e0, Nat.zero_le _, hb, fun i x hx j u hu => ?_⟩
  simp only [List.getElem?_map, Option.map_eq_some_iff] at hx
  obtain ⟨y, ⟨k', hk', rfl⟩, rfl⟩ := hx
  obtain ⟨hkl, hk'⟩ := List.getElem?_eq_some_iff.1 hk'
  have hki : k' = i := by simpa using hk'.symm
  subst hki
  have hlen : k' < len := by simpa using hkl
  have hj : j < k := by have := (List.getElem?_eq_some_iff.1 hu).1; rwa [hk] at this
  rw [hmk _ j hj] at hu
  rw [← Option.some.inj hu, ← hfs]
  exact hcell k' hlen j (by omega)

def mkWin (f : Nat → Int) : Win := ⟨f 0, f 1, f 2⟩
theorem mkWin_get (f : Nat → Int) (j : Nat) (h : j < 3) : (Win.cells (mkWin f))[j]? = some (.int .i64 (f j)) := by
  rcases j with _ | _ | _ | j
  · rfl
  · rfl
  · rfl
  · omega
def mkLos (f : Nat → Int) : Los := ⟨f 0, f 1, f 2, f 3, f 4, f 5, f 6, f 7, f 8, f 9⟩
theorem mkLos_get (f : Nat → Int) (j : Nat) (h : j < 10) : (Los.cells (mkLos f))[j]? = some (.int .i64 (f j)) := by
  rcases j with _ | _ | _ | _ | _ | _ | _ | _ | _ | _ | j
  all_goals first | rfl | omega

theorem open_wins {r : Reach} {b0 : Nat} {t e ti : TypeId} {fs : Array Field} {v : Value} {d : DataW H} {p : List MemPlace} (ht : P.underlying t = some (.slice e)) (he : P.underlying e = some (.struct fs)) (hfs : fs.size = 3)
    (hone : oneCellFields P fs = true) (hC : P.cellsOf e = 3) (hall : fs.all (fun f => f.type == ti) = true) (hti : P.underlying ti = some (.int .i64))
    (hv : Value.okWide P w r b0 t v) (h : DataW.Trod enc P w 0 (fun _ => true) held t v d p) :
    ∃ (A : Option Addr) (c : Nat) (xs : List Win), v = .slice A xs.length c ∧ Wins w 0 A xs ∧ xs.length ≤ 9223372036854775807 ∧ xs.length ≤ c ∧ (A = none → c = 0) :=
  open_recs Win.cells mkWin 3 (fun _ => rfl) mkWin_get (by omega) ht he hfs hone hC hall hti hv h
theorem open_losses {r : Reach} {b0 : Nat} {t e ti : TypeId} {fs : Array Field} {v : Value} {d : DataW H} {p : List MemPlace} (ht : P.underlying t = some (.slice e)) (he : P.underlying e = some (.struct fs)) (hfs : fs.size = 10)
    (hone : oneCellFields P fs = true) (hC : P.cellsOf e = 10) (hall : fs.all (fun f => f.type == ti) = true) (hti : P.underlying ti = some (.int .i64))
    (hv : Value.okWide P w r b0 t v) (h : DataW.Trod enc P w 0 (fun _ => true) held t v d p) :
    ∃ (A : Option Addr) (c : Nat) (xs : List Los), v = .slice A xs.length c ∧ Losses w 0 A xs ∧ xs.length ≤ 9223372036854775807 ∧ xs.length ≤ c ∧ (A = none → c = 0) :=
  open_recs Los.cells mkLos 10 (fun _ => rfl) mkLos_get (by omega) ht he hfs hone hC hall hti hv h
end

end Go.Proofs.Ytilkcailpkebdaa
