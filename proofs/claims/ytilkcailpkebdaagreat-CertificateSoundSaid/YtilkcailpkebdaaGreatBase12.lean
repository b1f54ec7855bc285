/-
  Texts of the proof, one after the other.
-/
import Derived.Test.YtilkcailpkebdaaGreatBase10
import Derived.Test.YtilkcailpkebdaaGreatBase3
import Derived.Test.YtilkcailpkebdaaGreatBase11
import Derived.Test.YtilkcailpkebdaaGreatBase4
import Derived.WalkKit
import Derived.Laws.BitsLemmas
import Derived.Test.YtilkcailpkebdaaGreatBase7
import Derived.RegionTactic
import Derived.BigRegion
import Derived.Deep.RegionLaw
import Derived.Deep.DeepCutAuto

/-
  certificate.same and certificate.Verify: their contracts.
-/
namespace Go.Proofs.YtilkcailpkebdaaGreat
open Go.RowKit
set_option linter.unusedVariables false

set_option maxHeartbeats 1000000 in
theorem csameW_self (A B : Option Addr) (c d : Nat) (ws : List Win) (w : World) (hl : ws.length ≤ 9223372036854775807) (hA : Wins w 0 A ws) (hB : Wins w 0 B ws) :
    Calls Tryz.prog 49 #[.slice A ws.length c, .slice B ws.length d] w fun e w' => e = .returned (.bool true) ∧ Below w.heap.size w w' := by
  obtain ⟨n, hn⟩ : ∃ n, n = ws.length := ⟨_, rfl⟩
  rw [← hn] at hl ⊢
  have HN := Lib.hid hn
  clear hn
  go_enter Tryz.func49, Tryz.ntmps49
  go_wp2_with fail
  go_loopw [5, 13] (fun _ ii wr => ∃ i : Nat, ii = .int .i64 i ∧ i ≤ n ∧ Below w.heap.size w wr) (fun _ ii _ => n - (intOf ii).toNat)
  case atStart => exact ⟨0, rfl, Nat.zero_le _, Below.refl _ _⟩
  case round =>
    obtain ⟨i, rfl, hi, hb⟩ := hrel
    by_cases hin : i < n
    · obtain ⟨x, hx, _⟩ := drop_cons (xs := ws) (i := i) (by rw [← HN.out]; exact hin)
      obtain ⟨b1, o1, rfl, _, _, c0, c1, c2⟩ := (hA.below hb).at_ hx
      obtain ⟨b2, o2, rfl, _, _, e0, e1, e2⟩ := (hB.below hb).at_ hx
      clear hx
      go_wp2_with fail
      go_quiet (fail)
      go_wp2_with fail
      go_roundw
      case rel => exact ⟨i + 1, by go_num, by omega, below_drewN hb _⟩
      case measure => simp [intOf]; omega
    · go_wp2_with fail
      go_ret
      exact ⟨rfl, hb⟩
set_option maxHeartbeats 1000000 in
theorem csameI_self (A B : Option Addr) (c d : Nat) (ws : List Int) (w : World) (hl : ws.length ≤ 9223372036854775807) (hA : Ints w 0 A ws) (hB : Ints w 0 B ws) :
    Calls Tryz.prog 50 #[.slice A ws.length c, .slice B ws.length d] w fun e w' => e = .returned (.bool true) ∧ Below w.heap.size w w' := by
  obtain ⟨n, hn⟩ : ∃ n, n = ws.length := ⟨_, rfl⟩
  rw [← hn] at hl ⊢
  have HN := Lib.hid hn
  clear hn
  go_enter Tryz.func50, Tryz.ntmps50
  go_wp2_with fail
  go_loopw [5, 13] (fun _ ii wr => ∃ i : Nat, ii = .int .i64 i ∧ i ≤ n ∧ Below w.heap.size w wr) (fun _ ii _ => n - (intOf ii).toNat)
  case atStart => exact ⟨0, rfl, Nat.zero_le _, Below.refl _ _⟩
  case round =>
    obtain ⟨i, rfl, hi, hb⟩ := hrel
    by_cases hin : i < n
    · obtain ⟨x, hx, _⟩ := drop_cons (xs := ws) (i := i) (by rw [← HN.out]; exact hin)
      obtain ⟨b1, o1, rfl, _, _, c0⟩ := (hA.below hb).at_ hx
      obtain ⟨b2, o2, rfl, _, _, e0⟩ := (hB.below hb).at_ hx
      clear hx
      go_wp2_with fail
      go_quiet (fail)
      go_wp2_with fail
      go_roundw
      case rel => exact ⟨i + 1, by go_num, by omega, below_drewN hb _⟩
      case measure => simp [intOf]; omega
    · go_wp2_with fail
      go_ret
      exact ⟨rfl, hb⟩

theorem hdV_next {bs : List Bd} {k : Nat} {b : Bd} (h : bs[k]? = some b) : sumI ((bs.take (k + 1)).map hdV) = sumI ((bs.take k).map hdV) + hdV b := by
  rw [List.take_add_one, h, List.map_append, sumI_append]; simp [sumI]
theorem okTo.next {los : List Los} {am : List Int} {n : Int} {ls : List P2} {bs : List Bd} {k : Nat} {p : Int} {b : Bd} (h : okTo los am n ls bs k) (hp : (perilsF los)[k]? = some p) (hb : bs[k]? = some b) (ho : okB los am n ls (p, b) = true) : okTo los am n ls bs (k + 1) := fun i p' b' hi hp' hb' => by
  by_cases e : i = k
  · subst e
    rw [hp] at hp'; rw [hb] at hb'
    injection hp' with e1; injection hb' with e2
    subst e1; subst e2; exact ho
  · exact h i p' b' (by omega) hp' hb'

set_option maxRecDepth 100000 in
set_option maxHeartbeats 4000000 in
theorem verify_any (A : Option Addr) (c : Nat) (los : List Los) (M : Option Addr) (mc : Nat) (am : List Int) (n : Int) (E : Option Addr) (ec : Nat) (ls : List P2) (W : Option Addr) (wc : Nat) (ws : List Win) (T : Option Addr) (tc : Nat) (R : Option Addr) (rc : Nat) (B : Option Addr) (bc : Nat) (bs : List Bd) (w : World)
    (hce : chkE los am = 0) (hre : recErr 0 ls = 0) (hwe : winsE ws n = 0) (hel : ls.length ≤ 1000) (hwc : ws.length ≤ wc) (hbl : bs.length ≤ 1000) (hbv : ∀ b ∈ bs, b.vs.length ≤ 9223372036854775807)
    (hL : Losses w 0 A los) (hM : Ints w 0 M am) (hE : Pairs w 0 E ls) (hW : Wins w 0 W ws) (hT : Ints w 0 T (totF los am ws)) (hR : Ints w 0 R (evR los am ws n ls)) (hB : Bnds w B bs) :
    Calls Tryz.prog 21 #[.slice A los.length c, .slice M am.length mc, .int .i64 n, .slice E ls.length ec, .agg #[.slice W ws.length wc, .slice T ws.length tc, .slice R ws.length rc, .int .i64 (sumI (evR los am ws n ls))], .slice B bs.length bc] w fun e w' => e = .returned (.int .i64 (verF los am n ls (sumI (evR los am ws n ls)) bs)) ∧ Below w.heap.size w w' := by
  have hG := goodE_of hce
  obtain ⟨_, hn1, hn2, hw64⟩ := winsE_parts hwe
  have hll := hG.len
  have hal : am.length ≤ 64 := by rw [hG.same]; exact hll
  have HBA := Lib.hid (best_all hce hre hn1 hn2)
  have HEV := Lib.hid (ev_parts hce hre hwe)
  obtain ⟨hf1, hf2, _⟩ := ev_ok HEV.out
  have htl : (totF los am ws).length = ws.length := by rw [totF_len]
  have hrl : (evR los am ws n ls).length = ws.length := by rw [evR_valid hce hre hwe, List.length_map]
  have C0 : Hid (∀ V, Losses V 0 A los → Ints V 0 M am → Pairs V 0 E ls → _) := fun V h h' h'' => wbest_any A c los M mc am n E ec ls V (by omega) (by omega) hel h h' h''
  have C1 : Hid (∀ V, Losses V 0 A los → Ints V 0 M am → Wins V 0 W ws → Pairs V 0 E ls → _) := fun V h h' h'' h3 => evaluate_any A c los M mc am W wc ws n E ec ls V (by omega) (by omega) (by omega) hwc hel h h' h'' h3
  have C3 : Hid (∀ V, Losses V 0 A los → _) := fun V h => perils_any A c los V (by omega) h
  have C4 : Hid (∀ (p : Int) V, Losses V 0 A los → Ints V 0 M am → _) := fun p V h h' => epoints_any A c los M mc am p V (by omega) (by omega) h h'
  have HPL : Hid (∀ p, (ptsF los am p).length ≤ 64) := fun p => (ptsF_fine hce p).2.2.2
  have HEF : Hid (∀ p, eptsF los am p = ptsF los am p) := fun p => by unfold eptsF; rw [if_pos hce]
  have C5 : Hid (∀ (F : Option Addr) (f : Nat) (p : Int) (G : Option Addr) (gc : Nat) (vs : List Int) V, vs.length ≤ 9223372036854775807 → Pairs V 0 F (ptsF los am p) → Pairs V 0 E ls → Ints V 0 G vs → _) := fun F f p G gc vs V h0 h h' h'' => bound_any F f (ptsF los am p) n E ec ls G gc vs V (by have := HPL.out p; omega) hel h0 h h' h''
  have S1 : Hid (∀ (X : Option Addr) (x : Nat) V, Wins V 0 W ws → Wins V 0 X ws → _) := fun X x V h h' => csameW_self W X wc x ws V (by omega) h h'
  have S2 : Hid (∀ (X : Option Addr) (x : Nat) V, Ints V 0 T (totF los am ws) → Ints V 0 X (totF los am ws) → _) := fun X x V h h' => csameI_self T X tc x (totF los am ws) V (by omega) h h'
  have S3 : Hid (∀ (X : Option Addr) (x : Nat) V, Ints V 0 R (evR los am ws n ls) → Ints V 0 X (evR los am ws n ls) → _) := fun X x V h h' => csameI_self R X rc x (evR los am ws n ls) V (by omega) h h'
  have hpl := perils_len los
  rw [HBA.out.1] at C0
  rw [HEV.out, hf1, hf2, htl, hrl] at C1
  rw [htl] at S2
  rw [hrl] at S3
  rw [hce] at C4
  have HBV := Lib.hid hbv
  have HHB := Lib.hid hB
  obtain ⟨tot, htot⟩ : ∃ x, x = sumI (evR los am ws n ls) := ⟨_, rfl⟩
  rw [← htot] at C1 ⊢
  obtain ⟨nl, hnl⟩ : ∃ k, k = los.length := ⟨_, rfl⟩
  obtain ⟨na, hna⟩ : ∃ k, k = am.length := ⟨_, rfl⟩
  obtain ⟨ne, hne⟩ : ∃ k, k = ls.length := ⟨_, rfl⟩
  obtain ⟨nw, hnw⟩ : ∃ k, k = ws.length := ⟨_, rfl⟩
  obtain ⟨nb, hnb⟩ : ∃ k, k = bs.length := ⟨_, rfl⟩
  rw [← hnl, ← hna] at C0 C1 C4
  rw [← hne] at C0 C1 C5
  rw [← hnw] at C1 S1 S2 S3
  rw [← hnl] at C3 hpl hll
  rw [← hnl, ← hna, ← hne, ← hnw, ← hnb]
  rw [← hnb] at hbl
  have HNB := Lib.hid hnb
  obtain ⟨l1, hl1⟩ : ∃ k, k = (bestW los am n ls).length := ⟨_, rfl⟩
  obtain ⟨l2, hl2⟩ : ∃ k, k = (bestT los am n ls).length := ⟨_, rfl⟩
  obtain ⟨l3, hl3⟩ : ∃ k, k = (bestR los am n ls).length := ⟨_, rfl⟩
  obtain ⟨sm, hsm⟩ : ∃ k, k = sumI (bestR los am n ls) := ⟨_, rfl⟩
  rw [← hl1, ← hl2, ← hl3, ← hsm] at C0
  clear hl1 hl2 hl3 hsm hnl hna hne hnw hnb hG hn1 hn2 hw64 HBA HEV hf1 hf2 htl hrl hce hre hwe hwc hbv hB hal hel htot
  obtain ⟨w0, hw0⟩ : ∃ x : World, x = w.alloc (.cells #[.slice W nw wc, .slice T nw tc, .slice R nw rc, .int .i64 tot] 32) := ⟨_, rfl⟩
  obtain ⟨p0, hp0⟩ : ∃ x, x = w.heap.size := ⟨_, rfl⟩
  have hb0 : Below w.heap.size w w0 := by rw [hw0]; exact below_alloc1 _ _
  have hh0 : w0.heap[p0]? = some (.cells #[.slice W nw wc, .slice T nw tc, .slice R nw rc, .int .i64 tot] 32 (0, 0)) := by rw [hw0, hp0]; exact heap_alloc_new _ _
  go_enter Tryz.func21, Tryz.ntmps21
  go_wp2_with fail
  rw [← hw0, ← hp0]
  clear hw0 hp0
  refine (C0.out _ (hL.below hb0) (hM.below hb0) (hE.below hb0)).mono ?_
  rintro e w1 ⟨X1, x1, X2, x2, X3, x3, rfl, _, _, _, hb1, _⟩
  obtain ⟨w2, hw2⟩ : ∃ x : World, x = w1.alloc (.cells #[.slice X1 l1 x1, .slice X2 l2 x2, .slice X3 l3 x3, .int .i64 sm] 32) := ⟨_, rfl⟩
  have hb12 : Below w1.heap.size w1 w2 := by rw [hw2]; exact below_alloc1 _ _
  have hb02 := hb1.trans (hb12.mono hb1.size)
  have hh2 := (hb02.block p0 (lt_of_heap0 hh0)).trans hh0
  have hb2 := hb0.trans (hb02.mono hb0.size)
  have c0 : w2.cell? ⟨p0, 0, none⟩ = some (.slice W nw wc) := by simp [World.cell?, hh2]
  clear hb1 hb12 hb02 hb0 hh0 C0
  go_upto_region 4 with fail
  rw [← hw2]
  clear hw2
  go_wp2_with fail
  refine (C1.out _ (hL.below hb2) (hM.below hb2) (hW.below hb2) (hE.below hb2)).mono ?_
  rintro e w3 ⟨Y1, y1, Y2, y2, Y3, y3, rfl, hY1, hY2, hY3, hb3, _⟩
  obtain ⟨w4, hw4⟩ : ∃ x : World, x = w3.alloc (.cells #[.slice Y1 nw y1, .slice Y2 nw y2, .slice Y3 nw y3, .int .i64 tot] 32) := ⟨_, rfl⟩
  obtain ⟨p1, hp1⟩ : ∃ x, x = w3.heap.size := ⟨_, rfl⟩
  have hb34 : Below w3.heap.size w3 w4 := by rw [hw4]; exact below_alloc1 _ _
  have hh4' : w4.heap[p1]? = some (.cells #[.slice Y1 nw y1, .slice Y2 nw y2, .slice Y3 nw y3, .int .i64 tot] 32 (0, 0)) := by rw [hw4, hp1]; exact heap_alloc_new _ _
  have hb24 := hb3.trans (hb34.mono hb3.size)
  have hh4 := (hb24.block p0 (lt_of_heap0 hh2)).trans hh2
  have hb4 := hb2.trans (hb24.mono hb2.size)
  have hZ1 : Wins w4 0 Y1 ws := (hY1.below hb34).low (Nat.zero_le _)
  have hZ2 : Ints w4 0 Y2 (totF los am ws) := (hY2.below hb34).low (Nat.zero_le _)
  have hZ3 : Ints w4 0 Y3 (evR los am ws n ls) := (hY3.below hb34).low (Nat.zero_le _)
  have q0 : w4.cell? ⟨p0, 0, none⟩ = some (.slice W nw wc) := by simp [World.cell?, hh4]
  have q1 : w4.cell? ⟨p1, 0, none⟩ = some (.slice Y1 nw y1) := by simp [World.cell?, hh4']
  have D1 := Lib.hid (S1.out Y1 y1 w4 (hW.below hb4) hZ1)
  clear hY1 hY2 hY3 hb3 hb34 hb24 hb2 hh2 c0 C1 S1 hZ1
  go_upto_region 7 with fail
  rw [← hw4, ← hp1]
  clear hw4 hp1
  go_wp2_with fail
  refine D1.out.mono ?_
  rintro e w5 ⟨rfl, hb5⟩
  have hb05 := hb4.trans (hb5.mono hb4.size)
  have hh5 := (hb5.block p0 (lt_of_heap0 hh4)).trans hh4
  have hh5' := (hb5.block p1 (lt_of_heap0 hh4')).trans hh4'
  have r0 : w5.cell? ⟨p0, 1, none⟩ = some (.slice T nw tc) := by simp [World.cell?, hh5]
  have r1 : w5.cell? ⟨p1, 1, none⟩ = some (.slice Y2 nw y2) := by simp [World.cell?, hh5']
  have D2 := Lib.hid (S2.out Y2 y2 w5 (hT.below hb05) (hZ2.below hb5))
  have hZ35 := hZ3.below hb5
  clear D1 q0 q1 hh4 hh4' hb4 hb5 S2 hZ2 hZ3
  go_wp2_with fail
  refine D2.out.mono ?_
  rintro e w6 ⟨rfl, hb6⟩
  have hb06 := hb05.trans (hb6.mono hb05.size)
  have hh6 := (hb6.block p0 (lt_of_heap0 hh5)).trans hh5
  have hh6' := (hb6.block p1 (lt_of_heap0 hh5')).trans hh5'
  have s0 : w6.cell? ⟨p0, 2, none⟩ = some (.slice R nw rc) := by simp [World.cell?, hh6]
  have s1 : w6.cell? ⟨p1, 2, none⟩ = some (.slice Y3 nw y3) := by simp [World.cell?, hh6']
  have D3 := Lib.hid (S3.out Y3 y3 w6 (hR.below hb06) (hZ35.below hb6))
  clear D2 r0 r1 hh5 hh5' hb05 hb6 S3 hZ35
  go_wp2_with fail
  refine D3.out.mono ?_
  rintro e w7 ⟨rfl, hb7⟩
  have hb07 := hb06.trans (hb7.mono hb06.size)
  have hh7 := (hb7.block p0 (lt_of_heap0 hh6)).trans hh6
  have hh7' := (hb7.block p1 (lt_of_heap0 hh6')).trans hh6'
  have t0 : w7.cell? ⟨p0, 3, none⟩ = some (.int .i64 tot) := by simp [World.cell?, hh7]
  have t1 : w7.cell? ⟨p1, 3, none⟩ = some (.int .i64 tot) := by simp [World.cell?, hh7']
  have qt : (tot != tot) = false := by simp
  have D4 := Lib.hid (C3.out w7 (hL.below hb07))
  clear D3 s0 s1 hh6 hh6' hb06 hb7 C3 hh7'
  go_wp2_with fail
  refine D4.out.mono ?_
  rintro e w8 ⟨pv, rfl, hpv, hb8⟩
  obtain ⟨PV, pc, rfl, _⟩ := own_shape hpv
  have hPV : Ints w8 0 PV (perilsF los) := (ints_of_own hpv).low (Nat.zero_le _)
  have hb08 := hb07.trans (hb8.mono hb07.size)
  have hh8 := (hb8.block p0 (lt_of_heap0 hh7)).trans hh7
  obtain ⟨np, hnp⟩ : ∃ m, m = (perilsF los).length := ⟨_, rfl⟩
  rw [← hnp] at hpl ⊢
  have HNP := Lib.hid hnp
  clear D4 t0 t1 hh7 hb07 hb8 hpv hnp
  by_cases hlen : nb = np
  case neg =>
    have HV : Hid (verF los am n ls tot bs = 17) := ver_short (by rw [← HNB.out, ← HNP.out]; exact hlen)
    have q2 : ((nb : Int) != (np : Int)) = true := by simp; omega
    have q3 : (nb != np) = true := by simpa using hlen
    clear hlen
    go_wp2_with fail
    go_ret
    exact ⟨ret_int HV.out.symm, hb08⟩
  subst hlen
  have q2 : ((nb : Int) != (nb : Int)) = false := by simp
  have q3 : (nb != nb) = false := by simp
  have HLEQ : Hid (bs.length = (perilsF los).length) := by show _ = _; rw [← HNB.out, ← HNP.out]
  go_wp2_with fail
  go_loopw [18, 19, 20, 21, 22, 84] (fun s18 _ _ _ _ ii wr => ∃ k : Nat, k ≤ nb ∧ ii = .int .i64 k ∧ s18 = .int .i64 (sumI ((bs.take k).map hdV)) ∧ okTo los am n ls bs k ∧ 0 ≤ sumI ((bs.take k).map hdV) ∧ sumI ((bs.take k).map hdV) ≤ 17592186044416 * k ∧ Below w8.heap.size w8 wr) (fun _ _ _ _ _ ii _ => nb - (intOf ii).toNat)
  case atStart => exact ⟨0, Nat.zero_le _, rfl, rfl, fun i p b hi => by omega, by simp [sumI], by simp [sumI], Below.refl _ _⟩
  case round =>
    obtain ⟨k, hk, rfl, rfl, hok, hs0, hs1, hbr⟩ := hrel
    have HOK := Lib.hid hok
    clear hok
    obtain ⟨s, hs⟩ : ∃ x, x = sumI ((bs.take k).map hdV) := ⟨_, rfl⟩
    rw [← hs] at hs0 hs1 ⊢
    have HS := Lib.hid hs
    clear hs
    obtain ⟨wo, hwo⟩ : ∃ wo : World, wo = wr := ⟨_, rfl⟩
    rw [← hwo] at hbr ⊢
    clear hwo
    have hb0r := hb08.trans (hbr.mono hb08.size)
    by_cases hkn : k < nb
    case neg =>
      obtain rfl : k = nb := by omega
      have hhr := (hbr.block p0 (lt_of_heap0 hh8)).trans hh8
      have t0 : wo.cell? ⟨p0, 3, none⟩ = some (.int .i64 tot) := by simp [World.cell?, hhr]
      have hall : sumI (bs.map hdV) = s := by rw [HS.out, HNB.out, List.take_length]
      have hV := ver_good (tot := tot) HLEQ.out (by rw [← HNB.out]; exact HOK.out)
      rw [hall] at hV
      by_cases he : s = tot
      · have q5 : (s != tot) = false := by simpa using he
        rw [if_pos he] at hV
        have HV := Lib.hid hV
        clear hV he hall
        go_wp2_with fail
        go_ret
        exact ⟨ret_int HV.out.symm, hb0r⟩
      · have q5 : (s != tot) = true := by simpa using he
        rw [if_neg he] at hV
        have HV := Lib.hid hV
        clear hV he hall
        go_wp2_with fail
        go_ret
        exact ⟨ret_int HV.out.symm, hb0r⟩
    obtain ⟨p, hp, _⟩ := drop_cons (xs := perilsF los) (i := k) (by rw [← HNP.out]; exact hkn)
    obtain ⟨b, hbk, _⟩ := drop_cons (xs := bs) (i := k) (by rw [← HNB.out]; exact hkn)
    obtain ⟨pb, po, rfl, _, _, e0⟩ := (hPV.below hbr).at_ hp
    have HP := Lib.hid hp
    have HBK := Lib.hid hbk
    have hvl := HBV.out b (List.mem_of_getElem? hbk)
    have D4 := Lib.hid (C4.out p wo (hL.below hb0r) (hM.below hb0r))
    rw [HEF.out p] at D4
    have hkn' : (k : Int) < (nb : Int) := by omega
    clear hp hbk
    go_wp2_with fail
    refine D4.out.mono ?_
    rintro e w9 ⟨xv, rfl, hxv, hb9⟩
    obtain ⟨XV, xc, rfl, _⟩ := own_shape hxv
    have hXV : Pairs w9 0 XV (ptsF los am p) := (pairs_of_own hxv).low (Nat.zero_le _)
    have hb09 := hb0r.trans (hb9.mono hb0r.size)
    obtain ⟨bg, bo, rfl, _, b0, b1, hvs⟩ := (HHB.out.below hb09).at_ HBK.out
    have D5 := Lib.hid (C5.out XV xc p b.G b.c b.vs w9 hvl hXV (hE.below hb09) hvs)
    obtain ⟨nx, hnx⟩ : ∃ m, m = (ptsF los am p).length := ⟨_, rfl⟩
    rw [← hnx] at D5 ⊢
    have hb89 := hbr.trans (hb9.mono hbr.size)
    clear hnx D4 hxv hXV e0
    by_cases hpb : b.p = p
    case neg =>
      have HV : Hid (verF los am n ls tot bs = 17) := ver_bad HLEQ.out HP.out HBK.out (by unfold okB; simp [hpb])
      have q5 : (b.p != p) = true := by simpa using hpb
      clear hpb
      go_wp2_with fail
      go_ret
      exact ⟨ret_int HV.out.symm, hb09⟩
    have q5 : (b.p != p) = false := by simpa using hpb
    have HPB := Lib.hid hpb
    clear hpb
    by_cases hbd : boundB (ptsF los am p) n ls b.vs = true
    case neg =>
      have HV : Hid (verF los am n ls tot bs = 17) := ver_bad HLEQ.out HP.out HBK.out (by unfold okB; simp [hbd])
      rw [Bool.eq_false_iff.2 hbd] at D5
      clear hbd
      go_wp2_with (go_at_call 43; refine D5.out.mono ?_; rintro e w10 ⟨rfl, hb10⟩)
      go_ret
      exact ⟨ret_int HV.out.symm, hb09.trans (hb10.mono hb09.size)⟩
    have HO : Hid (okB los am n ls (p, b) = true) := by show _ = _; unfold okB; simp [HPB.out, hbd]
    rw [hbd] at D5
    obtain ⟨_, _, g1, g2, v, r, hv, hve⟩ := hdV_range HO.out
    have HNX := Lib.hid (hdV_next HBK.out)
    rw [← HS.out] at HNX
    have HOK2 := Lib.hid (HOK.out.next HP.out HBK.out HO.out)
    have hg0 : b.vs[0]? = some v := by rw [hv]; rfl
    obtain ⟨vg, vo, hvG, _, _, v0⟩ := hvs.at_ hg0
    have HG0 := Lib.hid hg0
    have HVLEN : Hid (0 < b.vs.length) := by show _ < _; rw [hv]; simp
    rw [hvG] at D5 b1 hvs
    rw [hve] at g1 g2 HNX
    obtain ⟨lv, hlv⟩ : ∃ x, x = b.vs.length := ⟨_, rfl⟩
    rw [← hlv] at D5 b1 HVLEN
    have HLV := Lib.hid hlv
    have HVG := Lib.hid hvG
    have hl0 : (0 : Int) < (lv : Int) := by have := HVLEN.out; omega
    clear hbd hv hve hg0 hlv hvl hvG
    go_wp2_with fail
    refine D5.out.mono ?_
    rintro e w10 ⟨rfl, hb10⟩
    have hb010 := hb09.trans (hb10.mono hb09.size)
    obtain ⟨bg', bo', e1, _, b0', b1', _⟩ := (HHB.out.below hb010).at_ HBK.out
    obtain ⟨rfl, rfl⟩ : bg = bg' ∧ bo = bo' := by simpa using e1
    rw [HVG.out, ← HLV.out] at b1'
    have v0' : w10.cell? ⟨vg, vo, none⟩ = some (.int .i64 v) := by
      obtain ⟨vg', vo', e2, _, _, v1⟩ := (hvs.below hb10).at_ (i := 0) (x := v) HG0.out
      obtain ⟨rfl, rfl⟩ : vg = vg' ∧ vo = vo' := by simpa using e2
      simpa using v1
    have hwr : IntKind.i64.wrap (s + v) = s + v := IntWalk.i64_in _ (by omega)
    have hb810 := hb89.trans (hb10.mono hb89.size)
    go_wp2_with fail
    go_roundw
    case rel => exact ⟨k + 1, by omega, by go_num, by rw [HNX.out], HOK2.out, by rw [HNX.out]; omega, by rw [HNX.out]; omega, hb810⟩
    case measure => simp [intOf]; omega

end Go.Proofs.YtilkcailpkebdaaGreat

/-
  Facts on certificates that were made. Plain Lean.
-/
namespace Go.Proofs.YtilkcailpkebdaaGreat
open Go.RowKit
set_option linter.unusedVariables false

theorem bestR_evC {los : List Los} {am : List Int} {n : Int} {ls : List P2} (h : chkE los am = 0) (hr : recErr 0 ls = 0) (h1 : 1 ≤ n) (h2 : n ≤ 8784) : bestR los am n ls = evR los am (bestF los am n ls) n ls ∧ bestT los am n ls = totF los am (bestF los am n ls) := by
  have hb := best_ok (bestA_ok h hr h1 h2)
  have he := ev_ok (ev_parts h hr (best_valid (ls := ls) h h1 h2))
  exact ⟨hb.2.2.1, by rw [hb.2.1, he.2.1]⟩
theorem prov_facts {los : List Los} {am : List Int} {n : Int} {ls : List P2} {bs : List Bd} (h : chkE los am = 0) (hk : bs.map Bd.key = provF los am n ls) : bs.length ≤ los.length ∧ ∀ b ∈ bs, b.vs.length ≤ 65 := by
  constructor
  · have := congrArg List.length hk
    rw [List.length_map] at this
    rw [this]; exact prov_len _ _ _ _
  · intro b hb
    have hm : b.key ∈ provF los am n ls := by rw [← hk]; exact List.mem_map_of_mem hb
    unfold provF at hm
    split at hm
    · obtain ⟨p, _, e⟩ := List.mem_map.1 hm
      have e2 : b.vs = valsF n ls (ptsF los am p) := (congrArg Prod.snd e).symm
      rw [e2, valsF_length]
      have := (ptsF_fine h p).2.2.2
      omega
    · simp at hm
theorem lay_sum {ls : List P2} {am : List Int} (h3 : ls.length ≤ 3) (h10 : am.length ≤ 10) (h : ∀ x ∈ am, 0 ≤ x ∧ x < 268435456) : ls.length * sumI am ≤ 17592186044416 := by
  have h1 := sumI_le h
  have h2 := Int.mul_le_mul_of_nonneg_right (show (ls.length : Int) ≤ 3 by omega) h1.1
  omega

end Go.Proofs.YtilkcailpkebdaaGreat

/-
  Accepted values bound what valid windows recover. Plain Lean.
-/
namespace Go.Proofs.YtilkcailpkebdaaGreat
open Go.RowKit
set_option linter.unusedVariables false

def vAt (vs : List Int) (j : Nat) : Int := (vs[j]?).getD 0
theorem vAt_of {vs : List Int} {j : Nat} {v : Int} (h : vs[j]? = some v) : vAt vs j = v := by unfold vAt; rw [h]; rfl
theorem hdI_at (vs : List Int) (k : Nat) : hdI (vs.drop k) = vAt vs k := by
  unfold vAt
  rw [show vs[k]? = (vs.drop k)[0]? by rw [List.getElem?_drop]; rfl]
  cases vs.drop k with
  | nil => rfl
  | cons v r => rfl
theorem outer_parts {L : Int} {ls : List P2} : ∀ (ps : List P2) (vs : List Int), vs.length = ps.length + 1 → outerB L ls ps vs = true → ∀ i p, ps[i]? = some p → vAt vs (i + 1) ≤ vAt vs i ∧ innerB L ls p.a (vAt vs i) (ps.drop i) (vs.drop (i + 1)) 0 = true := by
  intro ps
  induction ps with
  | nil => intro vs _ _ i p h; simp at h
  | cons q ps ih =>
    intro vs hl ho i p hp
    cases vs with
    | nil => simp at hl
    | cons v vs =>
      unfold outerB at ho
      split at ho
      · cases ho
      · rename_i h1
        split at ho
        · rename_i h2
          cases i with
          | zero =>
            obtain rfl : q = p := by simpa using hp
            refine ⟨?_, by simpa [vAt] using h2⟩
            have e : hdI vs = vAt vs 0 := hdI_at vs 0
            have e2 : vAt (v :: vs) (0 + 1) = vAt vs 0 := rfl
            have e3 : vAt (v :: vs) 0 = v := rfl
            omega
          | succ i =>
            obtain ⟨a, b⟩ := ih vs (by simpa using hl) ho i p (by simpa using hp)
            exact ⟨a, b⟩
        · cases ho
theorem inner_span {L : Int} {ls ps : List P2} {vs : List Int} {h0 vi : Int} (hs : ps.Pairwise (fun a b => a.a < b.a)) (hl : vs.length = ps.length + 1) : ∀ (m k j : Nat) (q : P2) (t : Int), j = k + m → ps[j]? = some q → q.a - h0 < L → innerB L ls h0 vi (ps.drop k) (vs.drop (k + 1)) t = true → recVal (t + sumT ps k (m + 1)) ls + vAt vs (j + 1) ≤ vi := by
  intro m
  induction m with
  | zero =>
    intro k j q t hj hq hlt h
    obtain rfl : j = k := by omega
    have hjl := (List.getElem?_eq_some_iff.1 hq).1
    obtain ⟨q', hq', hd⟩ := drop_cons (xs := ps) (i := j) hjl
    obtain rfl : q = q' := by rw [hq] at hq'; injection hq'
    obtain ⟨v, hv, hdv⟩ := drop_cons (xs := vs) (i := j + 1) (by omega)
    rw [hd, hdv, innerB, if_neg (by omega)] at h
    rw [sumT_cons hd, sumT_zero, Int.add_zero, vAt_of hv]
    split at h
    · cases h
    · omega
  | succ m ih =>
    intro k j q t hj hq hlt h
    have hjl := (List.getElem?_eq_some_iff.1 hq).1
    obtain ⟨q', hq', hd⟩ := drop_cons (xs := ps) (i := k) (by omega)
    have hlt' : q'.a < q.a := by
      have := (List.pairwise_iff_getElem.1 hs) k j (by omega) hjl (by omega)
      rw [(List.getElem?_eq_some_iff.1 hq').2, (List.getElem?_eq_some_iff.1 hq).2] at this
      exact this
    obtain ⟨v, hv, hdv⟩ := drop_cons (xs := vs) (i := k + 1) (by omega)
    rw [hd, hdv, innerB, if_neg (by omega)] at h
    split at h
    · cases h
    · have h3 := ih (k + 1) j q (t + q'.b) (by omega) hq hlt h
      rw [sumT_cons hd, ← Int.add_assoc]; exact h3
theorem bound_bnd {ps : List P2} {L : Int} {ls : List P2} {vs : List Int} (hs : ps.Pairwise (fun a b => a.a < b.a)) (h : boundB ps L ls vs = true) : BndV L ls ps (vAt vs) := by
  unfold boundB at h
  split at h
  · cases h
  · split at h
    · cases h
    · rename_i hl
      split at h
      · cases h
      · rename_i ha
        have hl' : vs.length = ps.length + 1 := by simpa using hl
        rw [Bool.not_eq_false, List.all_eq_true] at ha
        refine ⟨?_, fun i hi => ?_, fun i j p q hij hp hq hlt => ?_⟩
        · obtain ⟨v, hv, _⟩ := drop_cons (xs := vs) (i := ps.length) (by omega)
          rw [vAt_of hv]
          exact ((vOk_iff v).1 (ha v (List.mem_of_getElem? hv))).1
        · obtain ⟨p, hp, _⟩ := drop_cons (xs := ps) (i := i) hi
          exact (outer_parts ps vs hl' h i p hp).1
        · have h2 := (outer_parts ps vs hl' h i p hp).2
          have := inner_span hs hl' (j - i) i j q 0 (by omega) hq hlt h2
          rwa [Int.zero_add] at this
/-- No valid windows recover more than an accepted choice. -/
theorem ver_sound {los : List Los} {am : List Int} {n : Int} {ls : List P2} {tot : Int} {bs : List Bd} {xs : List Win} (h : chkE los am = 0) (hr : recErr 0 ls = 0) (hx : winsE xs n = 0) (hv : verF los am n ls tot bs = 0) : sumI (evR los am xs n ls) ≤ tot := by
  unfold verF at hv
  split at hv
  · omega
  · rename_i hl
    split at hv
    · omega
    · rename_i ha
      split at hv
      · rename_i he
        have hl' : bs.length = (perilsF los).length := by simpa using hl
        rw [Bool.not_eq_false, List.all_eq_true] at ha
        have hok : ∀ (i : Nat) (p : Int) (b : Bd), (perilsF los)[i]? = some p → bs[i]? = some b → okB los am n ls (p, b) = true := fun i p b hp hb => ha (p, b) (List.mem_of_getElem? (by rw [List.getElem?_zip_eq_some]; exact ⟨hp, hb⟩))
        have hnd := perils_nodup los
        let V : Int → Nat → Int := fun p j => vAt (((bs.find? fun b => decide (b.p = p)).map Bd.vs).getD []) j
        have hfind : ∀ (i : Nat) (p : Int) (b : Bd), (perilsF los)[i]? = some p → bs[i]? = some b → bs.find? (fun b => decide (b.p = p)) = some b := fun i p b hp hb => by
          have hbp := (hdV_range (hok i p b hp hb)).1
          have hil := (List.getElem?_eq_some_iff.1 hb).1
          have e : bs = bs.take i ++ (b :: bs.drop (i + 1)) := by
            obtain ⟨b', hb', hd⟩ := drop_cons (xs := bs) (i := i) hil
            obtain rfl : b = b' := by rw [hb] at hb'; injection hb'
            rw [← hd, List.take_append_drop]
          rw [e, List.find?_append, List.find?_eq_none.2, Option.none_or, List.find?_cons_of_pos (by simpa using hbp)]
          intro c hc hcp
          obtain ⟨k, hk, rfl⟩ := List.mem_iff_getElem.1 hc
          rw [List.length_take] at hk
          rw [List.getElem_take] at hcp
          have hkl : k < (perilsF los).length := by omega
          have hkp := (hdV_range (hok k _ _ (List.getElem?_eq_getElem hkl) (List.getElem?_eq_getElem (by omega)))).1
          have h1 : bs[k].p = p := by simpa using hcp
          have h2 : (perilsF los)[k] = (perilsF los)[i] := by rw [← hkp, h1, (List.getElem?_eq_some_iff.1 hp).2]
          have h3 := (List.pairwise_iff_getElem.1 hnd) k i hkl (by omega) (by omega)
          exact h3 h2
        have hB := eval_bound (V := V) h hr hx (fun p hp => by
          obtain ⟨i, hi, rfl⟩ := List.mem_iff_getElem.1 hp
          have hp' := List.getElem?_eq_getElem hi
          have hb' := List.getElem?_eq_getElem (show i < bs.length by omega)
          have hf := hfind i _ _ hp' hb'
          have e : V (perilsF los)[i] = vAt bs[i].vs := by funext j; simp only [V]; rw [hf]; rfl
          rw [e]
          exact bound_bnd (ptsF_fine h _).2.1 (hdV_range (hok i _ _ hp' hb')).2.1)
        have hS : sumI ((perilsF los).map fun p => V p 0) = sumI (bs.map hdV) := by
          congr 1
          refine List.ext_getElem (by rw [List.length_map, List.length_map, hl']) fun i h1 h2 => ?_
          rw [List.length_map] at h1
          rw [List.getElem_map, List.getElem_map]
          have hf := hfind i _ _ (List.getElem?_eq_getElem h1) (List.getElem?_eq_getElem (show i < bs.length by omega))
          simp only [V]
          rw [hf]
          show vAt bs[i].vs 0 = hdI bs[i].vs
          rw [← hdI_at]; rfl
        rw [hS, he] at hB
        exact hB
      · omega

end Go.Proofs.YtilkcailpkebdaaGreat

/-
  '& (2^k - 1)' and '>> k' on ints: remainders and quotients. To be laid ahead of a walk.
-/
namespace Go.Proofs.YtilkcailpkebdaaGreat
open Go.RowKit
set_option linter.unusedVariables false

theorem bits_mask (k : Nat) (m : Int) (hk : k ≤ 32) (hm : (BitVec.ofInt 64 m).toNat = 2 ^ k - 1) (n : Int) : bits .and .i64 n m = n % ((2 ^ k : Nat) : Int) := by
  have key : (BitVec.ofInt 64 n &&& BitVec.ofInt 64 m).toNat = (n % ((2 ^ 64 : Nat) : Int)).toNat % 2 ^ k := by
    rw [BitVec.toNat_and, BitVec.toNat_ofInt, hm, Nat.and_two_pow_sub_one_eq_mod]
  show IntKind.i64.wrap ((BitVec.ofInt 64 n &&& BitVec.ofInt 64 m).toNat : Nat) = _
  have hlt : (n % ((2 ^ 64 : Nat) : Int)).toNat % 2 ^ k < 2 ^ k := Nat.mod_lt _ (Nat.two_pow_pos k)
  have hle : (2 : Nat) ^ k ≤ 2 ^ 32 := Nat.pow_le_pow_right (by omega) hk
  have h1 : (((n % ((2 ^ 64 : Nat) : Int)).toNat % 2 ^ k : Nat) : Int) = n % ((2 ^ k : Nat) : Int) := by
    rw [Int.natCast_emod, Int.toNat_of_nonneg (Int.emod_nonneg _ (by decide))]
    exact Int.emod_emod_of_dvd n (by exact_mod_cast Nat.pow_dvd_pow 2 (by omega))
  rw [key]
  have h2 : 0 ≤ n % ((2 ^ k : Nat) : Int) := by rw [← h1]; exact Int.natCast_nonneg _
  rw [h1]
  rw [IntKind.wrap_i64]
  omega
section
variable {P : Program} (t : TypeId)
theorem run_and (m : Int) (x : Int) (w : World) : (binOp .and t (.int .i64 x) (.int .i64 m)).run P w = .ok (.int .i64 (bits .and .i64 x m)) w := by
  rw [binOp_and]; rfl
theorem run_and1 (x : Int) (w : World) : (binOp .and t (.int .i64 x) (.int .i64 1)).run P w = .ok (.int .i64 (x % 2)) w := by
  rw [run_and, bits_mask 1 1 (by omega) (by decide)]; rfl
theorem run_and3 (x : Int) (w : World) : (binOp .and t (.int .i64 x) (.int .i64 3)).run P w = .ok (.int .i64 (x % 4)) w := by
  rw [run_and, bits_mask 2 3 (by omega) (by decide)]; rfl
theorem run_and7 (x : Int) (w : World) : (binOp .and t (.int .i64 x) (.int .i64 7)).run P w = .ok (.int .i64 (x % 8)) w := by
  rw [run_and, bits_mask 3 7 (by omega) (by decide)]; rfl
theorem run_and15 (x : Int) (w : World) : (binOp .and t (.int .i64 x) (.int .i64 15)).run P w = .ok (.int .i64 (x % 16)) w := by
  rw [run_and, bits_mask 4 15 (by omega) (by decide)]; rfl
theorem run_and31 (x : Int) (w : World) : (binOp .and t (.int .i64 x) (.int .i64 31)).run P w = .ok (.int .i64 (x % 32)) w := by
  rw [run_and, bits_mask 5 31 (by omega) (by decide)]; rfl
theorem run_shr (n : Nat) (hn : n ≤ 63) (x : Int) (w : World) : (binOp .shr t (.int .i64 x) (.int .u64 n)).run P w = .ok (.int .i64 (x / 2 ^ n)) w := by
  rw [binOp_shr, shift_shr .i64 .u64 x (n : Int) (by omega) (by show (n : Int) ≤ 64; omega)]; rfl
theorem run_shr1 (x : Int) (w : World) : (binOp .shr t (.int .i64 x) (.int .u64 1)).run P w = .ok (.int .i64 (x / 2)) w := run_shr t 1 (by omega) x w
theorem run_shr2 (x : Int) (w : World) : (binOp .shr t (.int .i64 x) (.int .u64 2)).run P w = .ok (.int .i64 (x / 4)) w := run_shr t 2 (by omega) x w
theorem run_shr3 (x : Int) (w : World) : (binOp .shr t (.int .i64 x) (.int .u64 3)).run P w = .ok (.int .i64 (x / 8)) w := run_shr t 3 (by omega) x w
theorem run_shr4 (x : Int) (w : World) : (binOp .shr t (.int .i64 x) (.int .u64 4)).run P w = .ok (.int .i64 (x / 16)) w := run_shr t 4 (by omega) x w
theorem run_shr5 (x : Int) (w : World) : (binOp .shr t (.int .i64 x) (.int .u64 5)).run P w = .ok (.int .i64 (x / 32)) w := run_shr t 5 (by omega) x w
end
end Go.Proofs.YtilkcailpkebdaaGreat

/-
  Copies of bounds in memory: each row of values is one of its own.
-/
namespace Go.Proofs.YtilkcailpkebdaaGreat
open Go.RowKit
set_option linter.unusedVariables false

theorem step_append_srcG {α : Type} (enc : α → List Value) {P : Program} {w : World} {ops : Array Oper} {o : Oper} {a : Act} {K : Act → World → Prop} {Q : Exit → Act → World → Prop} {E : Prop} (hgd : o.guard = none) (s x : Operand) (t : TypeId)
    (ho : o.op = .call { callee := .builtin .append, args := #[s, x], argTypes := #[t, t] })
    (base : Nat) (e : TypeId) (i : TypeInfo) (z : Value) (size bytes : Nat) (ht : P.underlying t = some (.slice e)) (hi : P.info? e = some i) (hz : i.zero = some z)
    (hsize : i.size = size) (hby : i.bytes = bytes) (hzs : z.cells.size = size) (hsz : 0 < size) (hb80 : bytes ≤ 80)
    (hk : ∀ y, (enc y).length = size) (h1 : ∀ y, ∀ u ∈ enc y, u.oneCell' = true)
    (v : Value) (n : Nat) (xs : List Value) (hs : a.eval s = v) (hown : w.ownsRow base e size v n xs)
    (X : Option Addr) (m c : Nat) (ys : List α) (hm : m = ys.length) (hx : a.eval x = .slice X m c) (hsrc : SrcG enc w X ys)
    (h63 : n + m ≤ 100000) (hbase : base ≤ w.heap.size)
    (h : ∀ v' w', w'.ownsRow base e size v' (n + m) (xs ++ ys.flatMap enc) → w.grownBy w' v.ownBlock → K (a.put o.dst v') w') :
    if Region.wanted o (yielded ops a.tmps) = true then Oper.wp P o a w K Q else E := by
  have hw : Region.wanted o (yielded ops a.tmps) = true := by simp [Region.wanted, hgd]
  rw [if_pos hw]
  rcases hsrc with ⟨rfl, rfl⟩ | ⟨ad, rfl, hc⟩
  · rw [List.length_nil] at hm
    subst hm
    have hrun := run_append_none_c (P := P) (w := w) base t o.type e i size c ht hi v n xs hown
    unfold Oper.wp
    simp [execOp, ho, resolve, invoke, builtin, hs, hx, hrun, Result.andThen]
    exact h v w (by simpa using hown) (World.grownBy.refl w _)
  · subst hm
    exact wp_append_own w s x t ho base e i z size bytes ht hi hz hsize hby hzs hsz v n xs hs hown ad ys.length c (ys.flatMap enc) hx (flat_len enc size hk ys) hc (fun u hu => by obtain ⟨y, _, hy⟩ := List.mem_flatMap.1 hu; exact h1 y u hy) (by unfold maxLen; omega) (by have := Nat.mul_le_mul h63 hb80; omega) hbase fun v' w' h2 h3 _ => h v' w' h2 h3
theorem wp_thenS {P : Program} {s : Code} {Q : Exit → Act → World → Prop} {a : Act} {w : World} (h : ∀ (K : Act → World → Prop), (∀ a' w', Q .normal a' w' → K a' w') → s.wp P (Exit.then K Q) a w) : s.wp P Q a w := by
  refine wp_mono (h (Q .normal) (fun _ _ q => q)) ?_
  intro e a' w' hq
  cases e <;> exact hq

/-- A copy of bounds: each row of values is one of its own, and no two are one. -/
structure Cpy (lo : Nat) (w : World) (os : List Bd) : Prop where
  own : ∀ b ∈ os, ∃ base, lo ≤ base ∧ w.ownsRow base 3 1 (.slice b.G b.vs.length b.c) b.vs.length (b.vs.flatMap V1)
  pos : ∀ b ∈ os, 0 < b.vs.length ∧ b.vs.length ≤ 1000
  apart : os.Pairwise (fun a b => ∀ x y, a.G = some x → b.G = some y → x.block ≠ y.block)
theorem Cpy.nil (lo : Nat) (w : World) : Cpy lo w [] := ⟨by simp, by simp, List.Pairwise.nil⟩
theorem own_cells1 {w : World} {base c n : Nat} {G : Option Addr} {xs : List Value} (h : w.ownsRow base 3 1 (.slice G n c) n xs) (h0 : 0 < n) : ∃ g cur, G = some ⟨g, 0, none⟩ ∧ base ≤ g ∧ w.heap[g]? = some (.cells cur 3 (0, 0)) := by
  rcases h.2 with ⟨_, hn⟩ | ⟨g, cap, cur, hv, hg, hh, _⟩
  · omega
  · injection hv with a1 a2 a3
    exact ⟨g, cur, a1, hg, hh⟩
theorem Cpy.below {lo : Nat} {w w' : World} {os : List Bd} (h : Cpy lo w os) (hb : Below w.heap.size w w') : Cpy lo w' os := ⟨fun b hm => by obtain ⟨base, hlo, ho⟩ := h.own b hm; exact ⟨base, hlo, own_below ho hb⟩, h.pos, h.apart⟩
theorem Cpy.grown {lo : Nat} {w w' : World} {os : List Bd} (h : Cpy lo w os) {base n : Nat} {v : Value} {xs : List Value} (ho : w.ownsRow base 84 2 v n xs) (hg : w.grownBy w' v.ownBlock) : Cpy lo w' os := ⟨fun b hm => by obtain ⟨bb, hlo, hb⟩ := h.own b hm; exact ⟨bb, hlo, hb.kept hg (own_apart hb ho (by decide))⟩, h.pos, h.apart⟩
theorem Cpy.vs {lo : Nat} {w : World} {os : List Bd} (h : Cpy lo w os) : VsAt w os := fun b hm => by
  obtain ⟨base, _, ho⟩ := h.own b hm
  obtain ⟨g, cur, e, _, hh⟩ := own_cells1 ho (h.pos b hm).1
  refine ⟨(ints_of_own ho).low (Nat.zero_le _), fun a ha => ?_⟩
  rw [e] at ha
  injection ha with ha
  subst ha
  exact ⟨cur, _, hh⟩
theorem Cpy.snoc {lo : Nat} {w w0 : World} {os : List Bd} (h : Cpy lo w os) (h0 : Cpy lo w0 os) (hlo : lo ≤ w0.heap.size) {b : Bd} (hb : w.ownsRow w0.heap.size 3 1 (.slice b.G b.vs.length b.c) b.vs.length (b.vs.flatMap V1)) (hp : 0 < b.vs.length ∧ b.vs.length ≤ 1000) : Cpy lo w (os ++ [b]) := by
  refine ⟨fun x hx => ?_, fun x hx => ?_, List.pairwise_append.2 ⟨h.apart, by simp, fun a ha c hc x y hx hy e => ?_⟩⟩
  · rcases List.mem_append.1 hx with hx | hx
    · exact h.own x hx
    · obtain rfl : x = b := by simpa using hx
      exact ⟨_, hlo, hb⟩
  · rcases List.mem_append.1 hx with hx | hx
    · exact h.pos x hx
    · obtain rfl : x = b := by simpa using hx
      exact hp
  · obtain rfl : c = b := by simpa using hc
    obtain ⟨base, _, ho⟩ := h0.own a ha
    obtain ⟨g, cur, e1, _, hh⟩ := own_cells1 ho (h0.pos a ha).1
    obtain ⟨g', cur', e2, hge, _⟩ := own_cells1 hb hp.1
    have hlt := lt_of_heap hh
    rw [e1] at hx; rw [e2] at hy
    injection hx with hx; injection hy with hy
    subst hx; subst hy
    dsimp only at e
    omega
theorem Cpy.set {lo : Nat} {w : World} {os : List Bd} (h : Cpy lo w os) {i J : Nat} {b : Bd} {v : Int} {g : Nat} (hb : os[i]? = some b) (hG : b.G = some ⟨g, 0, none⟩) (hJ : J < b.vs.length) : Cpy lo (w.setCell ⟨g, J, none⟩ (.int .i64 v)) (os.set i ⟨b.p, b.G, b.c, b.vs.set J v⟩) := by
  have hg : w.grownBy (w.setCell ⟨g, J, none⟩ (.int .i64 v)) (some g) := only_setCell (only_refl _ _) (.inl rfl) _
  have hil := (List.getElem?_eq_some_iff.1 hb).1
  have hbi := (List.getElem?_eq_some_iff.1 hb).2
  refine ⟨fun x hx => ?_, fun x hx => ?_, ?_⟩
  · obtain ⟨k, hk, rfl⟩ := List.mem_iff_getElem.1 hx
    rw [List.length_set] at hk
    by_cases e : k = i
    · subst e
      rw [List.getElem_set_self]
      obtain ⟨base, hlo, ho⟩ := h.own b (List.mem_of_getElem? hb)
      refine ⟨base, hlo, ?_⟩
      dsimp only
      rw [List.length_set]
      rw [hG] at ho ⊢
      have h1 := (ho.stored J (.int .i64 v)).1
      have e1 := flat_set1 V1 1 (fun _ => rfl) 0 (by omega) (.int .i64 v) v J b.vs b.vs[J] (List.getElem?_eq_getElem hJ) rfl
      rw [Nat.mul_one, Nat.add_zero] at e1
      rw [e1] at h1
      exact h1
    · rw [List.getElem_set_ne (fun h => e h.symm)]
      obtain ⟨base, hlo, ho⟩ := h.own os[k] (List.getElem_mem hk)
      refine ⟨base, hlo, ho.kept hg (.inr fun hE => ?_)⟩
      obtain ⟨g', cur, e1, _, _⟩ := own_cells1 ho (h.pos os[k] (List.getElem_mem hk)).1
      rw [e1] at hE
      simp [Value.ownBlock] at hE
      subst hE
      rcases Nat.lt_or_ge k i with hlt | hge
      · have := (List.pairwise_iff_getElem.1 h.apart) k i hk hil hlt _ _ e1 (by rw [hbi]; exact hG)
        exact this rfl
      · have := (List.pairwise_iff_getElem.1 h.apart) i k hil hk (by omega) _ _ (by rw [hbi]; exact hG) e1
        exact this rfl
  · obtain ⟨k, hk, rfl⟩ := List.mem_iff_getElem.1 hx
    rw [List.length_set] at hk
    by_cases e : k = i
    · subst e
      rw [List.getElem_set_self]
      dsimp only
      rw [List.length_set]
      exact h.pos b (List.mem_of_getElem? hb)
    · rw [List.getElem_set_ne (fun h => e h.symm)]
      exact h.pos os[k] (List.getElem_mem hk)
  · refine List.pairwise_iff_getElem.2 fun k l hk hl hkl x y hx hy => ?_
    rw [List.length_set] at hk hl
    have gk : (os.set i ⟨b.p, b.G, b.c, b.vs.set J v⟩)[k].G = os[k].G := by
      by_cases e : k = i
      · subst e; rw [List.getElem_set_self, hbi]
      · rw [List.getElem_set_ne (fun h => e h.symm)]
    have gl : (os.set i ⟨b.p, b.G, b.c, b.vs.set J v⟩)[l].G = os[l].G := by
      by_cases e : l = i
      · subst e; rw [List.getElem_set_self, hbi]
      · rw [List.getElem_set_ne (fun h => e h.symm)]
    rw [gk] at hx; rw [gl] at hy
    exact (List.pairwise_iff_getElem.1 h.apart) k l hk hl hkl x y hx hy
theorem bnds_take {w : World} {A : Option Addr} {bs : List Bd} (h : Bnds w A bs) (k : Nat) : Bnds w A (bs.take k) := by
  refine ⟨fun hp => ?_, fun b hb => h.2 b (List.mem_of_mem_take hb)⟩
  have h0 : 0 < (bs.map Bd.cells).length := by
    rw [List.length_map, List.length_take] at hp
    rw [List.length_map]; omega
  obtain ⟨b, off, e, h1, h2, hc⟩ := h.1 h0
  refine ⟨b, off, e, h1, h2, fun i x hx j u hu => hc i x ?_ j u hu⟩
  rw [List.map_take, List.getElem?_take] at hx
  split at hx
  · exact hx
  · cases hx
theorem own_e1I (w : World) : ((w.alloc (.cells #[] 3)).drew).ownsRow w.heap.size 3 1 (.slice (some ⟨w.heap.size, 0, none⟩) 0 0) 0 [] :=
  ⟨by simp, .inr ⟨w.heap.size, 0, #[], rfl, Nat.le_refl _, heap_alloc_new w _, Nat.le_refl _, Nat.zero_le _, by simp, by simp⟩⟩
theorem srcG_bd {W : World} {g : Nat} {x : Bd} {t : TypeId} {fr : Nat × Nat} (h : W.heap[g]? = some (.cells #[.int .i64 x.p, .slice x.G x.vs.length x.c] t fr)) : SrcG Bd.cells W (some ⟨g, 0, none⟩) [x] := .inr ⟨_, rfl, fun j u hu => by
  rw [addr_at0]
  simp only [World.cell?, h]
  simpa [Bd.cells] using hu⟩
def SpR (w wz : World) (n : Nat) (s7 : Value) : Prop := ∃ (os : List Bd) (V : Option Addr) (vc : Nat), s7 = .slice V n vc ∧ os.length = n ∧ wz.ownsRow w.heap.size 84 2 (.slice V n vc) n (os.flatMap Bd.cells) ∧ Cpy w.heap.size wz os ∧ Below w.heap.size w wz

end Go.Proofs.YtilkcailpkebdaaGreat

/-
  treatylaw27.spoilt: its contract: some bounds, whatever they say.
-/
namespace Go.Proofs.YtilkcailpkebdaaGreat
open Go.RowKit
set_option linter.unusedVariables false

theorem set_same {α : Type} {xs : List α} {i : Nat} {v : α} (h : xs[i]? = some v) : xs.set i v = xs := by
  apply List.ext_getElem?
  intro j
  rw [List.getElem?_set]
  have hl := (List.getElem?_eq_some_iff.1 h).1
  by_cases e : i = j
  · subst e; rw [if_pos rfl, if_pos hl, h]
  · rw [if_neg e]

set_option maxRecDepth 100000 in
set_option maxHeartbeats 20000000 in
theorem spoilt_any (B : Option Addr) (bc : Nat) (bs : List Bd) (at_ n : Int) (w : World) (hB : Bnds w B bs) (hl : bs.length ≤ 100) (hv : ∀ b ∈ bs, 0 < b.vs.length ∧ b.vs.length ≤ 1000) :
    Calls Tryz.prog 20 #[.slice B bs.length bc, .int .i64 at_, .int .i64 n] w fun e w' => ∃ (B' : Option Addr) (bc' : Nat) (bs' : List Bd), e = .returned (.slice B' bs'.length bc') ∧ Bnds w' B' bs' ∧ bs'.length ≤ 100 ∧ (∀ b ∈ bs', b.vs.length ≤ 1000) ∧ Below w.heap.size w w' := by
  have HB := Lib.hid hB
  have HV := Lib.hid hv
  obtain ⟨nb, hnb⟩ : ∃ k, k = bs.length := ⟨_, rfl⟩
  rw [← hnb] at hl ⊢
  have HNB := Lib.hid hnb
  clear hnb hB hv
  obtain ⟨i0, hi0, hz0, hz1, hz2⟩ := info_parts Tryz.infoBounds
  obtain ⟨j0, hj0, jz0, jz1, jz2⟩ := info_parts Tryz.infoInt
  go_enter Tryz.func20, Tryz.ntmps20
  go_wp2_with fail
  go_loopw [7, 9, 13] (fun s7 _ ii wr => ∃ k : Nat, k ≤ nb ∧ ii = .int .i64 k ∧ SpR w wr k s7) (fun _ _ ii _ => nb - (intOf ii).toNat)
  case atStart => exact ⟨0, Nat.zero_le _, rfl, [], none, 0, rfl, rfl, own_nil _ _ _ _, Cpy.nil _ _, Below.refl _ _⟩
  case round =>
    obtain ⟨k, hk, rfl, os, V, vc, rfl, hol, hown, hcp, hbr⟩ := hrel
    have HOL := Lib.hid hol
    have HCP := Lib.hid hcp
    clear hol hcp
    obtain ⟨wo, hwo⟩ : ∃ wo : World, wo = wr := ⟨_, rfl⟩
    rw [← hwo] at hbr hown HCP ⊢
    clear hwo
    by_cases hkn : k < nb
    case pos =>
      obtain ⟨b, hbk, _⟩ := drop_cons (xs := bs) (i := k) (by rw [← HNB.out]; exact hkn)
      have hvb := HV.out b (List.mem_of_getElem? hbk)
      obtain ⟨g, go, rfl, _, c0, c1, hI⟩ := (HB.out.below hbr).at_ hbk
      obtain ⟨p, hp⟩ : ∃ x, x = b.p := ⟨_, rfl⟩
      obtain ⟨XG, hXG⟩ : ∃ x, x = b.G := ⟨_, rfl⟩
      obtain ⟨xc, hxc⟩ : ∃ x, x = b.c := ⟨_, rfl⟩
      obtain ⟨vs, hvs⟩ : ∃ x, x = b.vs := ⟨_, rfl⟩
      rw [← hvs, ← hXG] at hI
      rw [← hvs, ← hXG, ← hxc] at c1
      rw [← hvs] at hvb
      rw [← hp] at c0
      obtain ⟨lv, hlv⟩ : ∃ x, x = vs.length := ⟨_, rfl⟩
      rw [← hlv] at c1 hvb
      have HLV := Lib.hid hlv
      clear hbk hp hXG hxc hvs hlv
      obtain ⟨wb, hwb⟩ : ∃ x : World, x = wo.alloc (.cells #[.int .i64 p, .slice XG lv xc] 84) := ⟨_, rfl⟩
      obtain ⟨bx, hbx⟩ : ∃ x, x = wo.heap.size := ⟨_, rfl⟩
      have hbb : Below wo.heap.size wo wb := by rw [hwb]; exact below_alloc1 _ _
      have hbox : wb.heap[bx]? = some (.cells #[.int .i64 p, .slice XG lv xc] 84 (0, 0)) := by rw [hwb, hbx]; exact heap_alloc_new _ _
      have hbxl := lt_of_heap0 hbox
      have z0 : wb.cell? ⟨bx, 0, none⟩ = some (.int .i64 p) := by simp [World.cell?, hbox]
      have z1 : wb.cell? ⟨bx, 1, none⟩ = some (.slice XG lv xc) := by simp [World.cell?, hbox]
      have hownb := own_below hown hbb
      have HCB := Lib.hid (HCP.out.below hbb)
      have hbwb := hbr.trans (hbb.mono hbr.size)
      have HS : Hid (∀ W, Below wb.heap.size wb W → SrcG V1 W XG vs) := fun W h => srcG_of_sl (k := 1) (fun _ => rfl) (by omega) (Ints.below (Ints.below hI hbb) h)
      have hws := hbwb.size
      have HSB : Hid (∀ (w1 : World) (V1' : Option Addr) (c1' : Nat), SrcG Bd.cells (w1.alloc (.cells #[.int .i64 p, .slice V1' lv c1'] 84)) (some ⟨w1.heap.size, 0, none⟩) [⟨p, V1', c1', vs⟩]) := fun w1 V1' c1' => srcG_bd (x := ⟨p, V1', c1', vs⟩) (t := 84) (fr := (0, 0)) ((heap_alloc_new w1 _).trans (by dsimp only; rw [← HLV.out]))
      have hkn' : (k : Int) < (nb : Int) := by omega
      clear hI hown HCP hbr
      go_upto_region 5 with fail
      rw [← hwb, ← hbx]
      clear hwb hbx hbb
      refine wp_thenS fun KK hKK => ?_
      go_cut [7] (fun s7 wz => SpR w wz (k + 1) s7)
      case first =>
        as_aux_lemma =>
          (try clear HB); (try clear HV); (try clear HNB)
          go_region_law (first
            | (refine step_append_srcG V1 rfl (.tmp 20) (.tmp 22) 23 rfl wb.heap.size 3 j0 _ 1 8 Tryz.underlying23 hj0 jz0 jz1 jz2 rfl (by decide) (by decide) (fun _ => rfl) int_one (.slice (some ⟨wb.heap.size, 0, none⟩) 0 0) 0 [] (by first | rfl | (simp [Act.eval]; done)) (own_e1I _) XG lv xc vs HLV.out (by first | rfl | (simp [Act.eval]; done)) (HS.out _ (by repeat (first | exact Below.refl _ _ | refine Below.drew ?_ | refine Below.alloc ?_ (by simp) _))) (by omega) (by first | (simp; done) | (simp; omega)) ?_; intro v1 w1 hown1 hg1; have hb1 : Below wb.heap.size wb w1 := (((Below.refl _ _).alloc (Nat.le_refl _) _).drew).grown hg1 (by simp [World.drew]) (fun g hg => own_low (own_e1I wb) g hg); have hbox1 : w1.heap[bx]? = some (.cells #[.int .i64 p, .slice XG lv xc] 84 (0, 0)) := (hb1.block bx hbxl).trans hbox; have z0 : w1.cell? ⟨bx, 0, none⟩ = some (.int .i64 p) := (by simp [World.cell?, hbox1]); obtain ⟨V1', c1', rfl, _⟩ := own_shape hown1; simp only [Nat.zero_add, List.nil_append] at hown1 ⊢)
            | (refine step_append_srcG Bd.cells rfl (.tmp 17) (.tmp 25) 40 rfl w.heap.size 84 i0 _ 2 32 Tryz.underlying40 hi0 hz0 hz1 hz2 rfl (by decide) (by decide) (fun _ => rfl) bd_one (.slice V k vc) k _ (by first | rfl | (simp [Act.eval]; done)) (own_below (own_below hownb hb1) ((Below.refl _ _).alloc (Nat.le_refl _) _)) (some ⟨w1.heap.size, 0, none⟩) 1 1 [⟨p, V1', c1', vs⟩] rfl (by first | rfl | (simp [Act.eval]; done)) (HSB.out w1 V1' c1') (by omega) (by have := hb1.size; simp; omega) ?_; intro v2 w2 hown2 hg2; obtain ⟨V2', c2', rfl, _⟩ := own_shape hown2))
          all_goals (try go_wp2_with fail)
          all_goals go_meet
          all_goals
            have hba : Below w1.heap.size w1 (w1.alloc (.cells #[.int .i64 p, .slice V1' lv c1'] 84)) := below_alloc1 _ _
            have hC1 : Cpy w.heap.size (w1.alloc (.cells #[.int .i64 p, .slice V1' lv c1'] 84)) (os ++ [⟨p, V1', c1', vs⟩]) := ((HCB.out.below hb1).below hba).snoc HCB.out hws (b := ⟨p, V1', c1', vs⟩) (by show World.ownsRow _ _ _ _ (.slice V1' vs.length c1') vs.length _; rw [← HLV.out]; exact own_below hown1 hba) (by dsimp only; rw [← HLV.out]; exact hvb)
            have hO1 := own_below (own_below hownb hb1) hba
            have hC2 := hC1.grown hO1 hg2
            have hbw1 := hbwb.trans (hb1.mono hbwb.size)
            have hbwa := hbw1.trans (hba.mono hbw1.size)
            exact ⟨os ++ [⟨p, V1', c1', vs⟩], V2', c2', rfl, by rw [List.length_append, HOL.out]; rfl, by rw [List.flatMap_append]; exact hown2, hC2, hbwa.grown hg2 hbwa.size (fun g hg => own_low hO1 g hg)⟩
      case rest =>
        refine hKK _ _ ?_
        have HC := Lib.hid hcut
        clear hcut
        go_wp2_with fail
        go_roundw
        case rel => exact ⟨k + 1, by omega, by go_num, HC.out⟩
        case measure => simp [intOf]; omega
    obtain rfl : k = nb := by omega
    by_cases h0 : k = 0
    · have q : ((k : Int) == 0) = true := by simp; omega
      have q' : (k == 0) = true := by simpa using h0
      have HR : Hid (Bnds (wo.alloc (.cells #[.int .i64 n, .slice none 0 0] 84)) (some ⟨wo.heap.size, 0, none⟩) [⟨n, none, 0, []⟩]) := by
        refine ⟨fun _ => ⟨wo.heap.size, 0, rfl, Nat.zero_le _, by simp, fun i x hx j u hu => ?_⟩, fun b hb => ?_⟩
        · match i, hx with
          | 0, hx =>
            simp only [List.map_cons, List.getElem?_cons_zero, Option.some.injEq] at hx
            subst hx
            have hh := heap_alloc_new wo (.cells #[.int .i64 n, .slice none 0 0] 84)
            simp only [World.cell?, hh]
            simpa [Bd.cells] using hu
          | i + 1, hx => simp at hx
        · obtain rfl : b = _ := by simpa using hb
          exact ⟨Sl.none_, fun a ha => by cases ha⟩
      go_wp2_with fail
      go_ret
      exact ⟨some ⟨wo.heap.size, 0, none⟩, 1, [⟨n, none, 0, []⟩], rfl, HR.out, by simp, by simp, hbr.alloc hbr.size _⟩
    have q : ((k : Int) == 0) = false := by simp; omega
    have q' : (k == 0) = false := by simpa using h0
    obtain ⟨K1, hK1⟩ := Int.eq_ofNat_of_zero_le (show 0 ≤ (at_ / 4) % 8 from Int.emod_nonneg _ (by omega))
    have hs1 : bits .and .i64 (at_ / 4) 7 = (K1 : Int) := by rw [bits_mask 3 7 (by omega) (by decide)]; exact hK1
    obtain ⟨K2, hK2⟩ := Int.eq_ofNat_of_zero_le (show 0 ≤ (at_ / 32) % 16 from Int.emod_nonneg _ (by omega))
    have hs2 : bits .and .i64 (at_ / 32) 15 = (K2 : Int) := by rw [bits_mask 4 15 (by omega) (by decide)]; exact hK2
    obtain ⟨K3, hK3⟩ := Int.eq_ofNat_of_zero_le (show 0 ≤ n % 16 from Int.emod_nonneg _ (by omega))
    have hs3 : bits .and .i64 n 15 = (K3 : Int) := by rw [bits_mask 4 15 (by omega) (by decide)]; exact hK3
    obtain ⟨S, hS⟩ := Int.eq_ofNat_of_zero_le (show 0 ≤ at_ % 4 from Int.emod_nonneg _ (by omega))
    have hs4 : bits .and .i64 at_ 3 = (S : Int) := by rw [bits_mask 2 3 (by omega) (by decide)]; exact hS
    obtain ⟨J, hJ, hJn⟩ : ∃ J : Nat, (K1 : Int) % (k : Int) = (J : Int) ∧ J < k := ⟨K1 % k, by rw [Int.natCast_emod], Nat.mod_lt _ (by omega)⟩
    have hS4 : (S : Int) < 4 := by rw [← hS]; exact Int.emod_lt_of_pos _ (by omega)
    clear hK1 hK2 hK3 hS
    obtain ⟨b, hbJ, _⟩ := drop_cons (xs := os) (i := J) (by rw [HOL.out]; exact hJn)
    obtain ⟨go, vc', hv', hgo, hgol⟩ := own_row_of hown h0
    obtain ⟨rfl, rfl⟩ : V = some ⟨go, 0, none⟩ ∧ vc = vc' := by injection hv' with a1 a2 a3; exact ⟨a1, a3⟩
    have hpos := HCP.out.pos b (List.mem_of_getElem? hbJ)
    obtain ⟨base, hbase, hrow⟩ := HCP.out.own b (List.mem_of_getElem? hbJ)
    obtain ⟨gr, cur, hGr, hgr, hhr⟩ := own_cells1 hrow hpos.1
    have x0 : wo.cell? ⟨go, J * 2, none⟩ = some (.int .i64 b.p) := by
      rw [hown.cellAt (J * 2) (by omega)]
      have hf := flat_get Bd.cells 2 (fun _ => rfl) _ J _ hbJ 0 (by omega)
      rw [Nat.add_zero] at hf
      exact hf
    have x1 : wo.cell? ⟨go, J * 2 + 1, none⟩ = some (.slice b.G b.vs.length b.c) := by
      rw [hown.cellAt (J * 2 + 1) (by omega)]
      exact flat_get Bd.cells 2 (fun _ => rfl) _ J _ hbJ 1 (by omega)
    rw [hGr] at x1
    obtain ⟨lv, hlv⟩ : ∃ x, x = b.vs.length := ⟨_, rfl⟩
    rw [← hlv] at x1 hpos
    obtain ⟨bq, hbq⟩ : ∃ x, x = b.c := ⟨_, rfl⟩
    rw [← hbq] at x1
    obtain ⟨J2, hJ2, hJ2n⟩ : ∃ J2 : Nat, (K2 : Int) % (lv : Int) = (J2 : Int) ∧ J2 < lv := ⟨K2 % lv, by rw [Int.natCast_emod], Nat.mod_lt _ (by omega)⟩
    have HBN := Lib.hid (bnds_of_own hown HOL.out.symm HCP.out.vs)
    have hk100 : k ≤ 100 := hl
    have hJn' : (J : Int) < (k : Int) := by omega
    have hJ2n' : (J2 : Int) < (lv : Int) := by omega
    have hlnz : ((lv : Int) == 0) = false := by simp; omega
    have HSET : Hid (∀ (v : Int), Bnds (wo.setCell ⟨gr, J2, none⟩ (.int .i64 v)) (some ⟨go, 0, none⟩) (os.set J ⟨b.p, b.G, b.c, b.vs.set J2 v⟩)) := fun v => by
      have hC := HCP.out.set (v := v) hbJ hGr (show J2 < b.vs.length by rw [← hlv]; exact hJ2n)
      have hg : wo.grownBy (wo.setCell ⟨gr, J2, none⟩ (.int .i64 v)) (some gr) := only_setCell (only_refl _ _) (.inl rfl) _
      have ho := hown.kept hg (by
        have := own_apart hown hrow (by decide)
        rw [hGr] at this
        simpa [Value.ownBlock] using this)
      refine bnds_of_own (n := k) (c := vc) (base := w.heap.size) ?_ (by rw [List.length_set]; exact HOL.out.symm) hC.vs
      have e : (os.set J ⟨b.p, b.G, b.c, b.vs.set J2 v⟩).flatMap Bd.cells = os.flatMap Bd.cells := by
        have e1 := flat_set1 Bd.cells 2 (fun _ => rfl) 0 (by omega) (.int .i64 b.p) (⟨b.p, b.G, b.c, b.vs.set J2 v⟩ : Bd) J os b hbJ (by simp [Bd.cells])
        rw [← e1, Nat.add_zero]
        have hf := flat_get Bd.cells 2 (fun _ => rfl) _ J _ hbJ 0 (by omega)
        rw [Nat.add_zero] at hf
        exact set_same hf
      rw [e]; exact ho
    have HSETP : Hid (Bnds (wo.setCell ⟨go, J * 2, none⟩ (.int .i64 n)) (some ⟨go, 0, none⟩) (os.set J ⟨n, b.G, b.c, b.vs⟩)) := by
      have hg : wo.grownBy (wo.setCell ⟨go, J * 2, none⟩ (.int .i64 n)) (some go) := only_setCell (only_refl _ _) (.inl rfl) _
      have h1 := (hown.stored (J * 2) (.int .i64 n)).1
      have e1 := flat_set1 Bd.cells 2 (fun _ => rfl) 0 (by omega) (.int .i64 n) (⟨n, b.G, b.c, b.vs⟩ : Bd) J os b hbJ (by simp [Bd.cells])
      rw [Nat.add_zero] at e1
      rw [e1] at h1
      refine bnds_of_own h1 (by rw [List.length_set]; exact HOL.out.symm) ?_
      have hV := HCP.out.vs.grown hown hg
      intro x hx
      rcases List.mem_or_eq_of_mem_set hx with hx | rfl
      · exact hV x hx
      · exact hV b (List.mem_of_getElem? hbJ)
    rw [hGr] at hrow
    obtain ⟨ov, hov⟩ : ∃ x, b.vs[J2]? = some x := ⟨_, List.getElem?_eq_getElem (by rw [← hlv]; exact hJ2n)⟩
    have y0 : wo.cell? ⟨gr, J2, none⟩ = some (.int .i64 ov) := by
      rw [hrow.cellAt J2 (by omega)]
      have hf := flat_get V1 1 (fun _ => rfl) _ J2 _ hov 0 (by omega)
      rw [Nat.mul_one, Nat.add_zero] at hf
      exact hf
    have yf := hrow.frozenAt J2
    have xf := hown.frozenAt (J * 2)
    have hgrw : w.heap.size ≤ gr := Nat.le_trans hbase hgr
    obtain ⟨bp, hbp⟩ : ∃ x, x = b.p := ⟨_, rfl⟩
    rw [← hbp] at x0
    have HLS : Hid (∀ x : Bd, (os.set J x).length = k) := fun x => by rw [List.length_set]; exact HOL.out
    have HVL : Hid (∀ v : Int, ∀ x ∈ os.set J ⟨b.p, b.G, b.c, b.vs.set J2 v⟩, x.vs.length ≤ 1000) := fun v x hx => by
      rcases List.mem_or_eq_of_mem_set hx with hx | rfl
      · exact (HCP.out.pos x hx).2
      · dsimp only; rw [List.length_set]; exact (HCP.out.pos b (List.mem_of_getElem? hbJ)).2
    have HVP : Hid (∀ x ∈ os.set J ⟨n, b.G, b.c, b.vs⟩, x.vs.length ≤ 1000) := fun x hx => by
      rcases List.mem_or_eq_of_mem_set hx with hx | rfl
      · exact (HCP.out.pos x hx).2
      · exact (HCP.out.pos b (List.mem_of_getElem? hbJ)).2
    have HVO : Hid (∀ x ∈ os.take (k - 1), x.vs.length ≤ 1000) := fun x hx => (HCP.out.pos x (List.mem_of_mem_take hx)).2
    have HTL : Hid ((os.take (k - 1)).length = k - 1) := by show _ = _; rw [List.length_take, HOL.out]; omega
    have hcap : k ≤ vc := by
      obtain ⟨A', c', e', h'⟩ := own_shape hown
      have e3 : vc = c' := by injection e'
      omega
    have HB0 := Lib.hid hbr
    obtain ⟨k', hk'⟩ : ∃ k' : Nat, k' = k - 1 := ⟨_, rfl⟩
    have hk1 : (k : Int) - 1 = (k' : Int) := by omega
    have hwk : IntKind.i64.wrap ((k : Int) - 1) = (k' : Int) := by rw [hk1]; exact IntWalk.i64_in _ (by omega)
    have hkc : k' ≤ vc := by omega
    rw [← hk'] at HVO HTL
    clear hk' hrow hhr hov hbJ hlv hbq hbp hGr hown hv'
    have hSS : S = 0 ∨ S = 1 ∨ S = 2 ∨ S = 3 := by omega
    rcases hSS with rfl | rfl | rfl | rfl
    · have hs4' : bits .and .i64 at_ 3 = 0 := by simpa using hs4
      clear hs4 hS4
      go_wp2_with fail
      go_region
      all_goals go_wp2_with fail
      all_goals go_ret
      all_goals exact ⟨some ⟨go, 0, none⟩, vc, os.set J ⟨b.p, b.G, b.c, b.vs.set J2 n⟩, by rw [HLS.out]; rfl, HSET.out n, by rw [HLS.out]; exact hk100, HVL.out n, (HB0.out.setCell hgrw _).drew⟩
    · have hs4' : bits .and .i64 at_ 3 = 1 := by simpa using hs4
      clear hs4 hS4
      go_wp2_with fail
      go_ret
      exact ⟨some ⟨go, 0, none⟩, vc, os.set J ⟨n, b.G, b.c, b.vs⟩, by rw [HLS.out]; rfl, HSETP.out, by rw [HLS.out]; exact hk100, HVP.out, HB0.out.setCell hgo _⟩
    · have hs4' : bits .and .i64 at_ 3 = 2 := by simpa using hs4
      clear hs4 hS4
      have HBT := Lib.hid (bnds_take HBN.out k')
      go_wp2_with fail
      go_ret
      exact ⟨some ⟨go, 0, none⟩, vc, os.take k', by rw [HTL.out]; rfl, HBT.out, by rw [HTL.out]; omega, HVO.out, HB0.out⟩
    · have hs4' : bits .and .i64 at_ 3 = 3 := by simpa using hs4
      clear hs4 hS4
      go_wp2_with fail
      go_region
      all_goals go_wp2_with fail
      all_goals go_ret
      all_goals exact ⟨some ⟨go, 0, none⟩, vc, os.set J ⟨b.p, b.G, b.c, b.vs.set J2 (wrap64 (ov + (K3 : Int)))⟩, by rw [HLS.out]; rfl, HSET.out _, by rw [HLS.out]; exact hk100, HVL.out _, (HB0.out.setCell hgrw _).drew⟩

end Go.Proofs.YtilkcailpkebdaaGreat
