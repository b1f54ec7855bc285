/-
  Texts of the proof, one after the other.
-/
import Derived.Test.YtilkcailpkebdaaGreatBase9
import Derived.Test.YtilkcailpkebdaaGreatBase8
import Derived.Test.YtilkcailpkebdaaGreatBase10
import Derived.Test.YtilkcailpkebdaaGreatBase11
import Derived.RegionTactic
import Derived.BigRegion
import Derived.Deep.RegionLaw
import Derived.Deep.DeepCutAuto
import Derived.Deep.CutBlock
import Derived.Test.YtilkcailpkebdaaGreatBase3

/-
  treatyref25.Best: its contract.
-/
namespace Go.Proofs.YtilkcailpkebdaaGreat
open Go.RowKit
set_option linter.unusedVariables false

theorem wp_then {P : Program} {s : Code} {Q : Exit → Act → World → Prop} {a : Act} {w : World} (h : ∀ (K : Act → World → Prop), (∀ a' w', Q .normal a' w' → K a' w') → s.wp P (Exit.then K Q) a w) : s.wp P Q a w := by
  refine wp_mono (h (Q .normal) (fun _ _ q => q)) ?_
  intro e a' w' hq
  cases e <;> exact hq
theorem cell0 {W : World} {g : Nat} {x y z : Int} {t : TypeId} {fr : Nat × Nat} (h : W.heap[g]? = some (.cells #[.int .i64 x, .int .i64 y, .int .i64 z] t fr)) : W.cell? ⟨g, 0, none⟩ = some (.int .i64 x) := by simp [World.cell?, h]
theorem cell1 {W : World} {g : Nat} {x y z : Int} {t : TypeId} {fr : Nat × Nat} (h : W.heap[g]? = some (.cells #[.int .i64 x, .int .i64 y, .int .i64 z] t fr)) : W.cell? ⟨g, 1, none⟩ = some (.int .i64 y) := by simp [World.cell?, h]
theorem cell2 {W : World} {g : Nat} {x y z : Int} {t : TypeId} {fr : Nat × Nat} (h : W.heap[g]? = some (.cells #[.int .i64 x, .int .i64 y, .int .i64 z] t fr)) : W.cell? ⟨g, 2, none⟩ = some (.int .i64 z) := by simp [World.cell?, h]
theorem rbslice {A : Option Addr} {a b c : Nat} (h : a = b) : Value.slice A a c = .slice A b c := by rw [h]
def R17 (wc wz : World) (B : Option Addr) (d n : Nat) (ys : List Win) : Prop := n ≤ d ∧ (B = none → d = 0) ∧ Flat B ∧ d ≤ 9223372036854775807 ∧ Wins wz 0 B ys ∧ Below wc.heap.size wc wz
theorem r17_of {wb wc wz : World} {V : Option Addr} {c n m k : Nat} {e : TypeId} {x : Win} {ac ys : List Win} (h : wz.ownsRow wb.heap.size e 3 (.slice V m c) m ((ac.take k).flatMap Win.cells ++ [x].flatMap Win.cells ++ (ac.drop k).flatMap Win.cells)) (hy : ys = ac.take k ++ (x :: ac.drop k)) (hb : Below wc.heap.size wc wz) (hm : m = n) (hc : m ≤ c) : R17 wc wz V c n ys := by
  subst hm
  refine ⟨hc, fun hV => ?_, own_flat h, by have := own_cap h; unfold maxLen at this; omega, ?_, hb⟩
  · subst hV; exact own_nocap h
  · rw [hy]; exact (wins_of_ownS h (by simp)).low (Nat.zero_le _)
theorem acc_len {los : List Los} {am : List Int} {n : Int} {ls : List P2} {j i : Nat} {p : Int} (hp : (perilsF los)[j]? = some p) : (((((perilsF los).take j).flatMap (winsP los am n ls)) ++ (winsP los am n ls p).take i).foldl insW []).length ≤ los.length := by
  obtain ⟨_, h2⟩ := insW_all (((perilsF los).take j).flatMap (winsP los am n ls) ++ (winsP los am n ls p).take i) [] List.Pairwise.nil
  rw [h2.length_eq, List.append_nil, List.length_append]
  have h3 := coll_take_len (los := los) (am := am) (n := n) (ls := ls) (j + 1)
  rw [List.take_add_one, hp, List.flatMap_append, List.length_append] at h3
  have h4 : ((winsP los am n ls p).take i).length ≤ (winsP los am n ls p).length := by rw [List.length_take]; omega
  have h5 : ((some p).toList.flatMap (winsP los am n ls)).length = (winsP los am n ls p).length := by simp
  omega
theorem acc_next {cs qs : List Win} {i : Nat} {x : Win} (h : qs[i]? = some x) : insW ((cs ++ qs.take i).foldl insW []) x = (cs ++ qs.take (i + 1)).foldl insW [] := by
  rw [List.take_add_one, h, ← List.append_assoc, List.foldl_append (l := cs ++ qs.take i)]; simp

set_option maxRecDepth 100000 in
set_option maxHeartbeats 40000000 in
theorem rbest_any (A : Option Addr) (c : Nat) (los : List Los) (M : Option Addr) (mc : Nat) (am : List Int) (n : Int) (E : Option Addr) (ec : Nat) (ls : List P2) (w : World)
    (hll : los.length ≤ 900) (hal : am.length ≤ 1000) (hel : ls.length ≤ 1000) (hL : Losses w 0 A los) (hM : Ints w 0 M am) (hE : Pairs w 0 E ls) :
    Calls Tryz.prog 10 #[.slice A los.length c, .slice M am.length mc, .int .i64 n, .slice E ls.length ec] w fun e w' => ∃ (W : Option Addr) (wc : Nat) (T : Option Addr) (tc : Nat) (R : Option Addr) (rc : Nat),
      e = .returned (.tuple #[.agg #[.slice W (bestW los am n ls).length wc, .slice T (bestT los am n ls).length tc, .slice R (bestR los am n ls).length rc, .int .i64 (sumI (bestR los am n ls))], .int .i64 (bestE los am n ls)]) ∧
      Wins w' w.heap.size W (bestW los am n ls) ∧ Ints w' w.heap.size T (bestT los am n ls) ∧ Ints w' w.heap.size R (bestR los am n ls) ∧ Below w.heap.size w w' := by
  have C1 : Hid (∀ W, Losses W 0 A los → Ints W 0 M am → Pairs W 0 E ls → _) := fun W h h' h'' => rargs_any A c los M mc am n E ec ls W (by omega) hal hel h h' h''
  have C3 : Hid (∀ W, Losses W 0 A los → _) := fun W h => rperils_any A c los W hll h
  have C4 : Hid (∀ (p : Int) W, Losses W 0 A los → Ints W 0 M am → _) := fun p W h h' => rpoints_any A c los M mc am p W (by omega) hal h h'
  have C5 : Hid (∀ (F : Option Addr) (f : Nat) (p : Int) W, (ptsF los am p).length ≤ 1000 → Pairs W 0 F (ptsF los am p) → Pairs W 0 E ls → _) := fun F f p W h0 h h' => rspans_any F f (ptsF los am p) n E ec ls W h0 hel h h'
  have C6 : Hid (∀ (B : Option Addr) (d : Nat) W, (bestF los am n ls).length ≤ d → (B = none → d = 0) → Losses W 0 A los → Ints W 0 M am → Wins W 0 B (bestF los am n ls) → Pairs W 0 E ls → _) := fun B d W h1 h1' h2 h3 h4 h5 => revaluate_any A c los M mc am B d (bestF los am n ls) n E ec ls W (by omega) (by omega) (Nat.le_trans best_len (by omega)) h1 h1' hel h2 h3 h4 h5
  have hbl := best_len (los := los) (am := am) (n := n) (ls := ls)
  obtain ⟨nl, hnl⟩ : ∃ k, k = los.length := ⟨_, rfl⟩
  obtain ⟨na, hna⟩ : ∃ k, k = am.length := ⟨_, rfl⟩
  obtain ⟨ne, hne⟩ : ∃ k, k = ls.length := ⟨_, rfl⟩
  rw [← hnl, ← hna] at C1 C4 C6
  rw [← hne] at C1 C5 C6
  rw [← hnl] at C3 hbl hll
  rw [← hnl, ← hna, ← hne]
  have HNL := Lib.hid hnl
  clear hnl hna hne hal hel
  obtain ⟨w0, hw0⟩ : ∃ w0 : World, w0 = w.alloc (.cells #[.slice none 0 0, .slice none 0 0, .slice none 0 0, .int .i64 0] 32) := ⟨_, rfl⟩
  have hb0 : Below w.heap.size w w0 := by rw [hw0]; exact below_alloc1 _ _
  have hh0 : w0.heap[w.heap.size]? = some (.cells #[.slice none 0 0, .slice none 0 0, .slice none 0 0, .int .i64 0] 32 (0, 0)) := by rw [hw0]; exact heap_alloc_new w _
  obtain ⟨br, hbr⟩ : ∃ br, br = w.heap.size := ⟨_, rfl⟩
  go_enter Tryz.func10, Tryz.ntmps10
  go_wp2_with fail
  rw [← hw0, ← hbr]
  rw [← hbr] at hh0
  have HBR := Lib.hid hbr
  have hz0 := lt_of_heap0 hh0
  clear hw0 hbr
  refine (C1.out _ (hL.below hb0) (hM.below hb0) (hE.below hb0)).mono ?_
  rintro e w1 ⟨rfl, hb1⟩
  have hb01 := hb0.trans (hb1.mono hb0.size)
  have hh1 : w1.heap[br]? = some (.cells #[.slice none 0 0, .slice none 0 0, .slice none 0 0, .int .i64 0] 32 (0, 0)) := (hb1.block br hz0).trans hh0
  have hbrw : w.heap.size ≤ br := by rw [HBR.out]; exact Nat.le_refl _
  by_cases hx : bestA los am n ls = 0
  case neg =>
    have q : (bestA los am n ls != 0) = true := by simpa using hx
    have HB := Lib.hid (best_bad (los := los) (am := am) (n := n) (ls := ls) hx)
    clear hx
    have r0 : w1.cell? ⟨br, 0, none⟩ = some (.slice none 0 0) := by simp [World.cell?, hh1]
    have r1 : w1.cell? ⟨br, 1, none⟩ = some (.slice none 0 0) := by simp [World.cell?, hh1]
    have r2 : w1.cell? ⟨br, 2, none⟩ = some (.slice none 0 0) := by simp [World.cell?, hh1]
    have r3 : w1.cell? ⟨br, 3, none⟩ = some (.int .i64 0) := by simp [World.cell?, hh1]
    have s0 : w1.frozen? ⟨br, 0, none⟩ = false := by simp [World.frozen?, hh1]
    have s1 : w1.frozen? ⟨br, 1, none⟩ = false := by simp [World.frozen?, hh1]
    have s2 : w1.frozen? ⟨br, 2, none⟩ = false := by simp [World.frozen?, hh1]
    have s3 : w1.frozen? ⟨br, 3, none⟩ = false := by simp [World.frozen?, hh1]
    go_wp2_with fail
    refine bodyPost_ret (v := .tuple #[.agg #[.slice none 0 0, .slice none 0 0, .slice none 0 0, .int .i64 0], .int .i64 (bestA los am n ls)]) (by simp [results, Tryz.results10, go_sem, r0, r1, r2, r3]) rfl ?_
    refine ⟨none, 0, none, 0, none, 0, by rw [HB.out.1, HB.out.2.1, HB.out.2.2.1, HB.out.2.2.2]; rfl, by rw [HB.out.1]; exact Sl.none_, by rw [HB.out.2.1]; exact Sl.none_, by rw [HB.out.2.2.1]; exact Sl.none_, ?_⟩
    exact (((hb01.setCell hbrw _).setCell hbrw _).setCell hbrw _).setCell hbrw _
  have q0 : (bestA los am n ls != 0) = false := by rw [hx]; rfl
  have HOK := Lib.hid (best_ok hx)
  have hparts : chkE los am = 0 ∧ recErr 0 ls = 0 ∧ ¬ (n < 1 ∨ 8784 < n) := by
    unfold bestA at hx
    split at hx
    · rename_i h; exact absurd hx h
    · split at hx
      · rename_i h; exact absurd hx h
      · split at hx
        · omega
        · rename_i h1 h2 h3; exact ⟨by simpa using h1, by simpa using h2, h3⟩
  have HE1 := Lib.hid hparts.1
  have HCK : Hid (∀ p, chkErr (ptsF los am p) n ls = 0) := fun p => chkErr_pts hparts.1 hparts.2.1 hparts.2.2 p
  have HPL : Hid (∀ p, (ptsF los am p).length ≤ 64) := fun p => (ptsF_fine hparts.1 p).2.2.2
  have HEF : Hid (∀ p, eptsF los am p = ptsF los am p) := fun p => by unfold eptsF; rw [if_pos hparts.1]
  rw [hparts.1] at C4
  clear hx hb0 hh0 hz0 hb1 hparts
  go_wp2_with fail
  refine (C3.out _ (hL.below hb01)).mono ?_
  rintro e w3 ⟨PV, pc, rfl, hPV, hb3⟩
  have hb03 := hb01.trans (hb3.mono hb01.size)
  have hh3 := (hb3.block br (lt_of_heap0 hh1)).trans hh1
  have hbr3 := lt_of_heap0 hh3
  have hplen : (perilsF los).length ≤ 1000 := by
    unfold perilsF
    refine Nat.le_trans (compact_len _) ?_
    rw [List.length_mergeSort]; unfold perilsL; rw [List.length_map, ← HNL.out]; omega
  obtain ⟨np, hnp⟩ : ∃ m, m = (perilsF los).length := ⟨_, rfl⟩
  rw [← hnp] at hplen ⊢
  have HNP := Lib.hid hnp
  obtain ⟨i0, hi, hz0, hz1, hz2⟩ := info_parts Tryz.infoWindow
  clear hnp hb3 hh1 hb01
  go_wp2_with fail
  go_loopw [11, 13, 14, 15, 16, 17, 19, 20, 21, 34] (fun v _ _ _ _ _ _ _ _ ii wr => ∃ (j : Nat) (acc : List Win) (B : Option Addr) (d : Nat), j ≤ np ∧ ii = .int .i64 j ∧ acc = (((perilsF los).take j).flatMap (winsP los am n ls)).foldl insW [] ∧ v = .slice B acc.length d ∧ acc.length ≤ d ∧ (B = none → d = 0) ∧ Flat B ∧ d ≤ 9223372036854775807 ∧ Wins wr 0 B acc ∧ Below w3.heap.size w3 wr) (fun _ _ _ _ _ _ _ _ _ ii _ => np - (intOf ii).toNat)
  case atStart => exact ⟨0, [], none, 0, Nat.zero_le _, rfl, by simp, rfl, Nat.le_refl _, fun _ => rfl, .inl rfl, by omega, Sl.none_, Below.refl _ _⟩
  case round =>
    obtain ⟨j, acc, B, d, hj, rfl, hacc, rfl, hd1, hBn, hBf, hd2, hW, hbx⟩ := hrel
    have HACC := Lib.hid hacc
    clear hacc
    obtain ⟨wo, hwo⟩ : ∃ wo : World, wo = wr := ⟨_, rfl⟩
    rw [← hwo] at hW hbx ⊢
    clear hwo
    have hb0r := hb03.trans (hbx.mono hb03.size)
    by_cases hjn : j < np
    case neg =>
      obtain rfl : j = np := by omega
      have hfull : acc = bestF los am n ls := by rw [HACC.out, List.take_of_length_le (by rw [← HNP.out]; exact Nat.le_refl _)]; rfl
      subst hfull
      have D6 := Lib.hid (C6.out B d wo hd1 hBn (hL.below hb0r) (hM.below hb0r) hW (hE.below hb0r))
      rw [← HOK.out.1, ← HOK.out.2.1, ← HOK.out.2.2.1, ← HOK.out.2.2.2] at D6
      have hmb : (bestF los am n ls).length ≤ 900 := Nat.le_trans hbl hll
      obtain ⟨m, hm⟩ : ∃ m, m = (bestF los am n ls).length := ⟨_, rfl⟩
      rw [← hm] at D6 hmb ⊢
      have HBN := Lib.hid hBn
      have HBF := Lib.hid hBf
      clear hBn hBf hW hm hd1 HACC hbl C6
      go_wp2_with fail
      refine D6.out.mono ?_
      rintro e w9 ⟨WA, wc, TA, tc, RA, rc, rfl, hWA, hTA, hRA, hb9⟩
      have hb39 := hbx.trans (hb9.mono hbx.size)
      have hh9 := (hb39.block br hbr3).trans hh3
      have hb09 := hb03.trans (hb39.mono hb03.size)
      have hbrz : br < wo.heap.size := Nat.lt_of_lt_of_le hbr3 hbx.size
      have hwz : w.heap.size ≤ wo.heap.size := Nat.le_trans hb03.size hbx.size
      obtain ⟨l1, hl1⟩ : ∃ k, k = (bestW los am n ls).length := ⟨_, rfl⟩
      obtain ⟨l2, hl2⟩ : ∃ k, k = (bestT los am n ls).length := ⟨_, rfl⟩
      obtain ⟨l3, hl3⟩ : ∃ k, k = (bestR los am n ls).length := ⟨_, rfl⟩
      obtain ⟨sm, hsm⟩ : ∃ k, k = sumI (bestR los am n ls) := ⟨_, rfl⟩
      obtain ⟨ee, hee⟩ : ∃ k, k = bestE los am n ls := ⟨_, rfl⟩
      rw [← hl1, ← hl2, ← hl3, ← hsm, ← hee]
      have HL1 := Lib.hid hl1
      have HL2 := Lib.hid hl2
      have HL3 := Lib.hid hl3
      have HSM := Lib.hid hsm
      have HEE := Lib.hid hee
      clear hl1 hl2 hl3 hsm hee D6
      have r0 : w9.cell? ⟨br, 0, none⟩ = some (.slice none 0 0) := by simp [World.cell?, hh9]
      have r1 : w9.cell? ⟨br, 1, none⟩ = some (.slice none 0 0) := by simp [World.cell?, hh9]
      have r2 : w9.cell? ⟨br, 2, none⟩ = some (.slice none 0 0) := by simp [World.cell?, hh9]
      have r3 : w9.cell? ⟨br, 3, none⟩ = some (.int .i64 0) := by simp [World.cell?, hh9]
      have s0 : w9.frozen? ⟨br, 0, none⟩ = false := by simp [World.frozen?, hh9]
      have s1 : w9.frozen? ⟨br, 1, none⟩ = false := by simp [World.frozen?, hh9]
      have s2 : w9.frozen? ⟨br, 2, none⟩ = false := by simp [World.frozen?, hh9]
      have s3 : w9.frozen? ⟨br, 3, none⟩ = false := by simp [World.frozen?, hh9]
      go_wp2_with fail
      refine bodyPost_ret (v := .tuple #[.agg #[.slice WA l1 wc, .slice TA l2 tc, .slice RA l3 rc, .int .i64 sm], .int .i64 ee]) (by simp [results, Tryz.results10, go_sem, r0, r1, r2, r3]) rfl ?_
      have k1 : w9.grownBy (w9.setCell ⟨br, 0, none⟩ (.slice WA l1 wc)) (some br) := only_setCell (only_refl _ _) (.inl rfl) _
      have k2 := only_setCell k1 (p := ⟨br, 1, none⟩) (.inl rfl) (.slice TA l2 tc)
      have k3 := only_setCell k2 (p := ⟨br, 2, none⟩) (.inl rfl) (.slice RA l3 rc)
      have k4 := only_setCell k3 (p := ⟨br, 3, none⟩) (.inl rfl) (.int .i64 sm)
      exact ⟨WA, wc, TA, tc, RA, rc, by rw [← HL1.out, ← HL2.out, ← HL3.out, ← HSM.out, ← HEE.out], (hWA.grown k4 (fun g' e => by injection e with e; omega)).low hwz, (hTA.grown k4 (fun g' e => by injection e with e; omega)).low hwz, (hRA.grown k4 (fun g' e => by injection e with e; omega)).low hwz, (((hb09.setCell hbrw _).setCell hbrw _).setCell hbrw _).setCell hbrw _⟩
    obtain ⟨p, hp, hpd⟩ := drop_cons (xs := perilsF los) (i := j) (by rw [← HNP.out]; exact hjn)
    obtain ⟨pb, po, rfl, _, _, p0⟩ := (hPV.below hbx).at_ hp
    have D4 := Lib.hid (C4.out p wo (hL.below hb0r) (hM.below hb0r))
    rw [HEF.out p] at D4
    have HPJ := Lib.hid hp
    obtain ⟨m, hm⟩ : ∃ m, m = acc.length := ⟨_, rfl⟩
    rw [← hm] at hd1 ⊢
    have HM := Lib.hid hm
    clear hp hpd hm
    go_wp2_with fail
    refine D4.out.mono ?_
    rintro e w4 ⟨xv, rfl, hxv, hb4⟩
    obtain ⟨XV, xc, rfl, _⟩ := own_shape hxv
    have hXV : Pairs w4 0 XV (ptsF los am p) := (pairs_of_own hxv).low (Nat.zero_le _)
    have hb04 := hb0r.trans (hb4.mono hb0r.size)
    have hb34 := hbx.trans (hb4.mono hbx.size)
    have hW4 := hW.below hb4
    have D5 := Lib.hid (C5.out XV xc p w4 (Nat.le_trans (HPL.out p) (by omega)) hXV (hE.below hb04))
    rw [HCK.out p] at D5
    have hxl := HPL.out p
    obtain ⟨nx, hnx⟩ : ∃ m, m = (ptsF los am p).length := ⟨_, rfl⟩
    rw [← hnx] at D5 hxl ⊢
    have HNX := Lib.hid hnx
    clear hnx hxv D4 p0 hW hb4
    go_wp2_with fail
    refine D5.out.mono ?_
    rintro e w5 ⟨sv, rfl, hsv, hb5⟩
    obtain ⟨SV, sc, rfl, _⟩ := own_shape hsv
    have hSV : Pairs w5 0 SV (spansOf (ptsF los am p) n ls) := (pairs_of_own hsv).low (Nat.zero_le _)
    have hXV5 := hXV.below hb5
    have hW5 := hW4.below hb5
    have hb35 := hb34.trans (hb5.mono hb34.size)
    have hsl : (spansOf (ptsF los am p) n ls).length ≤ 64 := Nat.le_trans (spansOf_len _ _ _) (HPL.out p)
    obtain ⟨ns, hns⟩ : ∃ m, m = (spansOf (ptsF los am p) n ls).length := ⟨_, rfl⟩
    rw [← hns] at hsl ⊢
    have HNS := Lib.hid hns
    have HIN : Hid (∀ s ∈ spansOf (ptsF los am p) n ls, 0 ≤ s.a ∧ s.a ≤ s.b ∧ s.b < (ptsF los am p).length) := fun s hs => spansOf_in hs
    clear hns hsv D5 hW4 hXV hb34 hb04
    go_wp2_with fail
    go_loopw [11, 19, 20, 21, 54] (fun v _ _ _ ii wr => ∃ (i : Nat) (ac : List Win) (B : Option Addr) (d : Nat), i ≤ ns ∧ ii = .int .i64 i ∧ ac = ((((perilsF los).take j).flatMap (winsP los am n ls)) ++ (winsP los am n ls p).take i).foldl insW [] ∧ v = .slice B ac.length d ∧ ac.length ≤ d ∧ (B = none → d = 0) ∧ Flat B ∧ d ≤ 9223372036854775807 ∧ Wins wr 0 B ac ∧ Below w5.heap.size w5 wr) (fun _ _ _ _ ii _ => ns - (intOf ii).toNat)
    case atStart => exact ⟨0, acc, B, d, Nat.zero_le _, rfl, by rw [HACC.out]; simp, by rw [← HM.out], by rw [← HM.out]; exact hd1, hBn, hBf, hd2, hW5, Below.refl _ _⟩
    case round =>
      obtain ⟨i, ac, B2, d2, hi', rfl, hac, rfl, hd1', hBn', hBf', hd2', hW, hbw⟩ := hrel
      have HAC := Lib.hid hac
      have hacl : ac.length ≤ nl := by rw [hac, HNL.out]; exact acc_len HPJ.out
      obtain ⟨k0, hk0⟩ : ∃ m, m = ac.length := ⟨_, rfl⟩
      rw [← hk0] at hacl hd1' ⊢
      have HK0 := Lib.hid hk0
      clear hW5 hac hk0
      obtain ⟨wo2, hwo2⟩ : ∃ wo2 : World, wo2 = wr := ⟨_, rfl⟩
      rw [← hwo2] at hW hbw ⊢
      clear hwo2
      by_cases hin : i < ns
      case neg =>
        obtain rfl : i = ns := by omega
        have hfull : Hid (ac = (((perilsF los).take (j + 1)).flatMap (winsP los am n ls)).foldl insW []) := by
          show _ = _
          rw [HAC.out, List.take_of_length_le (l := winsP los am n ls p) (by unfold winsP; rw [List.length_map, ← HNS.out]; exact Nat.le_refl _), List.take_add_one, HPJ.out]; simp
        have H1 := Lib.hid hBn'
        have H2 := Lib.hid hBf'
        have hbf := hb35.trans (hbw.mono hb35.size)
        clear hBn' hBf'
        go_wp2_with fail
        go_roundw
        case rel => exact ⟨j + 1, ac, B2, d2, by omega, by go_num, hfull.out, by rw [← HK0.out], by rw [← HK0.out]; exact hd1', H1.out, H2.out, hd2', hW, hbf⟩
        case measure => simp [intOf]; omega
      go_upto_block 3 with fail
      go_cut [11] (fun s11 wz => ∃ (B3 : Option Addr) (d3 : Nat), s11 = .slice B3 (k0 + 1) d3 ∧ R17 wo2 wz B3 d3 (k0 + 1) (((((perilsF los).take j).flatMap (winsP los am n ls)) ++ (winsP los am n ls p).take (i + 1)).foldl insW []))
      case first =>
        obtain ⟨s, hs, _⟩ := drop_cons (xs := spansOf (ptsF los am p) n ls) (i := i) (by rw [← HNS.out]; exact hin)
        have hsin := HIN.out s (List.mem_of_getElem? hs)
        have hwn := winsP_next hs
        obtain ⟨sb, so, e1, _, _, s0, s1⟩ := (hSV.below hbw).at_ hs
        obtain ⟨sa', sb'⟩ := s
        dsimp only at hsin s0 s1
        obtain ⟨a, rfl⟩ := Int.eq_ofNat_of_zero_le hsin.1
        obtain ⟨b, rfl⟩ := Int.eq_ofNat_of_zero_le (show 0 ≤ sb' by omega)
        obtain ⟨x1, hx1, _⟩ := drop_cons (xs := ptsF los am p) (i := a) (by omega)
        obtain ⟨x2, hx2, _⟩ := drop_cons (xs := ptsF los am p) (i := b) (by omega)
        have hok2 := (ptOk_iff x2).1 ((ptsF_fine HE1.out p).1 x2 (List.mem_of_getElem? hx2))
        obtain ⟨xb, xo, e2, _, hxbl, u0, _⟩ := (hXV5.below hbw).at_ hx1
        obtain ⟨xb', xo', e3, _, _, u1, _⟩ := (hXV5.below hbw).at_ hx2
        have hab : a < nx ∧ b < nx := by rw [HNX.out]; omega
        subst e1
        subst e2
        obtain ⟨rfl, rfl⟩ : xb = xb' ∧ xo = xo' := by simpa using e3
        have hwv : winOf p (ptsF los am p) ⟨(a : Int), (b : Int)⟩ = ⟨p, x1.a, x2.a + 1⟩ := by unfold winOf; dsimp only; rw [hourAt_of hx1, hourAt_of hx2]
        rw [hwv] at hwn
        have HNEXT := Lib.hid (acc_next (cs := ((perilsF los).take j).flatMap (winsP los am n ls)) hwn)
        rw [← HAC.out] at HNEXT
        obtain ⟨wb, hwb⟩ : ∃ wb : World, wb = wo2.alloc (.cells #[.int .i64 (a : Int), .int .i64 (b : Int)] 63) := ⟨_, rfl⟩
        have hbb : Below wo2.heap.size wo2 wb := by rw [hwb]; exact (Below.refl _ _).alloc (Nat.le_refl _) _
        have d0 : wb.cell? ⟨wo2.heap.size, 0, none⟩ = some (.int .i64 (a : Int)) := by rw [hwb]; simp
        have d1 : wb.cell? ⟨wo2.heap.size, 1, none⟩ = some (.int .i64 (b : Int)) := by rw [hwb]; simp
        have v0 : wb.cell? ⟨xb, xo + a * 2, none⟩ = some (.int .i64 x1.a) := (hbb.cell (p := ⟨xb, _, none⟩) hxbl).trans u0
        have v1 : wb.cell? ⟨xb, xo + b * 2, none⟩ = some (.int .i64 x2.a) := (hbb.cell (p := ⟨xb, _, none⟩) hxbl).trans u1
        have hob := hbb
        have hWb := hW.below hbb
        have hwr : IntKind.i64.wrap (x2.a + 1) = x2.a + 1 := IntWalk.i64_in _ (by omega)
        have ha1 : (a : Int) < (nx : Int) := by omega
        have hb1 : (b : Int) < (nx : Int) := by omega
        have hza : (0 : Int) ≤ (a : Int) := Int.natCast_nonneg _
        have hzb : (0 : Int) ≤ (b : Int) := Int.natCast_nonneg _
        have hxbl2 : xb < wb.heap.size := Nat.lt_of_lt_of_le hxbl hbb.size
        have hbsl : wo2.heap.size < wb.heap.size := by rw [hwb]; simp
        obtain ⟨bs, hbs⟩ : ∃ bs, bs = wo2.heap.size := ⟨_, rfl⟩
        go_upto_region 13 with fail
        rw [← hwb, ← hbs]
        rw [← hbs] at d0 d1 hbsl
        clear hbs hwb hs hwn hx1 hx2 e3 hwv u0 u1 s0 s1 hbb hW hbw hsin
        go_region
        obtain ⟨wq, hwq⟩ : ∃ wq : World, wq = (wb.alloc (.cells #[.int .i64 p, .int .i64 x1.a, .int .i64 (x2.a + 1)] 75)).drew := ⟨_, rfl⟩
        obtain ⟨bx, hbx⟩ : ∃ bx, bx = wb.heap.size := ⟨_, rfl⟩
        have hbq : Below wb.heap.size wb wq := by rw [hwq]; exact ((Below.refl _ _).alloc (Nat.le_refl _) _).drew
        have hboxq : wq.heap[bx]? = some (.cells #[.int .i64 p, .int .i64 x1.a, .int .i64 (x2.a + 1)] 75 (0, 0)) := by rw [hwq, hbx]; exact heap_alloc_new _ _
        have hoq := hob.trans (hbq.mono hob.size)
        have hWq := hWb.below hbq
        go_upto_block 4 with fail
        rw [← hwq, ← hbx]
        clear hwq hbx hbq hob hWb d0 d1 v0 v1
        go_cut [21] (fun s21 wc => ∃ k : Nat, s21 = .int .i64 k ∧ k ≤ k0 ∧ insW ac ⟨p, x1.a, x2.a + 1⟩ = ac.take k ++ (⟨p, x1.a, x2.a + 1⟩ :: ac.drop k) ∧ Below wq.heap.size wq wc)
        case first =>
          as_aux_lemma =>
            go_wp2_with fail
            go_loopw [21] (fun s21 wr => ∃ k : Nat, s21 = .int .i64 k ∧ k ≤ k0 ∧ insW ac ⟨p, x1.a, x2.a + 1⟩ = ac.take k ++ insW (ac.drop k) ⟨p, x1.a, x2.a + 1⟩ ∧ Below wq.heap.size wq wr) (fun s21 _ => k0 - (intOf s21).toNat)
            case atStart => exact ⟨0, rfl, Nat.zero_le _, by simp, Below.refl _ _⟩
            case round =>
              obtain ⟨k, rfl, hk, hI, hbk⟩ := hrel
              have HI := Lib.hid hI
              clear hI
              have hboxk := (hbk.block bx (lt_of_heap0 hboxq)).trans hboxq
              have z0 : wr.cell? ⟨bx, 0, none⟩ = some (.int .i64 p) := cell0 hboxk
              have z1 : wr.cell? ⟨bx, 1, none⟩ = some (.int .i64 x1.a) := cell1 hboxk
              by_cases hkm : k < k0
              · obtain ⟨x, hx, hd⟩ := drop_cons (xs := ac) (i := k) (by rw [← HK0.out]; exact hkm)
                obtain ⟨b3, o3, rfl, _, hbl3, y0, y1, _⟩ := (hWq.below hbk).at_ hx
                have q0 : decide ((k : Int) < (k0 : Int)) = true := by simp; omega
                have HXX := Lib.hid hx
                have HD := Lib.hid hd
                clear hx hd
                by_cases hlt : winLt x ⟨p, x1.a, x2.a + 1⟩
                · have HI2 := Lib.hid (insW_skip HD.out HXX.out hlt _ HI.out)
                  by_cases h1 : x.fr < x1.a
                  · have q1 : decide (x.fr < x1.a) = true := by simpa using h1
                    clear hlt h1
                    go_wp2_with fail
                    go_quiet (fail)
                    go_wp2_with fail
                    go_roundw
                    case rel => exact ⟨k + 1, by go_num, by omega, HI2.out, below_drewN hbk _⟩
                    case measure => simp [intOf]; omega
                  · have q1 : decide (x.fr < x1.a) = false := by simpa using h1
                    have h2 : x.fr = x1.a ∧ x.peril < p := by unfold winLt at hlt; dsimp only at hlt; omega
                    have q2 : (x.fr == x1.a) = true := by simpa using h2.1
                    have q3 : decide (x.peril < p) = true := by simpa using h2.2
                    clear hlt h1 h2
                    go_wp2_with fail
                    go_quiet (fail)
                    go_wp2_with fail
                    go_roundw
                    case rel => exact ⟨k + 1, by go_num, by omega, HI2.out, below_drewN hbk _⟩
                    case measure => simp [intOf]; omega
                · have HI2 := Lib.hid (insW_stop HD.out hlt _ HI.out)
                  have q1 : decide (x.fr < x1.a) = false := by unfold winLt at hlt; dsimp only at hlt; simp; omega
                  by_cases h2 : x.fr = x1.a
                  · have q2 : (x.fr == x1.a) = true := by simpa using h2
                    have q3 : decide (x.peril < p) = false := by unfold winLt at hlt; dsimp only at hlt; simp; omega
                    clear hlt h2
                    go_wp2_with fail
                    go_quiet (fail)
                    go_wp2_with fail
                    go_meet
                    exact ⟨k, rfl, hk, HI2.out, below_drewN hbk _⟩
                  · have q2 : (x.fr == x1.a) = false := by simpa using h2
                    clear hlt h2
                    go_wp2_with fail
                    go_quiet (fail)
                    go_wp2_with fail
                    go_meet
                    exact ⟨k, rfl, hk, HI2.out, below_drewN hbk _⟩
              · have q0 : decide ((k : Int) < (k0 : Int)) = false := by simp; omega
                have HI2 := Lib.hid (insW_end (by rw [← HK0.out]; omega) _ HI.out)
                go_wp2_with fail
                go_quiet (fail)
                go_wp2_with fail
                go_meet
                exact ⟨k, rfl, hk, HI2.out, below_drewN hbk _⟩
        case rest =>
          obtain ⟨k, rfl, hk, hins, hbc⟩ := hcut
          have HINS := Lib.hid hins
          have HLEN : Hid ((insW ac ⟨p, x1.a, x2.a + 1⟩).length = k0 + 1) := by show _ = _; rw [hins, List.length_append, List.length_cons, List.length_take, List.length_drop, ← HK0.out]; omega
          have hoc := hoq.trans (hbc.mono hoq.size)
          have hWc := hWq.below hbc
          have hbox := (hbc.block bx (lt_of_heap0 hboxq)).trans hboxq
          have hbxl := lt_of_heap0 hbox
          have z0 : wc.cell? ⟨bx, 0, none⟩ = some (.int .i64 p) := cell0 hbox
          have z1 : wc.cell? ⟨bx, 1, none⟩ = some (.int .i64 x1.a) := cell1 hbox
          have z2 : wc.cell? ⟨bx, 2, none⟩ = some (.int .i64 (x2.a + 1)) := cell2 hbox
          clear hins hbc hWq hoq
          go_upto_region 17 with fail
          refine wp_then fun KK hKK => ?_
          go_cut [11] (fun s11 wz => ∃ (B3 : Option Addr) (d3 : Nat), s11 = .slice B3 (k0 + 1) d3 ∧ R17 wo2 wz B3 d3 (k0 + 1) (((((perilsF los).take j).flatMap (winsP los am n ls)) ++ (winsP los am n ls p).take (i + 1)).foldl insW []))
          case first =>
            (try clear C3); (try clear C4); (try clear C5); (try clear C6); (try clear C1); (try clear hL hM hE); (try clear HOK HE1 HCK HPL HEF HNP hPV hb03 hh3 hbr3 HBR hbrw); (try clear HACC HBN); (try clear hSV hXV5 hb35 HNS HIN hxl hsl HNX); (try clear HAC HPJ HM); (try clear hab hok2 hwr ha1 hb1 hza hzb hxbl hxbl2 hbsl); (try clear q0 hbl hplen hj hjn hb0r); (try clear hb01 hb0); (try clear hi' hin hboxq hWq)
            rcases hBf' with rfl | ⟨b3, o3, rfl⟩
            · as_aux_lemma =>
                obtain rfl : d2 = 0 := hBn' rfl
                obtain rfl : k0 = 0 := by omega
                obtain rfl : k = 0 := by omega
                have HT : Hid (∀ W, Below wc.heap.size wc W → SrcW W none 0 0 (ac.take 0)) := fun W h => .inl ⟨rfl, rfl, rfl, by simp⟩
                have HDR : Hid (∀ W, Below wc.heap.size wc W → SrcW W none 0 0 (ac.drop 0)) := fun W h => .inl ⟨rfl, rfl, rfl, by simp; exact List.eq_nil_of_length_eq_zero HK0.out.symm⟩
                clear hBn'
                go_region_law (first
                  | (refine step_append_srcW rfl (.tmp 109) (.tmp 112) 30 rfl wc.heap.size 75 i0 _ Tryz.underlying30 hi hz0 hz1 hz2 rfl (.slice (some ⟨wc.heap.size, 0, none⟩) 0 0) 0 [] (by first | rfl | (simp [Act.eval]; done)) (own_e1W _ _) (none) 0 0 (ac.take 0) (by first | rfl | (simp [Act.eval]; done)) (HT.out _ (by repeat (first | exact Below.refl _ _ | refine Below.drew ?_ | refine Below.alloc ?_ (by simp) _))) (by omega) (by first | (simp; done) | (simp; omega)) ?_; intro v1 w1 hown1 hg1; have hb1 : Below wc.heap.size wc w1 := below_ownW (by repeat (first | exact Below.refl _ _ | refine Below.drew ?_ | refine Below.alloc ?_ (by simp) _)) (own_e1W _ _) hg1; have hbox1 : w1.heap[bx]? = some (.cells #[.int .i64 p, .int .i64 x1.a, .int .i64 (x2.a + 1)] 75 (0, 0)) := (hb1.block bx hbxl).trans hbox; have z0 : w1.cell? ⟨bx, 0, none⟩ = some (.int .i64 p) := cell0 hbox1; have z1 : w1.cell? ⟨bx, 1, none⟩ = some (.int .i64 x1.a) := cell1 hbox1; have z2 : w1.cell? ⟨bx, 2, none⟩ = some (.int .i64 (x2.a + 1)) := cell2 hbox1; obtain ⟨V1', c1', rfl, _⟩ := own_shape hown1; simp only [Nat.zero_add, List.nil_append] at hown1 ⊢)
                  | (refine step_append_srcW rfl (.tmp 109) (.tmp 112) 30 rfl wc.heap.size 75 i0 _ Tryz.underlying30 hi hz0 hz1 hz2 rfl (.slice (some ⟨wc.heap.size, 0, none⟩) 0 0) 0 [] (by first | rfl | (simp [Act.eval]; done)) (own_e2W _ _ _) (none) 0 0 (ac.take 0) (by first | rfl | (simp [Act.eval]; done)) (HT.out _ (by repeat (first | exact Below.refl _ _ | refine Below.drew ?_ | refine Below.alloc ?_ (by simp) _))) (by omega) (by first | (simp; done) | (simp; omega)) ?_; intro v1 w1 hown1 hg1; have hb1 : Below wc.heap.size wc w1 := below_ownW (by repeat (first | exact Below.refl _ _ | refine Below.drew ?_ | refine Below.alloc ?_ (by simp) _)) (own_e2W _ _ _) hg1; have hone : w1.heap[wc.heap.size + 1]? = some (.cells #[.int .i64 p, .int .i64 x1.a, .int .i64 (x2.a + 1)] 75 (0, 0)) := (hg1.block _ (by simp) (by simp [Value.ownBlock])).trans (heap_2nd _ _ _); obtain ⟨V1', c1', rfl, _⟩ := own_shape hown1; simp only [Nat.zero_add, List.nil_append] at hown1 ⊢)
                  | (refine step_append_srcW rfl (.tmp 109) (.tmp 112) 30 rfl wc.heap.size 75 i0 _ Tryz.underlying30 hi hz0 hz1 hz2 rfl (.slice (some ⟨wc.heap.size + 1, 0, none⟩) 0 0) 0 [] (by first | rfl | (simp [Act.eval]; done)) (own_e3W _ _ _) (none) 0 0 (ac.take 0) (by first | rfl | (simp [Act.eval]; done)) (HT.out _ (by repeat (first | exact Below.refl _ _ | refine Below.drew ?_ | refine Below.alloc ?_ (by simp) _))) (by omega) (by first | (simp; done) | (simp; omega)) ?_; intro v1 w1 hown1 hg1; have hb1 : Below wc.heap.size wc w1 := below_ownW (by repeat (first | exact Below.refl _ _ | refine Below.drew ?_ | refine Below.alloc ?_ (by simp) _)) (own_e3W _ _ _) hg1; have hone : w1.heap[wc.heap.size]? = some (.cells #[.int .i64 p, .int .i64 x1.a, .int .i64 (x2.a + 1)] 75 (0, 0)) := (hg1.block _ (by simp; omega) (by simp [Value.ownBlock])).trans ((Below.heap_alloc _ _ _ (by simp)).trans (heap_alloc_new _ _)); obtain ⟨V1', c1', rfl, _⟩ := own_shape hown1; simp only [Nat.zero_add, List.nil_append] at hown1 ⊢)
                  | (refine step_append_srcW rfl (.tmp 113) (.tmp 115) 30 rfl wc.heap.size 75 i0 _ Tryz.underlying30 hi hz0 hz1 hz2 rfl (.slice V1' 0 c1') 0 _ (by first | rfl | (simp [Act.eval]; done)) (own_below hown1 ((Below.refl _ _).alloc (Nat.le_refl _) _)) (some ⟨w1.heap.size, 0, none⟩) 1 1 [⟨p, x1.a, x2.a + 1⟩] (by first | rfl | (simp [Act.eval]; done)) (srcW_one (x := ⟨p, x1.a, x2.a + 1⟩) (heap_alloc_new _ _)) (by omega) (by have := hb1.size; simp; omega) ?_; intro v2 w2 hown2 hg2; have hb2 : Below wc.heap.size wc w2 := below_ownW (hb1.alloc hb1.size _) (own_below hown1 ((Below.refl _ _).alloc (Nat.le_refl _) _)) hg2; obtain ⟨V2', c2', rfl, _⟩ := own_shape hown2)
                  | (refine step_append_srcW rfl (.tmp 113) (.tmp 115) 30 rfl wc.heap.size 75 i0 _ Tryz.underlying30 hi hz0 hz1 hz2 rfl (.slice V1' 0 c1') 0 _ (by first | rfl | (simp [Act.eval]; done)) (hown1) (some ⟨wc.heap.size + 1, 0, none⟩) 1 1 [⟨p, x1.a, x2.a + 1⟩] (by first | rfl | (simp [Act.eval]; done)) (srcW_one (x := ⟨p, x1.a, x2.a + 1⟩) hone) (by omega) (hb1.size) ?_; intro v2 w2 hown2 hg2; have hb2 : Below wc.heap.size wc w2 := below_ownW (hb1) (hown1) hg2; obtain ⟨V2', c2', rfl, _⟩ := own_shape hown2)
                  | (refine step_append_srcW rfl (.tmp 113) (.tmp 115) 30 rfl wc.heap.size 75 i0 _ Tryz.underlying30 hi hz0 hz1 hz2 rfl (.slice V1' 0 c1') 0 _ (by first | rfl | (simp [Act.eval]; done)) (hown1) (some ⟨wc.heap.size, 0, none⟩) 1 1 [⟨p, x1.a, x2.a + 1⟩] (by first | rfl | (simp [Act.eval]; done)) (srcW_one (x := ⟨p, x1.a, x2.a + 1⟩) hone) (by omega) (hb1.size) ?_; intro v2 w2 hown2 hg2; have hb2 : Below wc.heap.size wc w2 := below_ownW (hb1) (hown1) hg2; obtain ⟨V2', c2', rfl, _⟩ := own_shape hown2)
                  | (refine step_append_srcW rfl (.tmp 116) (.tmp 119) 30 rfl wc.heap.size 75 i0 _ Tryz.underlying30 hi hz0 hz1 hz2 rfl (.slice V2' (1) c2') (1) _ (by first | rfl | (simp [Act.eval]; done)) hown2 (none) (0) (0) (ac.drop 0) (by first | rfl | (simp [Act.eval]; done)) (HDR.out _ hb2) (by omega) hb2.size ?_; intro v3 w3' hown3 hg3; have hb3' : Below wc.heap.size wc w3' := below_ownW hb2 hown2 hg3; obtain ⟨V3', c3', rfl, hc3'⟩ := own_shape hown3))
                all_goals (try go_wp2_with fail)
                all_goals go_meet
                all_goals exact ⟨V3', c3', rbslice (by omega), r17_of hown3 (HNEXT.out.symm.trans HINS.out) (hoc.trans (hb3'.mono hoc.size)) (by omega) hc3'⟩
            · as_aux_lemma =>
                have HT : Hid (∀ W, Below wc.heap.size wc W → SrcW W (some ⟨b3, o3, none⟩) k d2 (ac.take k)) := fun W h => srcW_take (hWc.below h) (by rw [← HK0.out]; exact hk)
                have HDR : Hid (∀ W, Below wc.heap.size wc W → SrcW W (if d2 = k then some ⟨b3, o3, none⟩ else some ⟨b3, o3 + k * 3, none⟩) (k0 - k) (d2 - k) (ac.drop k)) := fun W h => srcW_drop (hWc.below h) HK0.out hk hd1'
                have hkc : k ≤ d2 := by omega
                clear hBn'
                go_region_law (first
                  | (refine step_append_srcW rfl (.tmp 109) (.tmp 112) 30 rfl wc.heap.size 75 i0 _ Tryz.underlying30 hi hz0 hz1 hz2 rfl (.slice (some ⟨wc.heap.size, 0, none⟩) 0 0) 0 [] (by first | rfl | (simp [Act.eval]; done)) (own_e1W _ _) (some ⟨b3, o3, none⟩) k d2 (ac.take k) (by first | rfl | (simp [Act.eval]; done)) (HT.out _ (by repeat (first | exact Below.refl _ _ | refine Below.drew ?_ | refine Below.alloc ?_ (by simp) _))) (by omega) (by first | (simp; done) | (simp; omega)) ?_; intro v1 w1 hown1 hg1; have hb1 : Below wc.heap.size wc w1 := below_ownW (by repeat (first | exact Below.refl _ _ | refine Below.drew ?_ | refine Below.alloc ?_ (by simp) _)) (own_e1W _ _) hg1; have hbox1 : w1.heap[bx]? = some (.cells #[.int .i64 p, .int .i64 x1.a, .int .i64 (x2.a + 1)] 75 (0, 0)) := (hb1.block bx hbxl).trans hbox; have z0 : w1.cell? ⟨bx, 0, none⟩ = some (.int .i64 p) := cell0 hbox1; have z1 : w1.cell? ⟨bx, 1, none⟩ = some (.int .i64 x1.a) := cell1 hbox1; have z2 : w1.cell? ⟨bx, 2, none⟩ = some (.int .i64 (x2.a + 1)) := cell2 hbox1; obtain ⟨V1', c1', rfl, _⟩ := own_shape hown1; simp only [Nat.zero_add, List.nil_append] at hown1 ⊢)
                  | (refine step_append_srcW rfl (.tmp 109) (.tmp 112) 30 rfl wc.heap.size 75 i0 _ Tryz.underlying30 hi hz0 hz1 hz2 rfl (.slice (some ⟨wc.heap.size, 0, none⟩) 0 0) 0 [] (by first | rfl | (simp [Act.eval]; done)) (own_e2W _ _ _) (some ⟨b3, o3, none⟩) k d2 (ac.take k) (by first | rfl | (simp [Act.eval]; done)) (HT.out _ (by repeat (first | exact Below.refl _ _ | refine Below.drew ?_ | refine Below.alloc ?_ (by simp) _))) (by omega) (by first | (simp; done) | (simp; omega)) ?_; intro v1 w1 hown1 hg1; have hb1 : Below wc.heap.size wc w1 := below_ownW (by repeat (first | exact Below.refl _ _ | refine Below.drew ?_ | refine Below.alloc ?_ (by simp) _)) (own_e2W _ _ _) hg1; have hone : w1.heap[wc.heap.size + 1]? = some (.cells #[.int .i64 p, .int .i64 x1.a, .int .i64 (x2.a + 1)] 75 (0, 0)) := (hg1.block _ (by simp) (by simp [Value.ownBlock])).trans (heap_2nd _ _ _); obtain ⟨V1', c1', rfl, _⟩ := own_shape hown1; simp only [Nat.zero_add, List.nil_append] at hown1 ⊢)
                  | (refine step_append_srcW rfl (.tmp 109) (.tmp 112) 30 rfl wc.heap.size 75 i0 _ Tryz.underlying30 hi hz0 hz1 hz2 rfl (.slice (some ⟨wc.heap.size + 1, 0, none⟩) 0 0) 0 [] (by first | rfl | (simp [Act.eval]; done)) (own_e3W _ _ _) (some ⟨b3, o3, none⟩) k d2 (ac.take k) (by first | rfl | (simp [Act.eval]; done)) (HT.out _ (by repeat (first | exact Below.refl _ _ | refine Below.drew ?_ | refine Below.alloc ?_ (by simp) _))) (by omega) (by first | (simp; done) | (simp; omega)) ?_; intro v1 w1 hown1 hg1; have hb1 : Below wc.heap.size wc w1 := below_ownW (by repeat (first | exact Below.refl _ _ | refine Below.drew ?_ | refine Below.alloc ?_ (by simp) _)) (own_e3W _ _ _) hg1; have hone : w1.heap[wc.heap.size]? = some (.cells #[.int .i64 p, .int .i64 x1.a, .int .i64 (x2.a + 1)] 75 (0, 0)) := (hg1.block _ (by simp; omega) (by simp [Value.ownBlock])).trans ((Below.heap_alloc _ _ _ (by simp)).trans (heap_alloc_new _ _)); obtain ⟨V1', c1', rfl, _⟩ := own_shape hown1; simp only [Nat.zero_add, List.nil_append] at hown1 ⊢)
                  | (refine step_append_srcW rfl (.tmp 113) (.tmp 115) 30 rfl wc.heap.size 75 i0 _ Tryz.underlying30 hi hz0 hz1 hz2 rfl (.slice V1' k c1') k _ (by first | rfl | (simp [Act.eval]; done)) (own_below hown1 ((Below.refl _ _).alloc (Nat.le_refl _) _)) (some ⟨w1.heap.size, 0, none⟩) 1 1 [⟨p, x1.a, x2.a + 1⟩] (by first | rfl | (simp [Act.eval]; done)) (srcW_one (x := ⟨p, x1.a, x2.a + 1⟩) (heap_alloc_new _ _)) (by omega) (by have := hb1.size; simp; omega) ?_; intro v2 w2 hown2 hg2; have hb2 : Below wc.heap.size wc w2 := below_ownW (hb1.alloc hb1.size _) (own_below hown1 ((Below.refl _ _).alloc (Nat.le_refl _) _)) hg2; obtain ⟨V2', c2', rfl, _⟩ := own_shape hown2)
                  | (refine step_append_srcW rfl (.tmp 113) (.tmp 115) 30 rfl wc.heap.size 75 i0 _ Tryz.underlying30 hi hz0 hz1 hz2 rfl (.slice V1' k c1') k _ (by first | rfl | (simp [Act.eval]; done)) (hown1) (some ⟨wc.heap.size + 1, 0, none⟩) 1 1 [⟨p, x1.a, x2.a + 1⟩] (by first | rfl | (simp [Act.eval]; done)) (srcW_one (x := ⟨p, x1.a, x2.a + 1⟩) hone) (by omega) (hb1.size) ?_; intro v2 w2 hown2 hg2; have hb2 : Below wc.heap.size wc w2 := below_ownW (hb1) (hown1) hg2; obtain ⟨V2', c2', rfl, _⟩ := own_shape hown2)
                  | (refine step_append_srcW rfl (.tmp 113) (.tmp 115) 30 rfl wc.heap.size 75 i0 _ Tryz.underlying30 hi hz0 hz1 hz2 rfl (.slice V1' k c1') k _ (by first | rfl | (simp [Act.eval]; done)) (hown1) (some ⟨wc.heap.size, 0, none⟩) 1 1 [⟨p, x1.a, x2.a + 1⟩] (by first | rfl | (simp [Act.eval]; done)) (srcW_one (x := ⟨p, x1.a, x2.a + 1⟩) hone) (by omega) (hb1.size) ?_; intro v2 w2 hown2 hg2; have hb2 : Below wc.heap.size wc w2 := below_ownW (hb1) (hown1) hg2; obtain ⟨V2', c2', rfl, _⟩ := own_shape hown2)
                  | (refine step_append_srcW rfl (.tmp 116) (.tmp 119) 30 rfl wc.heap.size 75 i0 _ Tryz.underlying30 hi hz0 hz1 hz2 rfl (.slice V2' (k + 1) c2') (k + 1) _ (by first | rfl | (simp [Act.eval]; done)) hown2 (if d2 = k then some ⟨b3, o3, none⟩ else some ⟨b3, o3 + k * 3, none⟩) (k0 - k) (d2 - k) (ac.drop k) (by first | rfl | (simp [Act.eval]; done)) (HDR.out _ hb2) (by omega) hb2.size ?_; intro v3 w3' hown3 hg3; have hb3' : Below wc.heap.size wc w3' := below_ownW hb2 hown2 hg3; obtain ⟨V3', c3', rfl, hc3'⟩ := own_shape hown3))
                all_goals (try go_wp2_with fail)
                all_goals go_meet
                all_goals exact ⟨V3', c3', rbslice (by omega), r17_of hown3 (HNEXT.out.symm.trans HINS.out) (hoc.trans (hb3'.mono hoc.size)) (by omega) hc3'⟩
          case rest =>
            refine hKK _ _ ?_
            go_wp2_with fail
            go_meet
            exact hcut
      case rest =>
        obtain ⟨B3, d3, rfl, f1, f2, f3, f4, f5, f6⟩ := hcut
        have F2 := Lib.hid f2
        have F3 := Lib.hid f3
        have F5 := Lib.hid f5
        have hb5z := hbw.trans (f6.mono hbw.size)
        have HL9 : Hid (k0 + 1 = (((((perilsF los).take j).flatMap (winsP los am n ls)) ++ (winsP los am n ls p).take (i + 1)).foldl insW []).length) := by
          show _ = _
          obtain ⟨s, hs, _⟩ := drop_cons (xs := spansOf (ptsF los am p) n ls) (i := i) (by rw [← HNS.out]; exact hin)
          rw [← acc_next (cs := ((perilsF los).take j).flatMap (winsP los am n ls)) (winsP_next hs), ← HAC.out, (insW_perm _ _).length_eq, List.length_cons, ← HK0.out]
        clear f2 f3 f5 f6
        go_wp2_with fail
        go_roundw
        case rel => exact ⟨i + 1, _, B3, d3, by omega, by go_num, rfl, rbslice HL9.out, by rw [← HL9.out]; exact f1, F2.out, F3.out, f4, F5.out, hb5z⟩
        case measure => simp [intOf]; omega

end Go.Proofs.YtilkcailpkebdaaGreat

/-
  treatylaw26.WindowBest: the law's walk.
-/
namespace Go.Proofs.YtilkcailpkebdaaGreat
open Go.RowKit
set_option linter.unusedVariables false

theorem bestW_len (los : List Los) (am : List Int) (n : Int) (ls : List P2) : (bestW los am n ls).length ≤ los.length := by
  unfold bestW; split
  · unfold evW; split
    · exact best_len
    · simp
  · simp
theorem bestT_len (los : List Los) (am : List Int) (n : Int) (ls : List P2) : (bestT los am n ls).length ≤ los.length := by
  unfold bestT; split
  · unfold evT; split
    · rw [totF_len]; exact best_len
    · simp
  · simp
theorem bestR_len (los : List Los) (am : List Int) (n : Int) (ls : List P2) : (bestR los am n ls).length ≤ los.length := by
  unfold bestR; split
  · unfold evR recsF; rw [List.length_map]; unfold evT; split
    · rw [totF_len]; exact best_len
    · simp
  · simp

set_option maxRecDepth 100000 in
set_option maxHeartbeats 4000000 in
theorem lawBest (U : Option Addr) (uc : Nat) (lg : List Los) (M : Option Addr) (mc : Nat) (ag : List Int) (length : Int) (Y : Option Addr) (yc : Nat) (lay : List P2) (D : Option Addr) (dc : Nat) (deck : List Int) (O : Option Addr) (oc : Nat) (other : List Int) (w : World)
    (hU : Losses w 0 U lg) (hM : Ints w 0 M ag) (hY : Pairs w 0 Y lay) (hD : Ints w 0 D deck) (hO : Ints w 0 O other) (hul : lg.length ≤ 9223372036854775807) (hml : ag.length ≤ 9223372036854775807) (hyl : lay.length ≤ 9223372036854775807) (hdl : deck.length ≤ 9223372036854775807) (hol : other.length ≤ 9223372036854775807) (hcp : lg.length ≤ uc) (hnc : U = none → uc = 0) :
    Calls Tryz.prog 3 #[.slice U lg.length uc, .slice M ag.length mc, .int .i64 length, .slice Y lay.length yc, .slice D deck.length dc, .slice O other.length oc] w fun e w' => e = .returned (.bool true) ∧ Below w.heap.size w w' := by
  clear hcp hnc
  by_cases hlen : 40 < lg.length ∨ 40 < ag.length ∨ 20 < lay.length
  · obtain ⟨n, hn⟩ : ∃ n, n = lg.length := ⟨_, rfl⟩
    obtain ⟨k, hk⟩ : ∃ n, n = ag.length := ⟨_, rfl⟩
    obtain ⟨j, hj⟩ : ∃ n, n = lay.length := ⟨_, rfl⟩
    obtain ⟨dl, hdl'⟩ : ∃ n, n = deck.length := ⟨_, rfl⟩
    obtain ⟨ol, hol'⟩ : ∃ n, n = other.length := ⟨_, rfl⟩
    rw [← hn, ← hk, ← hj] at hlen
    rw [← hn, ← hk, ← hj, ← hdl', ← hol']
    clear hn hk hj hul hml hyl hdl hol hU hM hY hD hO hdl' hol'
    by_cases h1 : 40 < n
    · have q1 : decide (40 < (n : Int)) = true := by simp; omega
      clear hlen
      go_enter Tryz.func3, Tryz.ntmps3
      go_wp2_with (go_at_call 6; refine (awake26_any _).mono ?_; rintro e w10 ⟨rfl, hb10⟩)
      go_ret
      exact ⟨rfl, hb10⟩
    · have q1 : decide (40 < (n : Int)) = false := by simp; omega
      by_cases h2 : 40 < k
      · have q2 : decide (40 < (k : Int)) = true := by simp; omega
        clear hlen
        go_enter Tryz.func3, Tryz.ntmps3
        go_wp2_with (go_at_call 6; refine (awake26_any _).mono ?_; rintro e w10 ⟨rfl, hb10⟩)
        go_ret
        exact ⟨rfl, hb10⟩
      · have q2 : decide (40 < (k : Int)) = false := by simp; omega
        have q3 : decide (20 < (j : Int)) = true := by simp; omega
        clear hlen
        go_enter Tryz.func3, Tryz.ntmps3
        go_wp2_with (go_at_call 6; refine (awake26_any _).mono ?_; rintro e w10 ⟨rfl, hb10⟩)
        go_ret
        exact ⟨rfl, hb10⟩
  have C1 := Lib.hid (few26_any D dc deck w hD hdl)
  have C2 : Hid (∀ W, Ints W 0 O other → _) := fun W h => terms26_any O oc other W h hol
  have hx5 : lg.length ≤ 40 := by omega
  have hx6 : ag.length ≤ 40 := by omega
  have hx7 : lay.length ≤ 20 := by omega
  obtain ⟨nu, hnu⟩ : ∃ k, k = lg.length := ⟨_, rfl⟩
  obtain ⟨nm, hnm⟩ : ∃ k, k = ag.length := ⟨_, rfl⟩
  obtain ⟨ny, hny⟩ : ∃ k, k = lay.length := ⟨_, rfl⟩
  have HNU := Lib.hid hnu
  have HNM := Lib.hid hnm
  have HNY := Lib.hid hny
  have q1 : decide (40 < (nu : Int)) = false := by simp; omega
  have q2 : decide (40 < (nm : Int)) = false := by simp; omega
  have q3 : decide (20 < (ny : Int)) = false := by simp; omega
  obtain ⟨m, hm⟩ : ∃ k, k = deck.length := ⟨_, rfl⟩
  obtain ⟨o, ho⟩ : ∃ k, k = other.length := ⟨_, rfl⟩
  rw [← hm] at C1
  rw [← ho] at C2
  rw [← hm, ← ho, ← hnu, ← hnm, ← hny]
  clear hm ho hnu hnm hny hdl hol hul hml hyl hlen
  go_enter Tryz.func3, Tryz.ntmps3
  go_wp2_with fail
  refine C1.out.mono ?_
  rintro e w1 ⟨LA, lc, los, last, AA, ac, am, rfl, hl10, hmade, hal, hall, hLo, hAm, hb1⟩
  have hL1 : Losses w1 0 LA los := hLo.low (Nat.zero_le _)
  have hA1 : Ints w1 0 AA am := hAm.low (Nat.zero_le _)
  have hal' : am.length ≤ 10 := by omega
  clear hmade hall hLo hAm C1 hal
  go_wp2_with fail
  refine (C2.out _ (hO.below hb1)).mono ?_
  rintro e w4 ⟨N, G, gc, ls, rfl, hN1, hN2, hl1, hl3, hlall, hG, hb2⟩
  have hG4 : Pairs w4 0 G ls := hG.low (Nat.zero_le _)
  have hb04 := hb1.trans (hb2.mono hb1.size)
  have hL4 := hL1.below hb2
  have hA4 := hA1.below hb2
  have hU4 := hU.below hb04
  have hM4 := hM.below hb04
  have hY4 := hY.below hb04
  clear hlall hG C2 hb1 hb2 hL1 hA1
  have E1 : Hid (∀ W, Below w4.heap.size w4 W → _) := fun W h => wbest_any U uc lg M mc ag length Y yc lay W (by omega) (by omega) (by omega) (hU4.below h) (hM4.below h) (hY4.below h)
  have E2 : Hid (∀ W, Below w4.heap.size w4 W → _) := fun W h => rbest_any U uc lg M mc ag length Y yc lay W (by omega) (by omega) (by omega) (hU4.below h) (hM4.below h) (hY4.below h)
  have E3 : Hid (∀ W, Below w4.heap.size w4 W → _) := fun W h => wbest_any LA lc los AA ac am N G gc ls W (by omega) (by omega) (by omega) (hL4.below h) (hA4.below h) (hG4.below h)
  have E4 : Hid (∀ W, Below w4.heap.size w4 W → _) := fun W h => rbest_any LA lc los AA ac am N G gc ls W (by omega) (by omega) (by omega) (hL4.below h) (hA4.below h) (hG4.below h)
  have z1 := bestW_len lg ag length lay
  have z2 := bestT_len lg ag length lay
  have z3 := bestR_len lg ag length lay
  have z4 := bestW_len los am N ls
  have z5 := bestT_len los am N ls
  have z6 := bestR_len los am N ls
  rw [← HNU.out, ← HNM.out, ← HNY.out] at E1 E2
  rw [← HNU.out] at z1 z2 z3 hx5
  obtain ⟨fw, hfw⟩ : ∃ k, k = bestW lg ag length lay := ⟨_, rfl⟩
  obtain ⟨ft, hft⟩ : ∃ k, k = bestT lg ag length lay := ⟨_, rfl⟩
  obtain ⟨fr, hfr⟩ : ∃ k, k = bestR lg ag length lay := ⟨_, rfl⟩
  obtain ⟨fe, hfe⟩ : ∃ k, k = bestE lg ag length lay := ⟨_, rfl⟩
  obtain ⟨gw, hgw⟩ : ∃ k, k = bestW los am N ls := ⟨_, rfl⟩
  obtain ⟨gt, hgt⟩ : ∃ k, k = bestT los am N ls := ⟨_, rfl⟩
  obtain ⟨gr, hgr⟩ : ∃ k, k = bestR los am N ls := ⟨_, rfl⟩
  obtain ⟨ge, hge⟩ : ∃ k, k = bestE los am N ls := ⟨_, rfl⟩
  rw [← hfw, ← hft, ← hfr, ← hfe] at E1 E2
  rw [← hgw, ← hgt, ← hgr, ← hge] at E3 E4
  rw [← hfw] at z1
  rw [← hft] at z2
  rw [← hfr] at z3
  rw [← hgw] at z4
  rw [← hgt] at z5
  rw [← hgr] at z6
  clear hfw hft hfr hfe hgw hgt hgr hge hL4 hA4 hG4 hU4 hM4 hY4
  obtain ⟨nl, hnl⟩ : ∃ k, k = los.length := ⟨_, rfl⟩
  obtain ⟨na, hna⟩ : ∃ k, k = am.length := ⟨_, rfl⟩
  obtain ⟨ng, hng⟩ : ∃ k, k = ls.length := ⟨_, rfl⟩
  rw [← hnl, ← hna, ← hng] at E3 E4
  rw [← hnl, ← hna, ← hng]
  rw [← hnl] at z4 z5 z6 hl10
  clear hnl hna hng hal' hl1 hl3 hx6 hx7
  have S1 : Hid (∀ (a1 a2 a3 b1 b2 b3 : Option Addr) (k1 k2 k3 l1 l2 l3 : Nat) (W : World), Wins W 0 a1 fw → Ints W 0 a2 ft → Ints W 0 a3 fr → Wins W 0 b1 fw → Ints W 0 b2 ft → Ints W 0 b3 fr → _) := fun a1 a2 a3 b1 b2 b3 k1 k2 k3 l1 l2 l3 W p1 p2 p3 p4 p5 p6 => sameChoice_self a1 a2 a3 b1 b2 b3 k1 k2 k3 l1 l2 l3 fw ft fr (sumI fr) W (by omega) (by omega) (by omega) p1 p2 p3 p4 p5 p6
  have S2 : Hid (∀ (a1 a2 a3 b1 b2 b3 : Option Addr) (k1 k2 k3 l1 l2 l3 : Nat) (W : World), Wins W 0 a1 gw → Ints W 0 a2 gt → Ints W 0 a3 gr → Wins W 0 b1 gw → Ints W 0 b2 gt → Ints W 0 b3 gr → _) := fun a1 a2 a3 b1 b2 b3 k1 k2 k3 l1 l2 l3 W p1 p2 p3 p4 p5 p6 => sameChoice_self a1 a2 a3 b1 b2 b3 k1 k2 k3 l1 l2 l3 gw gt gr (sumI gr) W (by omega) (by omega) (by omega) p1 p2 p3 p4 p5 p6
  obtain ⟨fs, hfs⟩ : ∃ k, k = sumI fr := ⟨_, rfl⟩
  obtain ⟨gs, hgs⟩ : ∃ k, k = sumI gr := ⟨_, rfl⟩
  rw [← hfs] at E1 E2 S1
  rw [← hgs] at E3 E4 S2
  clear hfs hgs
  go_wp2_with fail
  refine (E1.out _ (Below.refl _ _)).mono ?_
  rintro e w5 ⟨W1, wc1, T1, tc1, R1, rc1, rfl, hW1, hT1, hR1, hb5, _⟩
  obtain ⟨v5, hv5⟩ : ∃ x : World, x = w5.alloc (.cells #[.slice W1 fw.length wc1, .slice T1 ft.length tc1, .slice R1 fr.length rc1, .int .i64 fs] 32) := ⟨_, rfl⟩
  obtain ⟨p1, hp1⟩ : ∃ x : Nat, x = w5.heap.size := ⟨_, rfl⟩
  have hB1 : v5.heap[p1]? = some (.cells #[.slice W1 fw.length wc1, .slice T1 ft.length tc1, .slice R1 fr.length rc1, .int .i64 fs] 32 (0, 0)) := by rw [hv5, hp1]; exact heap_alloc_new _ _
  have hX1 : Below w5.heap.size w5 v5 := by rw [hv5]; exact below_alloc _ _
  go_wp2_with fail
  rw [← hv5, ← hp1]
  clear hv5 hp1
  have hd5 : Below w4.heap.size w4 v5 := hb5.trans (hX1.mono hb5.size)
  refine (E2.out _ hd5).mono ?_
  rintro e w6 ⟨W2, wc2, T2, tc2, R2, rc2, rfl, hW2, hT2, hR2, hb6⟩
  obtain ⟨v6, hv6⟩ : ∃ x : World, x = w6.alloc (.cells #[.slice W2 fw.length wc2, .slice T2 ft.length tc2, .slice R2 fr.length rc2, .int .i64 fs] 32) := ⟨_, rfl⟩
  obtain ⟨p2, hp2⟩ : ∃ x : Nat, x = w6.heap.size := ⟨_, rfl⟩
  have hB2 : v6.heap[p2]? = some (.cells #[.slice W2 fw.length wc2, .slice T2 ft.length tc2, .slice R2 fr.length rc2, .int .i64 fs] 32 (0, 0)) := by rw [hv6, hp2]; exact heap_alloc_new _ _
  have hX2 : Below w6.heap.size w6 v6 := by rw [hv6]; exact below_alloc _ _
  go_wp2_with fail
  rw [← hv6, ← hp2]
  clear hv6 hp2
  have hd6 : Below w4.heap.size w4 v6 := hd5.trans ((hb6.trans (hX2.mono hb6.size)).mono hd5.size)
  refine (E3.out _ hd6).mono ?_
  rintro e w7 ⟨W3, wc3, T3, tc3, R3, rc3, rfl, hW3, hT3, hR3, hb7, _⟩
  obtain ⟨v7, hv7⟩ : ∃ x : World, x = w7.alloc (.cells #[.slice W3 gw.length wc3, .slice T3 gt.length tc3, .slice R3 gr.length rc3, .int .i64 gs] 32) := ⟨_, rfl⟩
  obtain ⟨p3, hp3⟩ : ∃ x : Nat, x = w7.heap.size := ⟨_, rfl⟩
  have hB3 : v7.heap[p3]? = some (.cells #[.slice W3 gw.length wc3, .slice T3 gt.length tc3, .slice R3 gr.length rc3, .int .i64 gs] 32 (0, 0)) := by rw [hv7, hp3]; exact heap_alloc_new _ _
  have hX3 : Below w7.heap.size w7 v7 := by rw [hv7]; exact below_alloc _ _
  go_wp2_with fail
  rw [← hv7, ← hp3]
  clear hv7 hp3
  have hd7 : Below w4.heap.size w4 v7 := hd6.trans ((hb7.trans (hX3.mono hb7.size)).mono hd6.size)
  refine (E4.out _ hd7).mono ?_
  rintro e w8 ⟨W4, wc4, T4, tc4, R4, rc4, rfl, hW4, hT4, hR4, hb8⟩
  obtain ⟨v8, hv8⟩ : ∃ x : World, x = w8.alloc (.cells #[.slice W4 gw.length wc4, .slice T4 gt.length tc4, .slice R4 gr.length rc4, .int .i64 gs] 32) := ⟨_, rfl⟩
  obtain ⟨p4, hp4⟩ : ∃ x : Nat, x = w8.heap.size := ⟨_, rfl⟩
  have hB4 : v8.heap[p4]? = some (.cells #[.slice W4 gw.length wc4, .slice T4 gt.length tc4, .slice R4 gr.length rc4, .int .i64 gs] 32 (0, 0)) := by rw [hv8, hp4]; exact heap_alloc_new _ _
  have hX4 : Below w8.heap.size w8 v8 := by rw [hv8]; exact below_alloc _ _
  have hd8 : Below w4.heap.size w4 v8 := hd7.trans ((hb8.trans (hX4.mono hb8.size)).mono hd7.size)
  have y78 := hb8.trans (hX4.mono hb8.size)
  have y67 := hb7.trans (hX3.mono hb7.size)
  have y56 := hb6.trans (hX2.mono hb6.size)
  have y68 := y67.trans (y78.mono y67.size)
  have y58 := y56.trans (y68.mono y56.size)
  have hB1' := (y58.block _ (lt_of_heap0 hB1)).trans hB1
  have hB2' := (y68.block _ (lt_of_heap0 hB2)).trans hB2
  have hB3' := (y78.block _ (lt_of_heap0 hB3)).trans hB3
  have s1 := lt_of_heap0 hB1'
  have s2 := lt_of_heap0 hB2'
  have s3 := lt_of_heap0 hB3'
  have s4 := lt_of_heap0 hB4
  have S1' := Lib.hid (S1.out W1 T1 R1 W2 T2 R2 wc1 tc1 rc1 wc2 tc2 rc2 v8 (((hW1.below hX1).below y58).low (Nat.zero_le _)) (((hT1.below hX1).below y58).low (Nat.zero_le _)) (((hR1.below hX1).below y58).low (Nat.zero_le _)) (((hW2.below hX2).below y68).low (Nat.zero_le _)) (((hT2.below hX2).below y68).low (Nat.zero_le _)) (((hR2.below hX2).below y68).low (Nat.zero_le _)))
  have S2' : Hid (∀ W, Below v8.heap.size v8 W → _) := fun W h => S2.out W3 T3 R3 W4 T4 R4 wc3 tc3 rc3 wc4 tc4 rc4 W ((((hW3.below hX3).below y78).below h).low (Nat.zero_le _)) ((((hT3.below hX3).below y78).below h).low (Nat.zero_le _)) ((((hR3.below hX3).below y78).below h).low (Nat.zero_le _)) (((hW4.below hX4).below h).low (Nat.zero_le _)) (((hT4.below hX4).below h).low (Nat.zero_le _)) (((hR4.below hX4).below h).low (Nat.zero_le _))
  clear hW1 hT1 hR1 hW2 hT2 hR2 hW3 hT3 hR3 hW4 hT4 hR4 hX1 hX2 hX3 hX4 hB1 hB2 hB3 hb5 hb6 hb7 hb8 y78 y67 y56 y68 y58 hd5 hd6 hd7 E1 E2 E3 E4 S1 S2
  obtain ⟨l1, hl1⟩ : ∃ k, k = fw.length := ⟨_, rfl⟩
  obtain ⟨l2, hl2⟩ : ∃ k, k = ft.length := ⟨_, rfl⟩
  obtain ⟨l3, hl3⟩ : ∃ k, k = fr.length := ⟨_, rfl⟩
  obtain ⟨l4, hl4⟩ : ∃ k, k = gw.length := ⟨_, rfl⟩
  obtain ⟨l5, hl5⟩ : ∃ k, k = gt.length := ⟨_, rfl⟩
  obtain ⟨l6, hl6⟩ : ∃ k, k = gr.length := ⟨_, rfl⟩
  rw [← hl1, ← hl2, ← hl3] at S1' hB1' hB2'
  rw [← hl4, ← hl5, ← hl6] at S2' hB3' hB4 hv8
  rw [← hl1, ← hl2, ← hl3, ← hl4, ← hl5, ← hl6]
  clear hl1 hl2 hl3 hl4 hl5 hl6
  go_upto_region 9 with fail
  rw [← hv8, ← hp4]
  clear hv8 hp4
  have c10 : v8.cell? ⟨p1, 0, none⟩ = some (.slice W1 l1 wc1) := by simp [World.cell?, hB1']
  have c11 : v8.cell? ⟨p1, 1, none⟩ = some (.slice T1 l2 tc1) := by simp [World.cell?, hB1']
  have c12 : v8.cell? ⟨p1, 2, none⟩ = some (.slice R1 l3 rc1) := by simp [World.cell?, hB1']
  have c13 : v8.cell? ⟨p1, 3, none⟩ = some (.int .i64 fs) := by simp [World.cell?, hB1']
  have c20 : v8.cell? ⟨p2, 0, none⟩ = some (.slice W2 l1 wc2) := by simp [World.cell?, hB2']
  have c21 : v8.cell? ⟨p2, 1, none⟩ = some (.slice T2 l2 tc2) := by simp [World.cell?, hB2']
  have c22 : v8.cell? ⟨p2, 2, none⟩ = some (.slice R2 l3 rc2) := by simp [World.cell?, hB2']
  have c23 : v8.cell? ⟨p2, 3, none⟩ = some (.int .i64 fs) := by simp [World.cell?, hB2']
  go_wp2_with fail
  refine S1'.out.mono ?_
  rintro e w9 ⟨rfl, hb9⟩
  have hB3'' := (hb9.block _ s3).trans hB3'
  have hB4'' := (hb9.block _ s4).trans hB4
  clear c10 c11 c12 c13 c20 c21 c22 c23
  have c30 : w9.cell? ⟨p3, 0, none⟩ = some (.slice W3 l4 wc3) := by simp [World.cell?, hB3'']
  have c31 : w9.cell? ⟨p3, 1, none⟩ = some (.slice T3 l5 tc3) := by simp [World.cell?, hB3'']
  have c32 : w9.cell? ⟨p3, 2, none⟩ = some (.slice R3 l6 rc3) := by simp [World.cell?, hB3'']
  have c33 : w9.cell? ⟨p3, 3, none⟩ = some (.int .i64 gs) := by simp [World.cell?, hB3'']
  have c40 : w9.cell? ⟨p4, 0, none⟩ = some (.slice W4 l4 wc4) := by simp [World.cell?, hB4'']
  have c41 : w9.cell? ⟨p4, 1, none⟩ = some (.slice T4 l5 tc4) := by simp [World.cell?, hB4'']
  have c42 : w9.cell? ⟨p4, 2, none⟩ = some (.slice R4 l6 rc4) := by simp [World.cell?, hB4'']
  have c43 : w9.cell? ⟨p4, 3, none⟩ = some (.int .i64 gs) := by simp [World.cell?, hB4'']
  go_wp2_with fail
  refine (S2'.out _ hb9).mono ?_
  rintro e w10 ⟨rfl, hb10⟩
  have hd9 := hd8.trans (hb9.mono hd8.size)
  have hd10 := hd9.trans (hb10.mono hd9.size)
  have hb010 := hb04.trans (hd10.mono hb04.size)
  go_wp2_with (go_at_call 6; refine (awake26_any _).mono ?_; rintro e w11 ⟨rfl, hb11⟩)
  go_ret
  exact ⟨rfl, hb010.trans (hb11.mono hb010.size)⟩

end Go.Proofs.YtilkcailpkebdaaGreat
