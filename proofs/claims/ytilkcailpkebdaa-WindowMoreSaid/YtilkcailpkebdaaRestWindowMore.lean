/-
  Texts of the proof, one after the other.
-/
import Derived.Test.YtilkcailpkebdaaBase3
import Derived.Test.YtilkcailpkebdaaBase7
import Derived.Test.YtilkcailpkebdaaBase9
import Derived.RegionTactic
import Derived.Deep.DeepCutAuto

/-
  treatylaw26.WindowMore: the law's walk.
-/
namespace Go.Proofs.Ytilkcailpkebdaa
open Go.RowKit
set_option linter.unusedVariables false

def los99 (h p : Int) : Los := ⟨99, 0, 0, h, p, 0, 0, 0, 0, 0⟩
theorem shr4 (x : Int) : x / 16 = x / 16 := rfl
structure MoreB (los : List Los) (am bm : List Int) : Prop where
  len : bm.length = am.length
  ok : ∀ b ∈ bm, 0 ≤ b ∧ b ≤ 536870912
  more : ∀ x, amtW los am x ≤ amtW los bm x
theorem flat_setI (K : Nat) (x : Int) (ps : List Int) (h : K < ps.length) : (ps.flatMap V1).set K (.int .i64 x) = (ps.set K x).flatMap V1 := by
  have := Go.Proofs.Ytilkcailpkebdaa.flat_set1 V1 1 (fun _ => rfl) 0 (by omega) (.int .i64 x) x K ps ps[K] (List.getElem?_eq_getElem h) rfl
  rw [Nat.mul_one, Nat.add_zero] at this; exact this
theorem MoreB.refl {los : List Los} {am : List Int} (h : ∀ a ∈ am, 0 ≤ a ∧ a < 268435456) : MoreB los am am := ⟨rfl, fun b hb => by have := h b hb; omega, fun x => Int.le_refl _⟩
theorem MoreB.set {los : List Los} {am : List Int} (h : ∀ a ∈ am, 0 ≤ a ∧ a < 268435456) {k : Nat} {a d : Int} (hk : am[k]? = some a) (h0 : 0 ≤ d) (h1 : d ≤ 65535) : MoreB los am (am.set k (a + d)) := by
  refine ⟨List.length_set, fun b hb => ?_, amtW_set los am k a (a + d) hk (by omega)⟩
  have ha := h a (List.mem_of_getElem? hk)
  rcases List.mem_or_eq_of_mem_set hb with hb | rfl
  · have := h b hb; omega
  · omega

set_option maxRecDepth 100000 in
set_option maxHeartbeats 4000000 in
theorem lawMore (D : Option Addr) (dc : Nat) (deck : List Int) (O : Option Addr) (oc : Nat) (other : List Int) (at_ d hour : Int) (w : World)
    (hD : Ints w 0 D deck) (hO : Ints w 0 O other) (hdl : deck.length ≤ 9223372036854775807) (hol : other.length ≤ 9223372036854775807) (hd0 : 0 ≤ d) (hd1 : d ≤ 65535) (hh0 : 0 ≤ hour) (hh1 : hour ≤ 255) :
    Calls Try.prog 7 #[.slice D deck.length dc, .slice O other.length oc, .int .i64 at_, .int .u16 d, .int .u8 hour] w fun e w' => e = .returned (.bool true) ∧ Below w.heap.size w w' := by
  have C1 := Lib.hid (few26_any D dc deck w hD hdl)
  have C2 : Hid (∀ W, Ints W 0 O other → _) := fun W h => terms26_any O oc other W h hol
  obtain ⟨m0, hm0⟩ : ∃ k, k = deck.length := ⟨_, rfl⟩
  obtain ⟨o, ho⟩ : ∃ k, k = other.length := ⟨_, rfl⟩
  rw [← hm0] at C1
  rw [← ho] at C2
  rw [← hm0, ← ho]
  clear hm0 ho hdl hol
  obtain ⟨i0, hi0, hz0, hz1, hz2⟩ := info_parts Try.infoLoss
  obtain ⟨j0, hj0, jz0, jz1, jz2⟩ := info_parts Try.infoInt
  have hwd : IntKind.i64.wrap d = d := IntWalk.i64_in _ (by omega)
  have hwh : IntKind.i64.wrap hour = hour := IntWalk.i64_in _ (by omega)
  obtain ⟨T, hT⟩ : ∃ T, d.tmod 100 = T := ⟨_, rfl⟩
  have hT0 : 0 ≤ T := by rw [← hT]; exact Int.tmod_nonneg _ hd0
  have hT1 : T < 100 := by rw [← hT]; exact Int.tmod_lt_of_pos _ (by omega)
  have hT' : d % 100 = T := by rw [← hT, Int.tmod_eq_emod_of_nonneg hd0]
  obtain ⟨K, hK⟩ := Int.eq_ofNat_of_zero_le (show 0 ≤ at_ % 16 from Int.emod_nonneg _ (by omega))
  have hs1 : bits .and .i64 at_ 15 = (K : Int) := by rw [bits_mask 4 15 (by omega) (by decide)]; exact hK
  obtain ⟨P, hP⟩ := Int.eq_ofNat_of_zero_le (show 0 ≤ (at_ / 16) % 4 from Int.emod_nonneg _ (by omega))
  have hP3 : (P : Int) < 4 := by rw [← hP]; exact Int.emod_lt_of_pos _ (by omega)
  have hs2 : bits .and .i64 (at_ / 16) 3 = (P : Int) := by rw [bits_mask 2 3 (by omega) (by decide)]; exact hP
  clear hK hP
  go_enter Try.func7, Try.ntmps7
  go_wp2_with fail
  refine C1.out.mono ?_
  rintro e w1 ⟨LA, lc, los, last, AA, ac, am, rfl, hl10, hmade, hal, hall, hLo, hAm, hb1⟩
  have hL1 : Losses w1 0 LA los := hLo.low (Nat.zero_le _)
  have hA1 : Ints w1 0 AA am := hAm.low (Nat.zero_le _)
  have HCE := Lib.hid (chkE_made hmade (by omega) hal hall)
  have HMR := Lib.hid (made_range hmade)
  have HALL := Lib.hid hall
  have HLR : Hid (∀ l ∈ los, 0 ≤ l.hour ∧ l.hour ≤ 876599 ∧ 0 ≤ l.peril ∧ l.peril ≤ 15) := fun l hl => by have := HMR.out l hl; omega
  have HCB : Hid (∀ bm, MoreB los am bm → chkE los bm = 0) := fun bm h => chkE_small (by omega) (by rw [h.len]; exact hal) HLR.out h.ok
  have HC4 : Hid (chkE (los ++ [los99 hour P]) (am ++ [d]) = 0) := chkE_small (by rw [List.length_append, List.length_singleton]; omega) (by rw [List.length_append, List.length_append, hal]; rfl) (fun l hl => by
    rcases List.mem_append.1 hl with hl | hl
    · exact HLR.out l hl
    · obtain rfl : l = _ := by simpa using hl
      unfold los99; dsimp only; omega) (fun a ha => by
    rcases List.mem_append.1 ha with ha | ha
    · have := HALL.out a ha; omega
    · obtain rfl : a = _ := by simpa using ha
      omega)
  have HM4 : Hid (∀ x, amtW los am x ≤ amtW (los ++ [los99 hour P]) (am ++ [d]) x) := fun x => by rw [amtW_snoc los am _ _ hal]; split <;> omega
  clear hmade hall hLo hAm C1 HMR
  go_wp2_with fail
  refine (C2.out _ (hO.below hb1)).mono ?_
  rintro e w2 ⟨N, G, gc, ls, rfl, hN1, hN2, hl1, hl3, hlall, hG, hb2⟩
  have hG2 : Pairs w2 0 G ls := hG.low (Nat.zero_le _)
  have hb02 := hb1.trans (hb2.mono hb1.size)
  have HRE := Lib.hid (rec_ok (t := 0) (ls := ls) (by omega) hlall (by omega)).1
  have hL2 := hL1.below hb2
  have hA2 := hA1.below hb2
  clear hlall hG C2 hL1 hA1
  have B1 := Lib.hid (best_all HCE.out HRE.out hN1 (show N ≤ 8784 by omega)).1
  have B2 := Lib.hid (best_all HCE.out HRE.out (show 1 ≤ N + T by omega) (show N + T ≤ 8784 by omega)).1
  have B3 : Hid (∀ bm, MoreB los am bm → bestE los bm N ls = 0) := fun bm h => (best_all (HCB.out bm h) HRE.out hN1 (show N ≤ 8784 by omega)).1
  have B4 := Lib.hid (best_all HC4.out HRE.out hN1 (show N ≤ 8784 by omega)).1
  have M2 := Lib.hid (best_more (n := N) (n' := N + T) HCE.out HCE.out HRE.out hN1 (by omega) (by omega) (fun x => Int.le_refl _))
  have M3 : Hid (∀ bm, MoreB los am bm → sumI (bestR los am N ls) ≤ sumI (bestR los bm N ls)) := fun bm h => best_more HCE.out (HCB.out bm h) HRE.out hN1 (Int.le_refl _) (by omega) h.more
  have M4 := Lib.hid (best_more (n := N) (n' := N) HCE.out HC4.out HRE.out hN1 (Int.le_refl _) (by omega) HM4.out)
  have E1 := Lib.hid (wbest_any LA lc los AA ac am N G gc ls w2 (by omega) (by omega) (by omega) hL2 hA2 hG2)
  have E2 : Hid (∀ W, Below w2.heap.size w2 W → _) := fun W hb => wbest_any LA lc los AA ac am (N + T) G gc ls W (by omega) (by omega) (by omega) (hL2.below hb) (hA2.below hb) (hG2.below hb)
  have E3 : Hid (∀ (Y : Option Addr) (yc : Nat) (bm : List Int) W, bm.length = am.length → Ints W 0 Y bm → Below w2.heap.size w2 W → _) := fun Y yc bm W hlb h hb => wbest_any LA lc los Y yc bm N G gc ls W (by omega) (by omega) (by omega) (hL2.below hb) h (hG2.below hb)
  have E4 : Hid (∀ (X : Option Addr) (xc : Nat) (Y : Option Addr) (yc : Nat) W, Losses W 0 X (los ++ [los99 hour P]) → Ints W 0 Y (am ++ [d]) → Below w2.heap.size w2 W → _) := fun X xc Y yc W h1 h2 hb => wbest_any X xc (los ++ [los99 hour P]) Y yc (am ++ [d]) N G gc ls W (by rw [List.length_append, List.length_singleton]; omega) (by rw [List.length_append, List.length_singleton]; omega) (by omega) h1 h2 (hG2.below hb)
  rw [B1.out] at E1
  rw [B2.out] at E2
  rw [B4.out] at E4
  rw [List.length_append, List.length_append, List.length_singleton, List.length_singleton] at E4
  obtain ⟨s1, hs1'⟩ : ∃ k, k = sumI (bestR los am N ls) := ⟨_, rfl⟩
  rw [← hs1'] at E1 M2 M3 M4
  obtain ⟨nl, hnl⟩ : ∃ k, k = los.length := ⟨_, rfl⟩
  have hna : am.length = nl := by omega
  rw [← hnl, hna] at E1 E2 E3 E4
  rw [← hnl]
  rw [← hnl] at hl10
  have HNL := Lib.hid hnl
  have HNA := Lib.hid hna
  obtain ⟨ng, hng⟩ : ∃ k, k = ls.length := ⟨_, rfl⟩
  rw [← hng] at E1 E2 E3 E4
  rw [← hng]
  clear hs1' hnl hna hng B1 B2 B4 HCE HCB HC4 HM4 HRE hal hl1 hl3 hG2
  have hwN : IntKind.i64.wrap (N + T) = N + T := IntWalk.i64_in _ (by omega)
  go_wp2_with fail
  refine E1.out.mono ?_
  rintro e w3 ⟨W1, wc1, T1, tc1, R1, rc1, rfl, _, _, _, hb3, _⟩
  obtain ⟨v3, hv3⟩ : ∃ x : World, x = w3.alloc (.cells #[.slice W1 (bestW los am N ls).length wc1, .slice T1 (bestT los am N ls).length tc1, .slice R1 (bestR los am N ls).length rc1, .int .i64 s1] 46) := ⟨_, rfl⟩
  obtain ⟨p1, hp1⟩ : ∃ x : Nat, x = w3.heap.size := ⟨_, rfl⟩
  have hB1 : ∃ x y z, v3.heap[p1]? = some (.cells #[x, y, z, .int .i64 s1] 46 (0, 0)) := by rw [hv3, hp1]; exact ⟨_, _, _, heap_alloc_new _ _⟩
  obtain ⟨xa, xb, xc1, hB1⟩ := hB1
  have hX3 : Below w3.heap.size w3 v3 := by rw [hv3]; exact below_alloc _ _
  have hb23 := hb3.trans (hX3.mono hb3.size)
  clear hb3 hX3 E1
  go_upto_region 4 with fail
  rw [← hv3, ← hp1]
  clear hv3 hp1
  go_wp2_with fail
  refine (E2.out _ hb23).mono ?_
  rintro e w4 ⟨W2, wc2, T2, tc2, R2, rc2, rfl, _, _, _, hb4, _⟩
  have M2' := M2.out
  obtain ⟨s2, hs2'⟩ : ∃ k, k = sumI (bestR los am (N + T) ls) := ⟨_, rfl⟩
  rw [← hs2'] at M2' ⊢
  clear hs2' M2
  obtain ⟨v4, hv4⟩ : ∃ x : World, x = w4.alloc (.cells #[.slice W2 (bestW los am (N + T) ls).length wc2, .slice T2 (bestT los am (N + T) ls).length tc2, .slice R2 (bestR los am (N + T) ls).length rc2, .int .i64 s2] 46) := ⟨_, rfl⟩
  obtain ⟨p2, hp2⟩ : ∃ x : Nat, x = w4.heap.size := ⟨_, rfl⟩
  have hB2 : ∃ x y z, v4.heap[p2]? = some (.cells #[x, y, z, .int .i64 s2] 46 (0, 0)) := by rw [hv4, hp2]; exact ⟨_, _, _, heap_alloc_new _ _⟩
  obtain ⟨ya, yb, yc1, hB2⟩ := hB2
  have hX4 : Below w4.heap.size w4 v4 := by rw [hv4]; exact below_alloc _ _
  have hb34 := hb4.trans (hX4.mono hb4.size)
  have hb24 := hb23.trans (hb34.mono hb23.size)
  have hB14 := (hb34.block p1 (lt_of_heap0 hB1)).trans hB1
  have hA4 := hA2.below hb24
  clear hb4 hX4 E2 hT hT' hb23 hb34 hB1
  go_upto_region 5 with fail
  rw [← hv4, ← hp2]
  clear hv4 hp2
  have hsrc : SrcG V1 (v4.alloc (.cells #[] 3)) AA am := srcG_of_sl (k := 1) (fun _ => rfl) (by omega) (Ints.below hA4 (below_alloc _ _))
  go_wp2_with (at_builtin; refine wpList_append_src V1 rfl (.tmp 54) (.tmp 55) 23 rfl v4.heap.size 3 j0 _ 1 8 Try.underlying23 hj0 jz0 jz1 jz2 rfl (by decide) (by decide) (fun _ => rfl) int_one _ 0 [] rfl (own_void v4 3 1) AA nl ac am HNA.out.symm rfl hsrc (by omega) (by simp) ?_)
  intro v' w6 hown6 hg6
  have hb46 : Below v4.heap.size v4 w6 := (below_alloc v4 _).grown hg6 (by simp) (fun g hg => by simp [Value.ownBlock] at hg; omega)
  try simp only [List.nil_append, Nat.zero_add] at hown6
  clear hsrc hg6
  obtain ⟨V, vc, rfl, _⟩ := own_shape hown6
  go_upto_if 59 with fail
  go_cut [] (fun wz => ∃ bm : List Int, MoreB los am bm ∧ wz.ownsRow v4.heap.size 3 1 (.slice V nl vc) nl (bm.flatMap V1) ∧ Below v4.heap.size v4 wz)
  case first =>
    by_cases h0 : nl = 0
    · have q : decide (0 < (nl : Int)) = false := by simp; omega
      have HRF := Lib.hid (MoreB.refl (los := los) HALL.out)
      go_wp2_with fail
      go_meet
      exact ⟨am, HRF.out, hown6, hb46⟩
    · have q : decide (0 < (nl : Int)) = true := by simp; omega
      obtain ⟨g, c, hv, hgb, hgl⟩ := own_row_of hown6 h0
      obtain ⟨rfl, rfl⟩ : V = some ⟨g, 0, none⟩ ∧ vc = c := by injection hv with a1 a2 a3; exact ⟨a1, a3⟩
      obtain ⟨J, hJ, hJn⟩ : ∃ J : Nat, (K : Int) % (nl : Int) = (J : Int) ∧ J < nl := ⟨K % nl, by rw [Int.natCast_emod], Nat.mod_lt _ (by omega)⟩
      obtain ⟨a, ha, _⟩ := drop_cons (xs := am) (i := J) (by rw [HNA.out]; exact hJn)
      have har := HALL.out a (List.mem_of_getElem? ha)
      have c0 : w6.cell? ⟨g, J, none⟩ = some (.int .i64 a) := by
        rw [hown6.cellAt J (by omega)]
        have hf := flat_get V1 1 (fun _ => rfl) _ J _ ha 0 (by omega)
        rw [Nat.mul_one, Nat.add_zero] at hf
        exact hf
      have f0 := hown6.frozenAt J
      have HST := Lib.hid (hown6.stored J (.int .i64 (a + d))).1
      rw [flat_setI J _ _ (by rw [HNA.out]; exact hJn)] at HST
      have HMB := Lib.hid (MoreB.set (los := los) HALL.out ha hd0 hd1)
      have hwr : IntKind.i64.wrap (a + d) = a + d := IntWalk.i64_in _ (by omega)
      have hJ' : (J : Int) < (nl : Int) := by omega
      have hnz : ((nl : Int) == 0) = false := by simp; omega
      have HB := Lib.hid (hb46.setCell (p := ⟨g, J, none⟩) hgb (.int .i64 (a + d)))
      clear hv hown6 ha
      go_wp2_with fail
      go_meet
      exact ⟨am.set J (a + d), HMB.out, HST.out, HB.out⟩
  case rest =>
    obtain ⟨bm, hMB, hownB, hb4c⟩ := hcut
    have HMB := Lib.hid hMB
    have hIB : Ints wc 0 V bm := by
      have hlb : bm.length = nl := by rw [hMB.len]; exact HNA.out
      rw [← hlb] at hownB
      exact (ints_of_own hownB).low (Nat.zero_le _)
    have hb2c := hb24.trans (hb4c.mono hb24.size)
    have hlb := hMB.len.trans HNA.out
    have D3 := Lib.hid (E3.out V vc bm wc hlb hIB hb2c)
    rw [hlb, B3.out bm hMB] at D3
    clear hlb
    have M3' := M3.out bm hMB
    have hB1c := (hb4c.block p1 (lt_of_heap0 hB14)).trans hB14
    have hB2c := (hb4c.block p2 (lt_of_heap0 hB2)).trans hB2
    clear hMB hIB hownB E3 B3 M3 hown6 hb46 hB14 hB2 hs1
    go_wp2_with fail
    refine D3.out.mono ?_
    rintro e w7 ⟨W3, wc3, T3, tc3, R3, rc3, rfl, _, _, _, hb7, _⟩
    obtain ⟨s3, hs3'⟩ : ∃ k, k = sumI (bestR los bm N ls) := ⟨_, rfl⟩
    rw [← hs3'] at M3' ⊢
    clear hs3' D3
    obtain ⟨v7, hv7⟩ : ∃ x : World, x = w7.alloc (.cells #[.slice W3 (bestW los bm N ls).length wc3, .slice T3 (bestT los bm N ls).length tc3, .slice R3 (bestR los bm N ls).length rc3, .int .i64 s3] 46) := ⟨_, rfl⟩
    obtain ⟨p3, hp3⟩ : ∃ x : Nat, x = w7.heap.size := ⟨_, rfl⟩
    have hB3 : ∃ x y z, v7.heap[p3]? = some (.cells #[x, y, z, .int .i64 s3] 46 (0, 0)) := by rw [hv7, hp3]; exact ⟨_, _, _, heap_alloc_new _ _⟩
    obtain ⟨za, zb, zc1, hB3⟩ := hB3
    have hX7 : Below w7.heap.size w7 v7 := by rw [hv7]; exact below_alloc _ _
    have hbc7 := hb7.trans (hX7.mono hb7.size)
    have hB17 := (hbc7.block p1 (lt_of_heap0 hB1c)).trans hB1c
    have hB27 := (hbc7.block p2 (lt_of_heap0 hB2c)).trans hB2c
    have hb27 := hb2c.trans (hbc7.mono hb2c.size)
    have hL7 := hL2.below hb27
    have hA7 := hA2.below hb27
    clear hb7 hX7 hB1c hB2c hbc7 hb2c hb4c
    go_upto_region 9 with fail
    rw [← hv7, ← hp3]
    clear hv7 hp3
    have hsrc : SrcG Los.cells (v7.alloc (.cells #[] 55)) LA los := srcG_of_sl (k := 10) (fun _ => rfl) (by omega) (Losses.below hL7 (below_alloc _ _))
    go_wp2_with (at_builtin; refine wpList_append_src Los.cells rfl (.tmp 81) (.tmp 82) 22 rfl v7.heap.size 55 i0 _ 10 80 Try.underlying22 hi0 hz0 hz1 hz2 rfl (by decide) (by decide) (fun _ => rfl) los_one _ 0 [] rfl (own_void v7 55 10) LA nl lc los HNL.out rfl hsrc (by omega) (by simp) ?_)
    intro v1 w8 hown8 hg8
    have hb78 : Below v7.heap.size v7 w8 := (below_alloc v7 _).grown hg8 (by simp) (fun g hg => by simp [Value.ownBlock] at hg; omega)
    try simp only [List.nil_append, Nat.zero_add] at hown8
    clear hsrc hg8
    obtain ⟨V1a, vc1, rfl, _⟩ := own_shape hown8
    obtain ⟨w9, hw9⟩ : ∃ x : World, x = w8.alloc (.cells #[.int .i64 99, .int .i64 0, .int .i64 0, .int .i64 hour, .int .i64 (P : Int), .int .i64 0, .int .i64 0, .int .i64 0, .int .i64 0, .int .i64 0] 55) := ⟨_, rfl⟩
    have hb89 : Below w8.heap.size w8 w9 := by rw [hw9]; exact below_alloc _ _
    have hh9 : w9.heap[w8.heap.size]? = some (.cells #[.int .i64 99, .int .i64 0, .int .i64 0, .int .i64 hour, .int .i64 (P : Int), .int .i64 0, .int .i64 0, .int .i64 0, .int .i64 0, .int .i64 0] 55 (0, 0)) := by rw [hw9]; exact heap_alloc_new _ _
    have hown9 := own_below hown8 hb89
    have hsrc9 : SrcG Los.cells w9 (some ⟨w8.heap.size, 0, none⟩) [los99 hour P] := .inr ⟨_, rfl, fun j u hu => by
      rw [addr_at0]
      simp only [World.cell?, hh9]
      simpa [Los.cells, los99] using hu⟩
    have hb79 := hb78.trans (hb89.mono hb78.size)
    have h79 := hb79.size
    go_wp2_with (at_builtin; (try rw [← hw9]); refine wpList_append_src Los.cells rfl (.tmp 83) (.tmp 90) 22 rfl v7.heap.size 55 i0 _ 10 80 Try.underlying22 hi0 hz0 hz1 hz2 rfl (by decide) (by decide) (fun _ => rfl) los_one _ nl _ rfl hown9 _ 1 1 [los99 hour P] rfl rfl hsrc9 (by omega) h79 ?_)
    intro v2 w10 hown10 hg10
    (try rw [← hw9] at hg10)
    have hb710 : Below v7.heap.size v7 w10 := hb79.grown hg10 h79 (fun g hg => own_low hown9 g hg)
    have hown10 : w10.ownsRow v7.heap.size 55 10 v2 (nl + 1) ((los ++ [los99 hour P]).flatMap Los.cells) := by simpa [los99, Los.cells] using hown10
    clear hsrc9 hg10 hown9 hh9 hw9 hb89 hown8
    obtain ⟨V2a, vc2, rfl, _⟩ := own_shape hown10
    obtain ⟨wA, hwA⟩ : ∃ x : World, x = w10.alloc (.cells #[] 3) := ⟨_, rfl⟩
    have hbA : Below w10.heap.size w10 wA := by rw [hwA]; exact below_alloc _ _
    have hownA0 : wA.ownsRow w10.heap.size 3 1 (.slice (some ⟨w10.heap.size, 0, none⟩) 0 0) 0 [] := by rw [hwA]; exact own_void w10 3 1
    have hb7A := hb710.trans (hbA.mono hb710.size)
    have hsrcA : SrcG V1 wA AA am := srcG_of_sl (k := 1) (fun _ => rfl) (by omega) (Ints.below hA7 hb7A)
    have hownL := own_below hown10 hbA
    go_wp2_with (at_builtin; (try rw [← hwA]); refine wpList_append_src V1 rfl (.tmp 92) (.tmp 93) 23 rfl w10.heap.size 3 j0 _ 1 8 Try.underlying23 hj0 jz0 jz1 jz2 rfl (by decide) (by decide) (fun _ => rfl) int_one _ 0 [] rfl hownA0 AA nl ac am HNA.out.symm rfl hsrcA (by omega) hbA.size ?_)
    intro v3' w11 hown11 hg11
    (try rw [← hwA] at hg11)
    have hbA11 : Below w10.heap.size w10 w11 := hbA.grown hg11 hbA.size (fun g hg => own_low hownA0 g hg)
    try simp only [List.nil_append, Nat.zero_add] at hown11
    have hownL11 := own_below hown10 hbA11
    clear hsrcA hg11 hownA0 hownL hwA
    obtain ⟨V3a, vc3, rfl, _⟩ := own_shape hown11
    obtain ⟨w12, hw12⟩ : ∃ x : World, x = w11.alloc (.cells #[.int .i64 d] 3) := ⟨_, rfl⟩
    have hb12 : Below w11.heap.size w11 w12 := by rw [hw12]; exact below_alloc _ _
    have hh12 : w12.heap[w11.heap.size]? = some (.cells #[.int .i64 d] 3 (0, 0)) := by rw [hw12]; exact heap_alloc_new _ _
    have hown12 := own_below hown11 hb12
    have hsrc12 : SrcG V1 w12 (some ⟨w11.heap.size, 0, none⟩) [d] := .inr ⟨_, rfl, fun j u hu => by
      rw [addr_at0]
      simp only [World.cell?, hh12]
      simpa [V1] using hu⟩
    have hbA12 := hbA11.trans (hb12.mono hbA11.size)
    go_wp2_with (at_builtin; (try rw [← hw12]); refine wpList_append_src V1 rfl (.tmp 94) (.tmp 97) 23 rfl w10.heap.size 3 j0 _ 1 8 Try.underlying23 hj0 jz0 jz1 jz2 rfl (by decide) (by decide) (fun _ => rfl) int_one _ nl _ rfl hown12 _ 1 1 [d] rfl rfl hsrc12 (by omega) hbA12.size ?_)
    intro v4' w13 hown13 hg13
    (try rw [← hw12] at hg13)
    have hbA13 : Below w10.heap.size w10 w13 := hbA12.grown hg13 hbA12.size (fun g hg => own_low hown12 g hg)
    have hown13 : w13.ownsRow w10.heap.size 3 1 v4' (nl + 1) ((am ++ [d]).flatMap V1) := by simpa [V1] using hown13
    have hownL13 := own_below hown10 hbA13
    obtain ⟨V4a, vc4, rfl, _⟩ := own_shape hown13
    have hb713 := hb710.trans (hbA13.mono hb710.size)
    have hb213 := hb27.trans (hb713.mono hb27.size)
    have hLL : Losses w13 0 V2a (los ++ [los99 hour P]) := by
      have e : nl + 1 = (los ++ [los99 hour P]).length := by rw [List.length_append, List.length_singleton, ← HNL.out]
      rw [e] at hownL13
      exact (losses_of_own hownL13).low (Nat.zero_le _)
    have hII : Ints w13 0 V4a (am ++ [d]) := by
      have e : nl + 1 = (am ++ [d]).length := by rw [List.length_append, List.length_singleton, HNA.out]
      rw [e] at hown13
      exact (ints_of_own hown13).low (Nat.zero_le _)
    have D4 := Lib.hid (E4.out V2a vc2 V4a vc4 w13 hLL hII hb213)
    have hB113 := (hb713.block p1 (lt_of_heap0 hB17)).trans hB17
    have hB213 := (hb713.block p2 (lt_of_heap0 hB27)).trans hB27
    have hB313 := (hb713.block p3 (lt_of_heap0 hB3)).trans hB3
    have M4' := M4.out
    clear hsrc12 hg13 hown12 hh12 hw12 hownL13 hLL hII hown13 hownL11 hown11 hown10 E4 M4 hB17 hB27 hB3
    go_wp2_with fail
    refine D4.out.mono ?_
    rintro e w14 ⟨W4, wc4, T4, tc4, R4, rc4, rfl, _, _, _, hb14, _⟩
    obtain ⟨s4, hs4'⟩ : ∃ k, k = sumI (bestR (los ++ [los99 hour P]) (am ++ [d]) N ls) := ⟨_, rfl⟩
    rw [← hs4'] at M4' ⊢
    clear hs4' D4
    obtain ⟨v9, hv9⟩ : ∃ x : World, x = w14.alloc (.cells #[.slice W4 (bestW (los ++ [los99 hour P]) (am ++ [d]) N ls).length wc4, .slice T4 (bestT (los ++ [los99 hour P]) (am ++ [d]) N ls).length tc4, .slice R4 (bestR (los ++ [los99 hour P]) (am ++ [d]) N ls).length rc4, .int .i64 s4] 46) := ⟨_, rfl⟩
    obtain ⟨p4, hp4⟩ : ∃ x : Nat, x = w14.heap.size := ⟨_, rfl⟩
    have c4 : v9.cell? ⟨p4, 3, none⟩ = some (.int .i64 s4) := by rw [hv9, hp4]; simp
    have hX9 : Below w14.heap.size w14 v9 := by rw [hv9]; exact below_alloc _ _
    have hb139 := hb14.trans (hX9.mono hb14.size)
    have hB1z := (hb139.block p1 (lt_of_heap0 hB113)).trans hB113
    have hB2z := (hb139.block p2 (lt_of_heap0 hB213)).trans hB213
    have hB3z := (hb139.block p3 (lt_of_heap0 hB313)).trans hB313
    have c1 : v9.cell? ⟨p1, 3, none⟩ = some (.int .i64 s1) := by simp [World.cell?, hB1z]
    have c2 : v9.cell? ⟨p2, 3, none⟩ = some (.int .i64 s2) := by simp [World.cell?, hB2z]
    have c3 : v9.cell? ⟨p3, 3, none⟩ = some (.int .i64 s3) := by simp [World.cell?, hB3z]
    have q2 : decide (s1 ≤ s2) = true := by simpa using M2'
    have q3 : decide (s1 ≤ s3) = true := by simpa using M3'
    have q4 : decide (s1 ≤ s4) = true := by simpa using M4'
    have hb29 := hb213.trans (hb139.mono hb213.size)
    have hb09 := hb02.trans (hb29.mono hb02.size)
    clear hb14 hX9 hb139 hB1z hB2z hB3z hB113 hB213 hB313 M2' M3' M4'
    go_upto_region 10 with fail
    rw [← hv9, ← hp4]
    clear hv9 hp4
    go_wp2_with (go_at_call 27; refine (awake26_any _).mono ?_; rintro e wE ⟨rfl, hbE⟩)
    go_ret
    exact ⟨rfl, hb09.trans (hbE.mono hb09.size)⟩

end Go.Proofs.Ytilkcailpkebdaa
