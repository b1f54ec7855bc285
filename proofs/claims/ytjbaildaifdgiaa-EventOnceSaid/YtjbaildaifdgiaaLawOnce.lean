/-
  treatylaw25.EventOnce: the law's walk.
-/
import Derived.Test.YtjbaildaifdgiaaOnceW
namespace Go.Proofs.Ytjbaildaifdgiaa
open Go.RowKit
set_option linter.unusedVariables false

set_option maxRecDepth 100000 in
set_option maxHeartbeats 8000000 in
theorem lawOnce (D : Option Addr) (dc : Nat) (deck : List Int) (O : Option Addr) (oc : Nat) (other : List Int) (w : World) (hD : Ints w 0 D deck) (hO : Ints w 0 O other) (hdl : deck.length ≤ 9223372036854775807) (hol : other.length ≤ 9223372036854775807) :
    Calls Try.prog 10 #[.slice D deck.length dc, .slice O other.length oc] w fun e w' => e = .returned (.bool true) ∧ Below w.heap.size w w' := by
  have C1 := Lib.hid (few25_any D dc deck w hD hdl)
  have C2 : Hid (∀ W, Ints W 0 O other → _) := fun W h => new_any O oc other W hol h
  obtain ⟨nd, hnd⟩ : ∃ k, k = deck.length := ⟨_, rfl⟩
  obtain ⟨no, hno⟩ : ∃ k, k = other.length := ⟨_, rfl⟩
  rw [← hnd] at C1
  rw [← hno] at C2
  rw [← hnd, ← hno]
  clear hnd hno hdl hol
  go_enter Try.func10, Try.ntmps10
  go_wp2_with fail
  refine C1.out.mono ?_
  rintro e w1 ⟨u, v, los, last, am, rfl, hl12, hmade, hamn, hamb, hownL, hownA, hb1⟩
  have hE : chkE los am = 0 := chkE_made hmade (by omega) hamn hamb
  have hG := goodE_of hE
  obtain ⟨LA, lc, rfl, _⟩ := own_shape hownL
  obtain ⟨AA, ac, rfl, _⟩ := own_shape hownA
  obtain ⟨nm, hnl⟩ : ∃ k, k = los.length := ⟨_, rfl⟩
  have hnm : nm = am.length := by omega
  rw [← hnl] at hl12 hownL ⊢
  rw [← hnm] at hownA ⊢
  have HNL := Lib.hid hnl
  have HNM := Lib.hid hnm
  have HAMN := Lib.hid hamn
  have HHE := Lib.hid hE
  have HHG := Lib.hid hG
  have HAMB := Lib.hid hamb
  clear hmade C1 hnl hnm hamn hE hG hamb
  go_wp2_with fail
  refine (C2.out _ (hO.below hb1)).mono ?_
  rintro e w2 ⟨rfl, hdk, hb2, hs2⟩
  clear hs2
  go_wp2_with fail
  refine (mwindows_any _ 30 _ (by omega) (by omega) hdk).mono ?_
  rintro e w3 ⟨wv, ws, rfl, hw5, hwE, hownW, hdk3, hg3⟩
  have hb13 : Below w1.heap.size w1 w3 := below_of_only hb2 hg3 (Nat.le_refl _)
  have hb3 := hb1.trans (hb13.mono hb1.size)
  have hL3 := own_below hownL hb13
  have hA3 := own_below hownA hb13
  obtain ⟨WA, wc, rfl, hwc⟩ := own_shape hownW
  have hWlo : Wins w3 w1.heap.size WA ws := (wins_of_own hownW).low hb2.size
  have hW3 : Wins w3 0 WA ws := hWlo.low (Nat.zero_le _)
  have hLlt := own_lt hownL
  have hAlt := own_lt hownA
  have HLLT := Lib.hid hLlt
  have HALT := Lib.hid hAlt
  have h13 := hb13.size
  clear hLlt hAlt
  have hLr : Losses w3 0 LA los := (losses_of_ownO hL3 HNL.out).low (Nat.zero_le _)
  have hAr : Ints w3 0 AA am := (ints_of_ownO hA3 HNM.out).low (Nat.zero_le _)
  have hla : los.length ≤ 1000 := by rw [← HNL.out]; omega
  have hlm : am.length ≤ 1000 := by rw [← HNM.out]; omega
  have T1 := Lib.hid (totals_any LA lc los AA ac am WA wc ws w3 (by omega) (by omega) (by omega) hLr hAr hW3)
  have A1 : Hid (∀ W, Losses W 0 LA los → Wins W 0 WA ws → _) := fun W h h' => assign_any LA lc los WA wc ws W (by omega) (by omega) h h'
  have V1' : Hid (∀ W, Wins W 0 WA ws → _) := fun W h => validate_any WA wc ws 30 W (by omega) hwc h
  have hTF : totalsF los am ws = totF los am ws := by unfold totalsF; rw [if_pos HHE.out]
  rw [HHE.out, hTF] at T1
  rw [hwE] at V1'
  have HNN : Hid (∀ a ∈ am, 0 ≤ a) := fun a ha => (HAMB.out a ha).1
  have hsum := HHG.out.sum
  have HVA : Hid (∀ l, (cntW ws l = 1 ∧ 0 ≤ asgAt ws l) ∨ (cntW ws l = 0 ∧ ¬ 0 ≤ asgAt ws l)) := fun l => valid_asg hwE l
  have HST := Lib.hid (sum_totF los am ws)
  have HTL : Hid ((totF los am ws).length = ws.length) := totF_len los am ws
  have HAL : Hid ((asgF los ws).length = los.length) := by unfold asgF; rw [List.length_map]; rfl
  rw [HTL.out, ← HNL.out, ← HNM.out] at T1
  rw [HAL.out, ← HNL.out] at A1
  obtain ⟨nw, hnw⟩ : ∃ k, k = ws.length := ⟨_, rfl⟩
  rw [← hnw] at T1 A1 V1'
  rw [← hnw]
  rw [← hnw] at hw5 hwc
  have HNW := Lib.hid hnw
  clear hnw hTF hwE hownL hownA hdk hdk3 hg3 hb13 hb2 hownW hb1 C2 hla hlm
  go_wp2_with fail
  refine T1.out.mono ?_
  rintro e w4 ⟨TG, tg, rfl, hTG, hb4⟩
  go_wp2_with fail
  refine (A1.out _ (hLr.below hb4) (hW3.below hb4)).mono ?_
  rintro e w5 ⟨IG, ig, rfl, hIG, hb5⟩
  have hb35 := hb4.trans (hb5.mono hb4.size)
  have hTGl : Ints w5 w1.heap.size TG (totF los am ws) := (hTG.below hb5).low (by omega)
  have hTG5 := hTGl.low (Nat.zero_le _)
  have hIG5 := hIG.low (Nat.zero_le w4.heap.size)
  clear hTG hIG T1 A1
  go_wp2_with fail
  refine (V1'.out _ (hW3.below hb35)).mono ?_
  rintro e w6 ⟨rfl, hb6⟩
  have hb36 := hb35.trans (hb6.mono hb35.size)
  have hL6 := own_below hL3 hb36
  have hA6 := own_below hA3 hb36
  have hW6 := hW3.below hb36
  have hTG6 := hTG5.below hb6
  have hTGl6 := hTGl.below hb6
  have hWl6 := hWlo.below hb36
  have hIG6 := hIG5.below hb6
  have hb06 := hb3.trans (hb36.mono hb3.size)
  have hLr6 := hLr.below hb36
  have hAr6 := hAr.below hb36
  clear hb35 hb6 hb4 hb5 hTG5 hIG5 V1' hL3 hA3 hW3 hLr hAr hb36 hb3 hTGl hWlo h13
  go_wp2_with fail
  go_loopw [11, 12, 13, 15, 63] (fun s _ _ _ ii wr => ∃ (i : Nat) (t : Int), i ≤ nm ∧ ii = .int .i64 i ∧ s = .int .i64 t ∧ 0 ≤ t ∧ t + sumIn ((asgF los ws).drop i) (am.drop i) = sumIn (asgF los ws) am ∧ Below w6.heap.size w6 wr) (fun _ _ _ _ ii _ => nm - (intOf ii).toNat)
  case atStart => exact ⟨0, 0, Nat.zero_le _, rfl, rfl, by omega, by simp, Below.refl _ _⟩
  case round =>
    obtain ⟨i, t, hi, rfl, rfl, ht0, hts, hbr⟩ := hrel
    have HTS := Lib.hid hts
    have htb : t ≤ 17592186044416 := by
      have h1 := (sumIn_bd ((asgF los ws).drop i) (am.drop i) (fun a ha => HNN.out a (List.mem_of_mem_drop ha))).1
      have h2 := (sumIn_bd (asgF los ws) am HNN.out).2
      omega
    clear hts
    obtain ⟨wo, hwo⟩ : ∃ wo : World, wo = wr := ⟨_, rfl⟩
    rw [← hwo] at hbr ⊢
    clear hwo
    by_cases hin : i < nm
    case neg =>
      obtain rfl : i = nm := by omega
      have htv : t = sumI (totF los am ws) := by
        have := HTS.out
        rw [List.drop_of_length_le (by rw [HAL.out, ← HNL.out]; exact Nat.le_refl _)] at this
        rw [HST.out, ← this]; simp [sumIn]
      have HTV := Lib.hid htv
      have HTN : Hid (∀ x ∈ totF los am ws, 0 ≤ x) := fun x hx => by
        unfold totF at hx
        obtain ⟨j, _, rfl⟩ := List.mem_map.1 hx
        rw [totLoop_at]
        have : 0 ≤ sumI (((asgF los ws).zip am).map (at1 j)) := sumI_nn fun y hy => by
          obtain ⟨z, hz, rfl⟩ := List.mem_map.1 hy
          have := HNN.out z.2 (List.of_mem_zip hz).2
          unfold at1; split <;> omega
        omega
      have hTGo := hTG6.below hbr
      clear htv hin
      go_wp2_with fail
      go_loop [11, 17, 132] (fun s _ ii => ∃ (j : Nat) (t : Int), j ≤ nw ∧ ii = .int .i64 j ∧ s = .int .i64 t ∧ t = sumI ((totF los am ws).drop j) ∧ 0 ≤ t ∧ t ≤ 17592186044416) (fun _ _ ii => nw - (intOf ii).toNat)
      case atStart => exact ⟨0, t, Nat.zero_le _, rfl, rfl, by rw [List.drop_zero]; exact HTV.out, by omega, by omega⟩
      case round =>
        obtain ⟨j, t2, hj, rfl, rfl, ht2, ht20, ht2b⟩ := hrel
        have HT2 := Lib.hid ht2
        clear ht2
        by_cases hjn : j < nw
        · obtain ⟨x, hx, hxd⟩ := drop_cons (xs := totF los am ws) (i := j) (by rw [HTL.out, ← HNW.out]; exact hjn)
          obtain ⟨xb, xo, rfl, _, _, x0⟩ := hTGo.at_ hx
          have hx0 := HTN.out x (List.mem_of_getElem? hx)
          have hn2 : Hid (t2 - x = sumI ((totF los am ws).drop (j + 1))) := by show _ = _; rw [HT2.out, hxd, sumI]; omega
          have hn0 : 0 ≤ t2 - x := by rw [hn2.out]; exact sumI_nn fun y hy => HTN.out y (List.mem_of_mem_drop hy)
          clear hx hxd
          go_wp2_with fail
          go_round
          case rel => exact ⟨j + 1, t2 - x, by omega, by go_num, rfl, hn2.out, by omega, by omega⟩
          case measure => simp [intOf]; omega
        · obtain rfl : j = nw := by omega
          obtain rfl : t2 = 0 := by
            have := HT2.out
            rw [List.drop_of_length_le (by rw [HTL.out, ← HNW.out]; exact Nat.le_refl _)] at this
            exact this
          clear hjn
          go_wp2_with fail
          have hLo := own_below hL6 hbr
          have hAo := own_below hA6 hbr
          have HTY := Lib.hid (own_ty hLo hAo (by decide))
          go_loopw [18, 19] (fun si sk wr => ∃ (q : Nat) (ls : List Los) (ms : List Int), q ≤ i ∧ si = .int .i64 q ∧ sk = .int .i64 ((i : Int) - 1 - q) ∧ RevTo los ls q ∧ RevTo am ms q ∧ wr.ownsRow w.heap.size 65 10 (.slice LA i lc) i (ls.flatMap Los.cells) ∧ wr.ownsRow w.heap.size 3 1 (.slice AA i ac) i (ms.flatMap V1) ∧ Wins wr w1.heap.size WA ws ∧ Ints wr w1.heap.size TG (totF los am ws) ∧ Below w.heap.size w wr) (fun si _ _ => i - (intOf si).toNat)
          case atStart => exact ⟨0, los, am, Nat.zero_le _, rfl, by go_num, RevTo.start _, RevTo.start _, hLo, hAo, hWl6.below hbr, hTGl6.below hbr, hb06.trans (hbr.mono hb06.size)⟩
          case round =>
            obtain ⟨q, ls, ms, hq, rfl, rfl, hRL, hRA, hL, hA, hW, hT, hb⟩ := hrel
            have HRL := Lib.hid hRL
            have HRA := Lib.hid hRA
            clear hRL hRA hLo hAo
            by_cases hqk : q + q + 1 < i
            · obtain ⟨K, hK⟩ : ∃ K : Nat, K = i - 1 - q := ⟨_, rfl⟩
              have hKi : ((i : Int) - 1 - q) = (K : Int) := by omega
              rw [hKi]
              have hqK : q < K := by omega
              have hKn : K < i := by omega
              have HK := Lib.hid hK
              clear hK hKi
              rcases hL.2 with ⟨_, h00⟩ | ⟨gL, capL, curL, hvL, hgLb, _⟩
              · omega
              rcases hA.2 with ⟨_, h00⟩ | ⟨gA, capA, curA, hvA, hgAb, _⟩
              · omega
              obtain ⟨rfl, rfl⟩ : LA = some ⟨gL, 0, none⟩ ∧ lc = capL := by injection hvL with a1 a2 a3; exact ⟨a1, a3⟩
              obtain ⟨rfl, rfl⟩ : AA = some ⟨gA, 0, none⟩ ∧ ac = capA := by injection hvA with a1 a2 a3; exact ⟨a1, a3⟩
              have hLA : gL ≠ gA := fun e => (HTY.out gA rfl).elim (fun h => by cases h) (fun h => h (by rw [← e]; rfl))
              have hAL : ¬ gA = gL := fun e => hLA e.symm
              have hlsl : ls.length = i := by rw [HRL.out.1]; exact HNL.out.symm
              have hmsl : ms.length = i := by rw [HRA.out.1]; exact HNM.out.symm
              obtain ⟨x, hx, _⟩ := drop_cons (xs := ls) (i := q) (by omega)
              obtain ⟨y, hy, _⟩ := drop_cons (xs := ls) (i := K) (by omega)
              obtain ⟨a, ha, _⟩ := drop_cons (xs := ms) (i := q) (by omega)
              obtain ⟨b, hbb, _⟩ := drop_cons (xs := ms) (i := K) (by omega)
              have cx := flat_get Los.cells 10 (fun _ => rfl) ls q x hx
              have cy := flat_get Los.cells 10 (fun _ => rfl) ls K y hy
              have c0 : wr.cell? ⟨gL, q * 10, none⟩ = some (.int .i64 x.id) := by rw [hL.cellAt (q * 10) (by omega)]; exact cx 0 (by omega)
              have cf0 := hL.frozenAt (q * 10)
              have c1 : wr.cell? ⟨gL, q * 10 + 1, none⟩ = some (.int .i64 x.pol) := by rw [hL.cellAt (q * 10 + 1) (by omega)]; exact cx 1 (by omega)
              have cf1 := hL.frozenAt (q * 10 + 1)
              have c2 : wr.cell? ⟨gL, q * 10 + 2, none⟩ = some (.int .i64 x.risk) := by rw [hL.cellAt (q * 10 + 2) (by omega)]; exact cx 2 (by omega)
              have cf2 := hL.frozenAt (q * 10 + 2)
              have c3 : wr.cell? ⟨gL, q * 10 + 3, none⟩ = some (.int .i64 x.hour) := by rw [hL.cellAt (q * 10 + 3) (by omega)]; exact cx 3 (by omega)
              have cf3 := hL.frozenAt (q * 10 + 3)
              have c4 : wr.cell? ⟨gL, q * 10 + 4, none⟩ = some (.int .i64 x.peril) := by rw [hL.cellAt (q * 10 + 4) (by omega)]; exact cx 4 (by omega)
              have cf4 := hL.frozenAt (q * 10 + 4)
              have c5 : wr.cell? ⟨gL, q * 10 + 5, none⟩ = some (.int .i64 x.area) := by rw [hL.cellAt (q * 10 + 5) (by omega)]; exact cx 5 (by omega)
              have cf5 := hL.frozenAt (q * 10 + 5)
              have c6 : wr.cell? ⟨gL, q * 10 + 6, none⟩ = some (.int .i64 x.cur) := by rw [hL.cellAt (q * 10 + 6) (by omega)]; exact cx 6 (by omega)
              have cf6 := hL.frozenAt (q * 10 + 6)
              have c7 : wr.cell? ⟨gL, q * 10 + 7, none⟩ = some (.int .i64 x.sum) := by rw [hL.cellAt (q * 10 + 7) (by omega)]; exact cx 7 (by omega)
              have cf7 := hL.frozenAt (q * 10 + 7)
              have c8 : wr.cell? ⟨gL, q * 10 + 8, none⟩ = some (.int .i64 x.amt) := by rw [hL.cellAt (q * 10 + 8) (by omega)]; exact cx 8 (by omega)
              have cf8 := hL.frozenAt (q * 10 + 8)
              have c9 : wr.cell? ⟨gL, q * 10 + 9, none⟩ = some (.int .i64 x.paid) := by rw [hL.cellAt (q * 10 + 9) (by omega)]; exact cx 9 (by omega)
              have cf9 := hL.frozenAt (q * 10 + 9)
              have d0 : wr.cell? ⟨gL, K * 10, none⟩ = some (.int .i64 y.id) := by rw [hL.cellAt (K * 10) (by omega)]; exact cy 0 (by omega)
              have df0 := hL.frozenAt (K * 10)
              have d1 : wr.cell? ⟨gL, K * 10 + 1, none⟩ = some (.int .i64 y.pol) := by rw [hL.cellAt (K * 10 + 1) (by omega)]; exact cy 1 (by omega)
              have df1 := hL.frozenAt (K * 10 + 1)
              have d2 : wr.cell? ⟨gL, K * 10 + 2, none⟩ = some (.int .i64 y.risk) := by rw [hL.cellAt (K * 10 + 2) (by omega)]; exact cy 2 (by omega)
              have df2 := hL.frozenAt (K * 10 + 2)
              have d3 : wr.cell? ⟨gL, K * 10 + 3, none⟩ = some (.int .i64 y.hour) := by rw [hL.cellAt (K * 10 + 3) (by omega)]; exact cy 3 (by omega)
              have df3 := hL.frozenAt (K * 10 + 3)
              have d4 : wr.cell? ⟨gL, K * 10 + 4, none⟩ = some (.int .i64 y.peril) := by rw [hL.cellAt (K * 10 + 4) (by omega)]; exact cy 4 (by omega)
              have df4 := hL.frozenAt (K * 10 + 4)
              have d5 : wr.cell? ⟨gL, K * 10 + 5, none⟩ = some (.int .i64 y.area) := by rw [hL.cellAt (K * 10 + 5) (by omega)]; exact cy 5 (by omega)
              have df5 := hL.frozenAt (K * 10 + 5)
              have d6 : wr.cell? ⟨gL, K * 10 + 6, none⟩ = some (.int .i64 y.cur) := by rw [hL.cellAt (K * 10 + 6) (by omega)]; exact cy 6 (by omega)
              have df6 := hL.frozenAt (K * 10 + 6)
              have d7 : wr.cell? ⟨gL, K * 10 + 7, none⟩ = some (.int .i64 y.sum) := by rw [hL.cellAt (K * 10 + 7) (by omega)]; exact cy 7 (by omega)
              have df7 := hL.frozenAt (K * 10 + 7)
              have d8 : wr.cell? ⟨gL, K * 10 + 8, none⟩ = some (.int .i64 y.amt) := by rw [hL.cellAt (K * 10 + 8) (by omega)]; exact cy 8 (by omega)
              have df8 := hL.frozenAt (K * 10 + 8)
              have d9 : wr.cell? ⟨gL, K * 10 + 9, none⟩ = some (.int .i64 y.paid) := by rw [hL.cellAt (K * 10 + 9) (by omega)]; exact cy 9 (by omega)
              have df9 := hL.frozenAt (K * 10 + 9)
              have m0 : wr.cell? ⟨gA, q, none⟩ = some (.int .i64 a) := by
                rw [hA.cellAt q (by omega)]
                have hf := flat_get V1 1 (fun _ => rfl) ms q a ha 0 (by omega)
                rw [Nat.mul_one, Nat.add_zero] at hf; exact hf
              have m1 : wr.cell? ⟨gA, K, none⟩ = some (.int .i64 b) := by
                rw [hA.cellAt K (by omega)]
                have hf := flat_get V1 1 (fun _ => rfl) ms K b hbb 0 (by omega)
                rw [Nat.mul_one, Nat.add_zero] at hf; exact hf
              have mf0 := hA.frozenAt q
              have mf1 := hA.frozenAt K
              have HX := Lib.hid hx
              have HY := Lib.hid hy
              have HXA := Lib.hid ha
              have HXB := Lib.hid hbb
              have HLS := Lib.hid hlsl
              have HMS := Lib.hid hmsl
              clear hx hy ha hbb cx cy hlsl hmsl hvL hvA
              go_upto_region 32 with fail
              go_region
              go_wp2_with fail
              go_roundw
              case rel =>
                have hKl : K = los.length - 1 - q := by rw [HK.out, ← HNL.out]
                have hKa : K = am.length - 1 - q := by rw [HK.out, ← HNM.out]
                have R1 := HRL.out.next (x := x) (y := y) (by rw [← HNL.out]; exact hqk) HX.out (by rw [← hKl]; exact HY.out)
                have R2 := HRA.out.next (x := a) (y := b) (by rw [← HNM.out]; exact hqk) HXA.out (by rw [← hKa]; exact HXB.out)
                rw [← hKl] at R1
                rw [← hKa] at R2
                obtain ⟨f1, f2, f3, f4, f5⟩ := once_round ⟨hL, hA, hW, hT, hb⟩ hLA hqK HX.out HY.out HXA.out HXB.out hgLb hgAb (HLLT.out gL rfl) (HALT.out gA rfl)
                unfold put10 at f1 f2 f3 f4 f5
                exact ⟨q + 1, _, _, by omega, by go_num, val_int (by have := HK.out; omega), R1, R2, f1, f2, f3, f4, f5⟩
              case measure => simp [intOf]; omega
            · have hR1 := HRL.out.done (by rw [← HNL.out]; omega)
              have hR2 := HRA.out.done (by rw [← HNM.out]; omega)
              rw [hR1] at hL
              rw [hR2] at hA
              have hLr : Losses wr 0 LA los.reverse := (losses_of_ownO hL (by rw [List.length_reverse]; exact HNL.out)).low (Nat.zero_le _)
              have hAr : Ints wr 0 AA am.reverse := (ints_of_ownO hA (by rw [List.length_reverse]; exact HNM.out)).low (Nat.zero_le _)
              have hWr := hW.low (Nat.zero_le _)
              have hTr := hT.low (Nat.zero_le _)
              have T2 := Lib.hid (totals_any LA lc los.reverse AA ac am.reverse WA wc ws wr (by rw [List.length_reverse, ← HNL.out]; omega) (by rw [List.length_reverse, ← HNM.out]; omega) (by rw [← HNW.out]; omega) hLr hAr hWr)
              have hTF2 : totalsF los.reverse am.reverse ws = totF los am ws := by unfold totalsF; rw [if_pos (chkE_rev HHE.out), totF_rev ws HAMN.out]
              rw [hTF2, chkE_rev HHE.out, HTL.out, List.length_reverse, List.length_reverse, ← HNL.out, ← HNM.out, ← HNW.out] at T2
              have hz64 : (totF los am ws).length ≤ 9223372036854775807 := by rw [HTL.out, ← HNW.out]; omega
              have HZ64 := Lib.hid hz64
              have qk : decide ((q : Int) < (i : Int) - 1 - q) = false := by simp; omega
              clear hR1 hR2 hL hA hTF2 hz64
              go_wp2_with fail
              refine T2.out.mono ?_
              rintro e w8 ⟨UG, ug, rfl, hUG, hb8⟩
              have S1 := Lib.hid (sameInts_any TG UG tg ug (totF los am ws) (totF los am ws) w8 (hTr.below hb8) (hUG.low (Nat.zero_le _)) HZ64.out HZ64.out)
              rw [sameB_refl1, HTL.out, ← HNW.out] at S1
              have hb08 := hb.trans (hb8.mono hb.size)
              clear hb8 hUG T2
              go_wp2_with fail
              refine S1.out.mono ?_
              rintro e w9 ⟨rfl, hb9⟩
              have hb09 := hb08.trans (hb9.mono hb08.size)
              go_wp2_with (go_at_call 33; refine (awake25_any _).mono ?_; rintro e w11 ⟨rfl, hb11⟩)
              go_ret
              exact ⟨rfl, hb09.trans (hb11.mono hb09.size)⟩
    obtain ⟨l, hl, _⟩ := drop_cons (xs := los) (i := i) (by rw [← HNL.out]; exact hin)
    obtain ⟨a, ha, had⟩ := drop_cons (xs := am) (i := i) (by rw [← HNM.out]; exact hin)
    obtain ⟨g, hg, hgd⟩ := drop_cons (xs := asgF los ws) (i := i) (by rw [HAL.out, ← HNL.out]; exact hin)
    have hga : g = asgAt ws l := by
      unfold asgF at hg
      rw [List.getElem?_map, hl] at hg
      exact (Option.some.inj hg).symm
    obtain ⟨lb, lo, rfl, _, hlbl, _, _, _, l3, l4, _⟩ := (hLr6.below hbr).at_ hl
    obtain ⟨ab, ao, rfl, _, habl, a0⟩ := (hAr6.below hbr).at_ ha
    obtain ⟨gb, go, rfl, _, hgbl, g0⟩ := (hIG6.below hbr).at_ hg
    have haa := HNN.out a (List.mem_of_getElem? ha)
    have hnx := Lib.hid (sumIn_next hgd had HTS.out)
    have hab : t + a ≤ 35184372088832 := by
      have : a ≤ sumI am := mem_le_sumI HNN.out (List.mem_of_getElem? ha)
      omega
    have HVL := Lib.hid (HVA.out l)
    rw [← hga] at HVL
    clear hl ha hg had hgd hga
    go_wp2_with fail
    go_loopw [13, 15, 74] (fun n _ ii wr => ∃ (j : Nat) (c : Int), j ≤ nw ∧ ii = .int .i64 j ∧ n = .int .i64 c ∧ 0 ≤ c ∧ c ≤ j ∧ c + cntW (ws.drop j) l = cntW ws l ∧ Below wo.heap.size wo wr) (fun _ _ ii _ => nw - (intOf ii).toNat)
    case atStart => exact ⟨0, 0, Nat.zero_le _, rfl, rfl, by omega, by omega, by simp, Below.refl _ _⟩
    case round =>
      obtain ⟨j, c, hj, rfl, rfl, hc0, hcj, hcs, hbj⟩ := hrel
      have HCS := Lib.hid hcs
      clear hcs
      by_cases hjn : j < nw
      case neg =>
        obtain rfl : j = nw := by omega
        have hcv : c = cntW ws l := by
          have := HCS.out
          rw [List.drop_of_length_le (by rw [← HNW.out]; exact Nat.le_refl _)] at this
          simp [cntW] at this; exact this
        have g1 : wr.cell? ⟨gb, go + i, none⟩ = some (.int .i64 g) := (hbj.cell (p := ⟨gb, _, none⟩) hgbl).trans g0
        have a1 : wr.cell? ⟨ab, ao + i, none⟩ = some (.int .i64 a) := (hbj.cell (p := ⟨ab, _, none⟩) habl).trans a0
        have hbf := hbr.trans (hbj.mono hbr.size)
        rcases HVL.out with ⟨hc1, hg1⟩ | ⟨hc1, hg1⟩
        · obtain rfl : c = 1 := by rw [hcv, hc1]
          have qg : decide (0 ≤ g) = true := by simpa using hg1
          have hnx2 : Hid (t + a + sumIn ((asgF los ws).drop (i + 1)) (am.drop (i + 1)) = sumIn (asgF los ws) am) := by have := hnx.out; rw [if_pos hg1] at this; exact this
          clear hcv hc1 hg1
          go_wp2_with fail
          go_roundw
          case rel => exact ⟨i + 1, t + a, by omega, by go_num, rfl, by omega, hnx2.out, hbf⟩
          case measure => simp [intOf]; omega
        · obtain rfl : c = 0 := by rw [hcv, hc1]
          have qg : decide (0 ≤ g) = false := by simpa using hg1
          have hnx2 : Hid (t + sumIn ((asgF los ws).drop (i + 1)) (am.drop (i + 1)) = sumIn (asgF los ws) am) := by have := hnx.out; rw [if_neg (by omega), Int.add_zero] at this; exact this
          clear hcv hc1 hg1
          go_wp2_with fail
          go_roundw
          case rel => exact ⟨i + 1, t, by omega, by go_num, by go_num, by omega, hnx2.out, hbf⟩
          case measure => simp [intOf]; omega
      obtain ⟨x, hx, hxd⟩ := drop_cons (xs := ws) (i := j) (by rw [← HNW.out]; exact hjn)
      obtain ⟨xb, xo, rfl, _, _, x0, x1, x2⟩ := ((hW6.below hbr).below hbj).at_ hx
      have hcn := Lib.hid (cntW_next hxd HCS.out)
      obtain ⟨wb, hwb⟩ : ∃ wb : World, wb = wr.alloc (.cells #[.int .i64 x.peril, .int .i64 x.fr, .int .i64 x.to] 69) := ⟨_, rfl⟩
      have hbb : Below wr.heap.size wr wb := by rw [hwb]; exact (Below.refl _ _).alloc (Nat.le_refl _) _
      have hbjb := hbj.trans (hbb.mono hbj.size)
      have d0 : wb.cell? ⟨wr.heap.size, 0, none⟩ = some (.int .i64 x.peril) := by rw [hwb]; simp
      have d1 : wb.cell? ⟨wr.heap.size, 1, none⟩ = some (.int .i64 x.fr) := by rw [hwb]; simp
      have d2 : wb.cell? ⟨wr.heap.size, 2, none⟩ = some (.int .i64 x.to) := by rw [hwb]; simp
      have e3 : wb.cell? ⟨lb, lo + i * 10 + 3, none⟩ = some (.int .i64 l.hour) := (hbjb.cell (p := ⟨lb, _, none⟩) hlbl).trans l3
      have e4 : wb.cell? ⟨lb, lo + i * 10 + 4, none⟩ = some (.int .i64 l.peril) := (hbjb.cell (p := ⟨lb, _, none⟩) hlbl).trans l4
      go_upto_region 16 with fail
      rw [← hwb]
      clear hwb hx hxd x0 x1 x2 hbb hbj
      by_cases h1 : x.peril = l.peril
      · have q1 : (x.peril == l.peril) = true := by simpa using h1
        by_cases h2 : x.fr ≤ l.hour
        · have q2 : decide (x.fr ≤ l.hour) = true := by simpa using h2
          by_cases h3 : l.hour < x.to
          · have q3 : decide (l.hour < x.to) = true := by simpa using h3
            have hcov := (covers_iff x l).2 ⟨h1, h2, h3⟩
            have hcn2 : Hid (c + 1 + cntW (ws.drop (j + 1)) l = cntW ws l) := by have := hcn.out; rw [if_pos hcov] at this; exact this
            clear h1 h2 h3 hcov
            go_quiet (fail)
            go_wp2_with fail
            go_roundw
            case rel => exact ⟨j + 1, c + 1, by omega, by go_num, rfl, by omega, by omega, hcn2.out, below_drewN hbjb _⟩
            case measure => simp [intOf]; omega
          · have q3 : decide (l.hour < x.to) = false := by simpa using h3
            have hcov : ¬ covers x l = true := fun h => h3 ((covers_iff x l).1 h).2.2
            have hcn2 : Hid (c + cntW (ws.drop (j + 1)) l = cntW ws l) := by have := hcn.out; rw [if_neg hcov] at this; show _ = _; omega
            clear h1 h2 h3 hcov
            go_quiet (fail)
            go_wp2_with fail
            go_roundw
            case rel => exact ⟨j + 1, c, by omega, by go_num, rfl, by omega, by omega, hcn2.out, below_drewN hbjb _⟩
            case measure => simp [intOf]; omega
        · have q2 : decide (x.fr ≤ l.hour) = false := by simpa using h2
          have hcov : ¬ covers x l = true := fun h => h2 ((covers_iff x l).1 h).2.1
          have hcn2 : Hid (c + cntW (ws.drop (j + 1)) l = cntW ws l) := by have := hcn.out; rw [if_neg hcov] at this; show _ = _; omega
          clear h1 h2 hcov
          go_quiet (fail)
          go_wp2_with fail
          go_roundw
          case rel => exact ⟨j + 1, c, by omega, by go_num, rfl, by omega, by omega, hcn2.out, below_drewN hbjb _⟩
          case measure => simp [intOf]; omega
      · have q1 : (x.peril == l.peril) = false := by simpa using h1
        have hcov : ¬ covers x l = true := fun h => h1 ((covers_iff x l).1 h).1
        have hcn2 : Hid (c + cntW (ws.drop (j + 1)) l = cntW ws l) := by have := hcn.out; rw [if_neg hcov] at this; show _ = _; omega
        clear h1 hcov
        go_quiet (fail)
        go_wp2_with fail
        go_roundw
        case rel => exact ⟨j + 1, c, by omega, by go_num, rfl, by omega, by omega, hcn2.out, below_drewN hbjb _⟩
        case measure => simp [intOf]; omega

end Go.Proofs.Ytjbaildaifdgiaa
