/-
  event.Totals: its contract.
-/
import Derived.Test.YtjbaildaifdgiaaAsg2
import Derived.Test.YtjbaildaifdgiaaRChkE
namespace Go.Proofs.Ytjbaildaifdgiaa
open Go.RowKit
set_option linter.unusedVariables false

theorem asgF_len (los : List Los) (ws : List Win) : (asgF los ws).length = los.length := by simp [asgF]
theorem totF_len (los : List Los) (am : List Int) (ws : List Win) : (totF los am ws).length = ws.length := by simp [totF]

set_option maxHeartbeats 1000000 in
theorem totals_any (A : Option Addr) (c : Nat) (los : List Los) (M : Option Addr) (mc : Nat) (am : List Int) (B : Option Addr) (d : Nat) (ws : List Win) (w : World) (hll : los.length ≤ 9223372036854775807) (hal : am.length ≤ 9223372036854775807) (hwl : ws.length ≤ 1000) (hL : Losses w 0 A los) (hM : Ints w 0 M am) (hW : Wins w 0 B ws) :
    Calls Try.prog 40 #[.slice A los.length c, .slice M am.length mc, .slice B ws.length d] w fun e w' => ∃ G g, e = .returned (.tuple #[.slice G (totalsF los am ws).length g, .int .i64 (chkE los am)]) ∧ Ints w' w.heap.size G (totalsF los am ws) ∧ Below w.heap.size w w' := by
  have CC := Lib.hid (checkE_any A c los M mc am w hll hal hL hM)
  by_cases hce : chkE los am = 0
  case neg =>
    have HX : Hid (totalsF los am ws = []) := by unfold totalsF; rw [if_neg hce]; rfl
    have q0 : (chkE los am != 0) = true := by simpa using hce
    clear hce
    go_enter Try.func40, Try.ntmps40
    go_wp2_with (go_at_call 35; refine CC.out.mono ?_; rintro e w1 ⟨rfl, hb1⟩)
    go_ret2
    refine ⟨none, 0, by rw [HX.out]; rfl, by rw [HX.out]; exact Sl.none_, hb1⟩
  have HCE := Lib.hid hce
  have HX : Hid (totalsF los am ws = totF los am ws) := by unfold totalsF; rw [if_pos hce]; rfl
  have GG := Lib.hid (goodE_of hce)
  have HAM := Lib.hid (zip_amounts (goodE_of hce).same (goodE_of hce).all)
  have q0 : (chkE los am != 0) = false := by rw [hce]; rfl
  have hl64 := (goodE_of hce).len
  have CA : Hid (∀ W, Losses W 0 A los → Wins W 0 B ws → _) := fun W h h' => assign_any A c los B d ws W (by omega) (by omega) h h'
  rw [asgF_len] at CA
  clear hce
  obtain ⟨n, hn⟩ : ∃ n, n = los.length := ⟨_, rfl⟩
  obtain ⟨m, hm⟩ : ∃ m, m = ws.length := ⟨_, rfl⟩
  have HN := Lib.hid hn
  have HM := Lib.hid hm
  have HA : Hid (am.length = n) := by rw [hn]; exact GG.out.same
  rw [HA.out] at CC
  rw [HA.out]
  rw [← hn] at CC CA hl64
  rw [← hm] at CA hwl
  rw [← hn, ← hm]
  clear hn hm hll hal
  have hmk := run_make_row' (P := Try.prog) 24 3 (.int .i64 0) 8 Try.underlying24 Try.infoInt rfl .i64 .i64 m (by omega) (by omega)
  go_enter Try.func40, Try.ntmps40
  go_wp2_with (go_at_call 35; refine CC.out.mono ?_; rintro e w1 ⟨rfl, hb1⟩)
  have hrow0 := World.rowIs_made w1 (.int .i64 0) m 3
  have hba := hb1.alloc hb1.size (.cells (madeCells #[.int .i64 0] m) 3)
  have hbs := hb1.size
  obtain ⟨w2, hw2⟩ : ∃ w2 : World, w2 = w1.alloc (.cells (madeCells #[.int .i64 0] m) 3) := ⟨_, rfl⟩
  obtain ⟨g, hg⟩ : ∃ g, g = w1.heap.size := ⟨_, rfl⟩
  rw [← hw2] at hrow0 hba ⊢
  rw [← hg] at hrow0 ⊢
  have hgw : w.heap.size ≤ g := by omega
  clear hg hmk hw2 hb1
  refine (CA.out _ (hL.below hba) (hW.below hba)).mono ?_
  rintro e w3 ⟨G1, c1, rfl, hG1, hb3⟩
  have hg2 := hrow0.lt
  have hrow3 : w3.rowIs g 3 m (fun _ => .int .i64 0) := World.rowIs.of_block hrow0 (hb3.block g hg2)
  have hb03 := hba.trans (hb3.mono hba.size)
  clear hrow0 hb3
  go_wp2_with fail
  go_loopw [10, 11, 25] (fun _ _ ii wr => ∃ (i : Nat) (F : Nat → Int), i ≤ n ∧ ii = .int .i64 i ∧ wr.rowIs g 3 m (fun j => .int .i64 (F j)) ∧ (∀ j, 0 ≤ F j ∧ F j ≤ 17592186044416 * i) ∧ Below w.heap.size w wr ∧ Ints wr w2.heap.size G1 (asgF los ws) ∧ totLoop ((asgF los ws).drop i) (am.drop i) F = totLoop (asgF los ws) am fun _ => 0) (fun _ _ ii _ => n - (intOf ii).toNat)
  case atStart => exact ⟨0, fun _ => 0, Nat.zero_le _, rfl, hrow3, fun _ => by simp, hb03, hG1, rfl⟩
  case round =>
    obtain ⟨i, F, hi, rfl, hrow, hF, hb, hGr, hT⟩ := hrel
    have HF := Lib.hid hF
    have HT := Lib.hid hT
    clear hF hT hrow3 hb03 hG1
    by_cases hin : i < n
    case neg =>
      obtain rfl : i = n := by omega
      have h1 := HT.out
      rw [show i = (asgF los ws).length by rw [asgF_len, ← HN.out]] at h1
      have HE := Lib.hid (tot_end h1)
      clear h1
      go_wp2_with fail
      go_ret2
      refine ⟨some ⟨g, 0, none⟩, m, ?_, ?_, hb⟩
      · rw [HX.out, totF_len, ← HM.out, HCE.out]; rfl
      · rw [HX.out]
        refine ints_of_row (F := F) (by rw [totF_len, ← HM.out]; exact hrow) hgw fun j x hx => ?_
        unfold totF at hx
        rw [HE.out, List.getElem?_map, Option.map_eq_some_iff] at hx
        obtain ⟨k, hk, rfl⟩ := hx
        have := (List.getElem?_eq_some_iff.1 hk).2
        simp at this
        rw [this]
    obtain ⟨s, hs, hds⟩ := drop_cons (xs := asgF los ws) (i := i) (by rw [asgF_len, ← HN.out]; exact hin)
    obtain ⟨a, ha, hda⟩ := drop_cons (xs := am) (i := i) (by rw [HA.out]; exact hin)
    have hsb : s = -1 ∨ 0 ≤ s ∧ s < m := by
      simp only [asgF, List.getElem?_map, Option.map_eq_some_iff] at hs
      obtain ⟨l, _, rfl⟩ := hs
      have := asgAt_bd ws l
      rw [← HM.out] at this
      exact this
    have hab := HAM.out a (List.mem_of_getElem? ha)
    obtain ⟨b, off, rfl, hblo, hbl, s0⟩ := hGr.at_ hs
    obtain ⟨b2, off2, rfl, _, hbl2, a0⟩ := (hM.below hb).at_ ha
    have HDS := Lib.hid hds
    have HDA := Lib.hid hda
    clear hs hds ha hda
    by_cases h0 : 0 ≤ s
    case neg =>
      have hT2 := Lib.hid (tot_no HDS.out HDA.out HT.out h0)
      go_wp2_with fail
      go_roundw
      case rel => exact ⟨i + 1, F, by omega, by go_num, hrow, fun j => by have := HF.out j; omega, hb, hGr, hT2.out⟩
      case measure => simp [intOf]; omega
    obtain ⟨J, rfl⟩ := Int.eq_ofNat_of_zero_le h0
    have hJ : J < m := by omega
    have hT2 := Lib.hid (tot_yes HDS.out HDA.out HT.out h0)
    have x0 := hrow.cell hJ
    have xf := hrow.frozen J
    have hFJ := HF.out J
    clear hsb
    go_wp2_with fail
    go_region
    go_wp2_with fail
    go_roundw
    case rel =>
      refine ⟨i + 1, addTo F J a, by omega, by go_num, ?_, fun j => ?_, hb.drew.setCell hgw _, ?_, hT2.out⟩
      · refine ((World.rowIs.drew hrow).set J _).congr fun j _ => ?_
        unfold addTo
        by_cases hj : j = J
        · subst hj; simp
        · rw [if_neg hj, if_neg (by omega)]
      · have := HF.out j
        unfold addTo; split <;> omega
      · intro hp
        obtain ⟨b', off', e, h1, h2, hc⟩ := hGr hp
        refine ⟨b', off', e, h1, by simpa [World.setCell] using h2, fun i' x' hx' j' u' hu' => ?_⟩
        show (wr.setCell ⟨g, J, none⟩ (.int .i64 (F J + a))).cell? ⟨b', off' + i' * 1 + j', none⟩ = some u'
        rw [World.cell?_setCell_other _ _ _ _ (fun e => by injection e with e; omega)]
        exact hc i' x' hx' j' u' hu'
    case measure => simp [intOf]; omega

end Go.Proofs.Ytjbaildaifdgiaa
