/-
  Texts of the proof, one after the other.
-/
import Derived.Test.YtilkcailpkebdaaGreatBase4
import Derived.Test.YtilkcailpkebdaaGreatBase6
import Derived.Test.YtilkcailpkebdaaGreatBase1
import Derived.ChangeKeysEq
import Derived.Laws.StructEq
import Derived.Test.YtilkcailpkebdaaGreatBase3
import Derived.Lib.SliceRun
import Derived.Deep.DeepCutAuto
import Derived.Laws.OwnMore
import Derived.Laws.AppendOwn
import Derived.Test.YtilkcailpkebdaaGreatBase2

/-
  treatyref25.Check: its contract, at the same plain function.
-/
namespace Go.Proofs.YtilkcailpkebdaaGreat
open Go.RowKit
set_option linter.unusedVariables false

set_option maxHeartbeats 1000000 in
theorem rcheckE_any (A : Option Addr) (c : Nat) (los : List Los) (B : Option Addr) (d : Nat) (am : List Int) (w : World) (hll : los.length ≤ 9223372036854775807) (hal : am.length ≤ 9223372036854775807) (hL : Losses w 0 A los) (hM : Ints w 0 B am) :
    Calls Tryz.prog 63 #[.slice A los.length c, .slice B am.length d] w fun e w' => e = .returned (.int .i64 (chkE los am)) ∧ Below w.heap.size w w' := by
  obtain ⟨n, hn⟩ : ∃ n, n = los.length := ⟨_, rfl⟩
  obtain ⟨m, hm⟩ : ∃ m, m = am.length := ⟨_, rfl⟩
  rw [← hn] at hll ⊢
  rw [← hm] at hal ⊢
  have HN := Lib.hid hn
  have HM := Lib.hid hm
  by_cases hlim : 64 < los.length ∨ am.length ≠ los.length
  · have HR := Lib.hid (chkE_lim hlim)
    rw [← hn, ← hm] at hlim
    clear hn hm
    by_cases h1 : 64 < n
    · have q : decide (64 < (n : Int)) = true := by simp; omega
      go_enter Tryz.func63, Tryz.ntmps63
      go_wp2_with fail
      go_ret
      exact ⟨ret_int HR.out.symm, Below.refl _ _⟩
    · have q : decide (64 < (n : Int)) = false := by simp; omega
      have q2 : (m != n) = true := by simp; omega
      have q3 : ((m : Int) != (n : Int)) = true := by simp; omega
      clear hlim
      go_enter Tryz.func63, Tryz.ntmps63
      go_wp2_with fail
      go_ret
      exact ⟨ret_int HR.out.symm, Below.refl _ _⟩
  have HL := Lib.hid hlim
  have hn64 : n ≤ 64 := by omega
  obtain rfl : m = n := by omega
  have q : decide (64 < (m : Int)) = false := by simp; omega
  clear hlim hn hm
  go_enter Tryz.func63, Tryz.ntmps63
  go_wp2_with fail
  go_loopw [5, 6, 7, 20] (fun s _ _ ii wr => ∃ (k : Nat) (acc : Int), k ≤ m ∧ ii = .int .i64 k ∧ s = .int .i64 acc ∧ 0 ≤ acc ∧ acc ≤ 17592186044416 * k ∧ Below w.heap.size w wr ∧ ((los.zip am).drop k).all pairOk = (los.zip am).all pairOk ∧ acc + sumI (am.drop k) = sumI am) (fun _ _ _ ii _ => m - (intOf ii).toNat)
  case atStart => exact ⟨0, 0, Nat.zero_le _, rfl, rfl, by omega, by omega, Below.refl _ _, rfl, by simp⟩
  case round =>
    obtain ⟨k, acc, hk, rfl, rfl, h0, h1, hb, hall, hs⟩ := hrel
    have HA := Lib.hid hall
    have HS := Lib.hid hs
    clear hall hs
    by_cases hlt : k < m
    · obtain ⟨l, hl, _⟩ := drop_cons (xs := los) (i := k) (by rw [← HN.out]; exact hlt)
      obtain ⟨a, ha, hd⟩ := drop_cons (xs := am) (i := k) (by rw [← HM.out]; exact hlt)
      have HZ := Lib.hid (zip_get hl ha)
      have HD := Lib.hid hd
      obtain ⟨b, off, rfl, _, _, c0, c1, c2, c3, c4, c5, c6, c7, c8, c9⟩ := (hL.below hb).at_ hl
      obtain ⟨b2, off2, rfl, _, _, m0⟩ := (hM.below hb).at_ ha
      clear hl ha hd
      by_cases hok : pairOk (l, a) = true
      · obtain ⟨g1, g2, g3, g4, g5, g6⟩ := (pairOk_iff l a).1 hok
        have v1 : inHoursB l.hour = true := by simp [inHoursB]; omega
        have HO := Lib.hid hok
        clear hok
        go_wp2_with (go_at_call 87; refine (inHours_any _ _).mono ?_; rintro e w' ⟨rfl, rfl⟩)
        go_roundw
        case rel => exact ⟨k + 1, acc + a, by omega, by go_num, rfl, by omega, by omega, hb.alloc hb.size _, zall_next HZ.out HA.out HO.out, sumI_next HD.out HS.out⟩
        case measure => simp [intOf]; omega
      · have HR := Lib.hid (chkE_bad HL.out (zall_bad HZ.out (Bool.eq_false_iff.2 hok)))
        have hno : ¬ (0 ≤ l.hour ∧ l.hour ≤ 876599 ∧ 0 ≤ l.peril ∧ l.peril ≤ 15 ∧ 0 ≤ a ∧ a ≤ 17592186044416) := fun h => hok ((pairOk_iff l a).2 h)
        clear hok
        by_cases h1 : 0 ≤ l.hour ∧ l.hour ≤ 876599
        · have v1 : inHoursB l.hour = true := by simp [inHoursB]; omega
          have hno' : ¬ (0 ≤ l.peril ∧ l.peril ≤ 15 ∧ 0 ≤ a ∧ a ≤ 17592186044416) := by omega
          clear hno h1
          go_wp2_with (go_at_call 87; refine (inHours_any _ _).mono ?_; rintro e w' ⟨rfl, rfl⟩)
          all_goals first | (exfalso; omega) | (go_ret; exact ⟨ret_int HR.out.symm, hb.alloc hb.size _⟩)
        · have v1 : inHoursB l.hour = false := by simp [inHoursB]; omega
          clear hno h1
          go_wp2_with (go_at_call 87; refine (inHours_any _ _).mono ?_; rintro e w' ⟨rfl, rfl⟩)
          go_ret
          exact ⟨ret_int HR.out.symm, hb.alloc hb.size _⟩
    obtain rfl : k = m := by omega
    have hall : (los.zip am).all pairOk = true := by
      have := HA.out
      rw [List.drop_eq_nil_of_le (by rw [List.length_zip]; have := HN.out; omega)] at this
      exact this.symm
    have HR := Lib.hid (chkE_sum HL.out hall)
    have hs := HS.out
    rw [HM.out, List.drop_length, sumI, Int.add_zero] at hs
    have HSS := Lib.hid hs
    clear hs HS hall HA
    by_cases hov : 17592186044416 < acc
    · go_wp2_with fail
      go_ret
      exact ⟨ret_int (by rw [HR.out, ← HSS.out, if_pos (by omega)]), hb⟩
    · go_wp2_with fail
      go_ret
      exact ⟨ret_int (by rw [HR.out, ← HSS.out, if_neg (by omega)]), hb⟩

end Go.Proofs.YtilkcailpkebdaaGreat

/-
  event.Totals: its contract.
-/
namespace Go.Proofs.YtilkcailpkebdaaGreat
open Go.RowKit
set_option linter.unusedVariables false

theorem asgF_len (los : List Los) (ws : List Win) : (asgF los ws).length = los.length := by simp [asgF]
theorem totF_len (los : List Los) (am : List Int) (ws : List Win) : (totF los am ws).length = ws.length := by simp [totF]

set_option maxHeartbeats 1000000 in
theorem totals_any (A : Option Addr) (c : Nat) (los : List Los) (M : Option Addr) (mc : Nat) (am : List Int) (B : Option Addr) (d : Nat) (ws : List Win) (w : World) (hll : los.length ≤ 9223372036854775807) (hal : am.length ≤ 9223372036854775807) (hwl : ws.length ≤ 1000) (hL : Losses w 0 A los) (hM : Ints w 0 M am) (hW : Wins w 0 B ws) :
    Calls Tryz.prog 47 #[.slice A los.length c, .slice M am.length mc, .slice B ws.length d] w fun e w' => ∃ G g, e = .returned (.tuple #[.slice G (totalsF los am ws).length g, .int .i64 (chkE los am)]) ∧ Ints w' w.heap.size G (totalsF los am ws) ∧ Below w.heap.size w w' := by
  have CC := Lib.hid (checkE_any A c los M mc am w hll hal hL hM)
  by_cases hce : chkE los am = 0
  case neg =>
    have HX : Hid (totalsF los am ws = []) := by unfold totalsF; rw [if_neg hce]; rfl
    have q0 : (chkE los am != 0) = true := by simpa using hce
    clear hce
    go_enter Tryz.func47, Tryz.ntmps47
    go_wp2_with (go_at_call 29; refine CC.out.mono ?_; rintro e w1 ⟨rfl, hb1⟩)
    go_ret2
    refine ⟨none, 0, by rw [HX.out]; rfl, by rw [HX.out]; exact Sl.none_, hb1⟩
  have HCE := Lib.hid hce
  have HX : Hid (totalsF los am ws = totF los am ws) := by unfold totalsF; rw [if_pos hce]; rfl
  have GG := Lib.hid (goodE_of hce)
  have HAM := Lib.hid (zip_amounts (goodE_of hce).same (goodE_of hce).all)
  have q0 : (chkE los am != 0) = false := by rw [hce]; rfl
  have hl64 := (goodE_of hce).len
  have CA : Hid (∀ W, Losses W 0 A los → Wins W 0 B ws → _) := fun W h h' => assign_any A c los B d ws W (by omega) (by omega) h h'
  rw [asgF_len] at CA
  clear hce
  obtain ⟨n, hn⟩ : ∃ n, n = los.length := ⟨_, rfl⟩
  obtain ⟨m, hm⟩ : ∃ m, m = ws.length := ⟨_, rfl⟩
  have HN := Lib.hid hn
  have HM := Lib.hid hm
  have HA : Hid (am.length = n) := by rw [hn]; exact GG.out.same
  rw [HA.out] at CC
  rw [HA.out]
  rw [← hn] at CC CA hl64
  rw [← hm] at CA hwl
  rw [← hn, ← hm]
  clear hn hm hll hal
  have hmk := run_make_row' (P := Tryz.prog) 23 3 (.int .i64 0) 8 Tryz.underlying23 Tryz.infoInt rfl .i64 .i64 m (by omega) (by omega)
  go_enter Tryz.func47, Tryz.ntmps47
  go_wp2_with (go_at_call 29; refine CC.out.mono ?_; rintro e w1 ⟨rfl, hb1⟩)
  have hrow0 := World.rowIs_made w1 (.int .i64 0) m 3
  have hba := hb1.alloc hb1.size (.cells (madeCells #[.int .i64 0] m) 3)
  have hbs := hb1.size
  obtain ⟨w2, hw2⟩ : ∃ w2 : World, w2 = w1.alloc (.cells (madeCells #[.int .i64 0] m) 3) := ⟨_, rfl⟩
  obtain ⟨g, hg⟩ : ∃ g, g = w1.heap.size := ⟨_, rfl⟩
  rw [← hw2] at hrow0 hba ⊢
  rw [← hg] at hrow0 ⊢
  have hgw : w.heap.size ≤ g := by omega
  clear hg hmk hw2 hb1
  refine (CA.out _ (hL.below hba) (hW.below hba)).mono ?_
  rintro e w3 ⟨G1, c1, rfl, hG1, hb3⟩
  have hg2 := hrow0.lt
  have hrow3 : w3.rowIs g 3 m (fun _ => .int .i64 0) := World.rowIs.of_block hrow0 (hb3.block g hg2)
  have hb03 := hba.trans (hb3.mono hba.size)
  clear hrow0 hb3
  go_wp2_with fail
  go_loopw [10, 11, 25] (fun _ _ ii wr => ∃ (i : Nat) (F : Nat → Int), i ≤ n ∧ ii = .int .i64 i ∧ wr.rowIs g 3 m (fun j => .int .i64 (F j)) ∧ (∀ j, 0 ≤ F j ∧ F j ≤ 17592186044416 * i) ∧ Below w.heap.size w wr ∧ Ints wr w2.heap.size G1 (asgF los ws) ∧ totLoop ((asgF los ws).drop i) (am.drop i) F = totLoop (asgF los ws) am fun _ => 0) (fun _ _ ii _ => n - (intOf ii).toNat)
  case atStart => exact ⟨0, fun _ => 0, Nat.zero_le _, rfl, hrow3, fun _ => by simp, hb03, hG1, rfl⟩
  case round =>
    obtain ⟨i, F, hi, rfl, hrow, hF, hb, hGr, hT⟩ := hrel
    have HF := Lib.hid hF
    have HT := Lib.hid hT
    clear hF hT hrow3 hb03 hG1
    by_cases hin : i < n
    case neg =>
      obtain rfl : i = n := by omega
      have h1 := HT.out
      rw [show i = (asgF los ws).length by rw [asgF_len, ← HN.out]] at h1
      have HE := Lib.hid (tot_end h1)
      clear h1
      go_wp2_with fail
      go_ret2
      refine ⟨some ⟨g, 0, none⟩, m, ?_, ?_, hb⟩
      · rw [HX.out, totF_len, ← HM.out, HCE.out]; rfl
      · rw [HX.out]
        refine ints_of_row (F := F) (by rw [totF_len, ← HM.out]; exact hrow) hgw fun j x hx => ?_
        unfold totF at hx
        rw [HE.out, List.getElem?_map, Option.map_eq_some_iff] at hx
        obtain ⟨k, hk, rfl⟩ := hx
        have := (List.getElem?_eq_some_iff.1 hk).2
        simp at this
        rw [this]
    obtain ⟨s, hs, hds⟩ := drop_cons (xs := asgF los ws) (i := i) (by rw [asgF_len, ← HN.out]; exact hin)
    obtain ⟨a, ha, hda⟩ := drop_cons (xs := am) (i := i) (by rw [HA.out]; exact hin)
    have hsb : s = -1 ∨ 0 ≤ s ∧ s < m := by
      simp only [asgF, List.getElem?_map, Option.map_eq_some_iff] at hs
      obtain ⟨l, _, rfl⟩ := hs
      have := asgAt_bd ws l
      rw [← HM.out] at this
      exact this
    have hab := HAM.out a (List.mem_of_getElem? ha)
    obtain ⟨b, off, rfl, hblo, hbl, s0⟩ := hGr.at_ hs
    obtain ⟨b2, off2, rfl, _, hbl2, a0⟩ := (hM.below hb).at_ ha
    have HDS := Lib.hid hds
    have HDA := Lib.hid hda
    clear hs hds ha hda
    by_cases h0 : 0 ≤ s
    case neg =>
      have hT2 := Lib.hid (tot_no HDS.out HDA.out HT.out h0)
      go_wp2_with fail
      go_roundw
      case rel => exact ⟨i + 1, F, by omega, by go_num, hrow, fun j => by have := HF.out j; omega, hb, hGr, hT2.out⟩
      case measure => simp [intOf]; omega
    obtain ⟨J, rfl⟩ := Int.eq_ofNat_of_zero_le h0
    have hJ : J < m := by omega
    have hT2 := Lib.hid (tot_yes HDS.out HDA.out HT.out h0)
    have x0 := hrow.cell hJ
    have xf := hrow.frozen J
    have hFJ := HF.out J
    clear hsb
    go_wp2_with fail
    go_region
    go_wp2_with fail
    go_roundw
    case rel =>
      refine ⟨i + 1, addTo F J a, by omega, by go_num, ?_, fun j => ?_, hb.drew.setCell hgw _, ?_, hT2.out⟩
      · refine ((World.rowIs.drew hrow).set J _).congr fun j _ => ?_
        unfold addTo
        by_cases hj : j = J
        · subst hj; simp
        · rw [if_neg hj, if_neg (by omega)]
      · have := HF.out j
        unfold addTo; split <;> omega
      · intro hp
        obtain ⟨b', off', e, h1, h2, hc⟩ := hGr hp
        refine ⟨b', off', e, h1, by simpa [World.setCell] using h2, fun i' x' hx' j' u' hu' => ?_⟩
        show (wr.setCell ⟨g, J, none⟩ (.int .i64 (F J + a))).cell? ⟨b', off' + i' * 1 + j', none⟩ = some u'
        rw [World.cell?_setCell_other _ _ _ _ (fun e => by injection e with e; omega)]
        exact hc i' x' hx' j' u' hu'
    case measure => simp [intOf]; omega

end Go.Proofs.YtilkcailpkebdaaGreat

/-
  '==' and '!=' on [2]int.
-/
namespace Go.Proofs.YtilkcailpkebdaaGreat
open Go.RowKit
set_option linter.unusedVariables false

theorem Tryz.cellsInt : Tryz.prog.cellsOf 3 = 1 := by kernel_rfl
theorem part_int (xs : Array Value) (k : Nat) (n : Int) (hx : xs[k]? = some (.int .i64 n)) (w : World) : (part 3 xs k).run Tryz.prog w = .ok (.int .i64 n) w := by
  simp [part, hx]
theorem eq2_run (a b c d : Int) (w : World) : (Op.equalIn 10000 63 (.agg #[.int .i64 a, .int .i64 b]) (.agg #[.int .i64 c, .int .i64 d])).run Tryz.prog w = .ok (a == c && b == d) w := by
  obtain ⟨i, hi, _, h2, _⟩ := info_parts (show (Tryz.prog.info? 3).map (fun i => (i.zero, i.size, i.bytes)) = some (some (.int .i64 0), 1, 8) by kernel_rfl)
  rw [show (10000 : Nat) = 9999 + 1 from rfl, run_equalIn_array w 9999 _ _ Tryz.underlying63 hi]
  rw [Tryz.cellsInt, show List.range 2 = [0, 1] from rfl]
  simp only [Op.eqItems, Sem.run_bind]
  rw [part_int _ _ a rfl, Result.andThen_ok, part_int _ _ c rfl, Result.andThen_ok]
  rw [show (9999 : Nat) = 9998 + 1 from rfl, run_equalIn_int w 9998 _ _ _ a c Tryz.underlying3, Result.andThen_ok]
  by_cases h : a = c
  · have h1 : (a == c) = true := by simpa using h
    rw [h1]
    simp only [Bool.not_true, Bool.false_eq_true, if_false, Sem.run_bind, Bool.true_and]
    rw [part_int _ _ b rfl, Result.andThen_ok, part_int _ _ d rfl, Result.andThen_ok, run_equalIn_int w 9998 _ _ _ b d Tryz.underlying3, Result.andThen_ok]
    cases (b == d) <;> simp
  · have h1 : (a == c) = false := by simpa using h
    rw [h1]
    simp
theorem eql2 (a b c d : Int) (w : World) : (binOp .eql 63 (.agg #[.int .i64 a, .int .i64 b]) (.agg #[.int .i64 c, .int .i64 d])).run Tryz.prog w = .ok (.bool (a == c && b == d)) w := by
  rw [run_eql_struct, eq2_run, Result.andThen_ok]
theorem neq2 (a b c d : Int) (w : World) : (binOp .neq 63 (.agg #[.int .i64 a, .int .i64 b]) (.agg #[.int .i64 c, .int .i64 d])).run Tryz.prog w = .ok (.bool (!(a == c && b == d))) w := by
  rw [run_neq_struct, eq2_run, Result.andThen_ok]

end Go.Proofs.YtilkcailpkebdaaGreat

/-
  slices.Clone at []api.Window, treatyref25.SameWindows: their contracts.
-/
namespace Go.Proofs.YtilkcailpkebdaaGreat
open Go.RowKit
set_option linter.unusedVariables false

theorem Tryz.infoWindow : (Tryz.prog.info? 75).map (fun i => (i.zero, i.size, i.bytes)) = some (some (.agg #[.int .i64 0, .int .i64 0, .int .i64 0]), 3, 24) := by kernel_rfl

theorem own_void (w : World) (e : TypeId) (size : Nat) : (w.alloc (.cells #[] e)).ownsRow w.heap.size e size (.slice (some ⟨w.heap.size, 0, none⟩) 0 0) 0 [] :=
  ⟨by simp, .inr ⟨w.heap.size, 0, #[], rfl, Nat.le_refl _, heap_alloc_new w _, Nat.le_refl _, Nat.zero_le _, by simp, by simp⟩⟩
/-- The cells of a slice that reads as a list, flat. -/
theorem sl_cells {α : Type} {enc : α → List Value} {k : Nat} (hk : ∀ x, (enc x).length = k) (hk0 : 0 < k) {w : World} {lo b off : Nat} {xs : List α} (h : Sl w lo k (some ⟨b, off, none⟩) (xs.map enc)) : ∀ (j : Nat) (u : Value), (xs.flatMap enc)[j]? = some u → w.cell? (({ block := b, off := off } : Addr).add j) = some u := by
  intro j u hu
  have hl : j < xs.length * k := by
    have := (List.getElem?_eq_some_iff.1 hu).1
    rwa [flat_len enc k hk] at this
  have hi : j / k < xs.length := Nat.div_lt_of_lt_mul (by rw [Nat.mul_comm]; exact hl)
  obtain ⟨x, hx, _⟩ := drop_cons hi
  have hf := flat_get enc k hk xs (j / k) x hx (j % k) (Nat.mod_lt _ hk0)
  have hj : j / k * k + j % k = j := Nat.div_add_mod' j k
  rw [hj, hu] at hf
  obtain ⟨b', off', e, _, _, hc⟩ := h.at_ (i := j / k) (x := enc x) (by simp [hx])
  obtain ⟨rfl, rfl⟩ : b = b' ∧ off = off' := by simpa using e
  have hcc := hc (j % k) u hf.symm
  rw [Nat.add_assoc, hj] at hcc
  have ha : (({ block := b, off := off } : Addr).add j) = ⟨b, off + j, none⟩ := by
    unfold Addr.add; split
    · rename_i h0; rw [h0]; simp
    · rfl
  rw [ha]; exact hcc

set_option maxHeartbeats 1000000 in
theorem clone_any (A : Option Addr) (c : Nat) (ws : List Win) (w : World) (hl : ws.length ≤ 1000) (hW : Wins w 0 A ws) :
    Calls Tryz.prog 48 #[.slice A ws.length c] w fun e w' => ∃ v, e = .returned v ∧ w'.ownsRow w.heap.size 75 3 v ws.length (ws.flatMap Win.cells) ∧ Below w.heap.size w w' := by
  have hq := fun wx => Lib.run_eql_slice_nil (P := Tryz.prog) wx 30 75 A ws.length c 0 0 Tryz.underlying30
  rcases A with _ | ad
  · have hw : ws = [] := by
      cases ws with
      | nil => rfl
      | cons x xs => obtain ⟨b, off, e, _⟩ := hW (by simp); cases e
    subst hw
    simp only [List.length_nil, Option.isNone_none] at hq ⊢
    go_enter Tryz.func48, Tryz.ntmps48
    go_wp2_with fail
    go_ret
    exact ⟨_, rfl, own_nil _ _ _ _, Below.refl _ _⟩
  · simp only [Option.isNone_some] at hq
    obtain ⟨i0, hi, hz0, hz1, hz2⟩ := info_parts Tryz.infoWindow
    have hnews : ∀ (j : Nat) (u : Value), (ws.flatMap Win.cells)[j]? = some u → (w.alloc (.cells #[] 75)).cell? (ad.add j) = some u := by
      intro j u hu
      have h0 : 0 < (ws.map Win.cells).length := by
        have := (List.getElem?_eq_some_iff.1 hu).1
        rw [flat_len Win.cells 3 (fun _ => rfl)] at this
        simp; omega
      obtain ⟨b, off, e, _⟩ := hW h0
      obtain rfl : ad = ⟨b, off, none⟩ := Option.some.inj e
      have hs : Sl (w.alloc (.cells #[] 75)) 0 3 (some ⟨b, off, none⟩) (ws.map Win.cells) := Wins.below hW (below_alloc1 _ _)
      exact sl_cells (enc := Win.cells) (k := 3) (fun _ => rfl) (by omega) hs j u hu
    obtain ⟨n, hn⟩ : ∃ n, n = ws.length := ⟨_, rfl⟩
    have HN := Lib.hid hn
    rw [← hn] at hl hq ⊢
    clear hn
    go_enter Tryz.func48, Tryz.ntmps48
    go_wp2_with (at_builtin; refine wpList_append_own _ rfl (.tmp 5) (.tmp 6) 30 rfl w.heap.size 75 i0 _ 3 24 Tryz.underlying30 hi hz0 hz1 hz2 rfl (by decide) _ 0 [] rfl (own_void w 75 3) ad n c (ws.flatMap Win.cells) rfl ?c0 hnews ?c2 ?c3 ?c4 ?c5 ?_)
    case c0 => rw [flat_len Win.cells 3 (fun _ => rfl), ← HN.out]
    case c2 =>
      intro u hu
      obtain ⟨x, _, hx⟩ := List.mem_flatMap.1 hu
      simp [Win.cells] at hx
      rcases hx with rfl | rfl | rfl <;> rfl
    case c3 => unfold maxLen; omega
    case c4 => omega
    case c5 => simp
    intro v' w5 hown5 hg5 _
    have hb45 : Below w.heap.size w w5 := (below_alloc1 w _).grown hg5 (by simp) (fun g hg => by simp [Value.ownBlock] at hg; omega)
    clear hq hnews
    go_wp2_with fail
    go_ret
    exact ⟨v', rfl, hown5, hb45⟩

set_option maxHeartbeats 1000000 in
theorem sameWindows_self (A B : Option Addr) (c d : Nat) (ws : List Win) (w : World) (hl : ws.length ≤ 9223372036854775807) (hA : Wins w 0 A ws) (hB : Wins w 0 B ws) :
    Calls Tryz.prog 42 #[.slice A ws.length c, .slice B ws.length d] w fun e w' => e = .returned (.bool true) ∧ Below w.heap.size w w' := by
  obtain ⟨n, hn⟩ : ∃ n, n = ws.length := ⟨_, rfl⟩
  rw [← hn] at hl ⊢
  have HN := Lib.hid hn
  clear hn
  go_enter Tryz.func42, Tryz.ntmps42
  go_wp2_with fail
  go_loopw [5, 13] (fun _ ii wr => ∃ i : Nat, ii = .int .i64 i ∧ i ≤ n ∧ Below w.heap.size w wr) (fun _ ii _ => n - (intOf ii).toNat)
  case atStart => exact ⟨0, rfl, Nat.zero_le _, Below.refl _ _⟩
  case round =>
    obtain ⟨i, rfl, hi, hb⟩ := hrel
    by_cases hin : i < n
    · obtain ⟨x, hx, _⟩ := drop_cons (xs := ws) (i := i) (by rw [← HN.out]; exact hin)
      obtain ⟨b1, o1, rfl, _, _, c0, c1, c2⟩ := (hA.below hb).at_ hx
      obtain ⟨b2, o2, rfl, _, _, e0, e1, e2⟩ := (hB.below hb).at_ hx
      clear hx
      go_wp2_with fail
      go_quiet (fail)
      go_wp2_with fail
      go_roundw
      case rel => exact ⟨i + 1, by go_num, by omega, below_drewN hb _⟩
      case measure => simp [intOf]; omega
    · go_wp2_with fail
      go_ret
      exact ⟨rfl, hb⟩

end Go.Proofs.YtilkcailpkebdaaGreat

/-
  treatymade2.Windows: valid windows for a length.
-/
namespace Go.Proofs.YtilkcailpkebdaaGreat
open Go.RowKit
set_option linter.unusedVariables false

theorem lt_of_heap {w : World} {b : Nat} {o : Obj} (h : w.heap[b]? = some o) : b < w.heap.size := by
  rcases Nat.lt_or_ge b w.heap.size with hlt | hge
  · exact hlt
  · rw [Array.getElem?_eq_none hge] at h; cases h
theorem own_low1 {w : World} {base base' : Nat} {e : TypeId} {size n : Nat} {v : Value} {xs : List Value} (h : w.ownsRow base e size v n xs) (hb : base' ≤ base) : w.ownsRow base' e size v n xs := by
  refine ⟨h.1, ?_⟩
  rcases h.2 with h0 | ⟨g, cap, cur, hv, hg, r⟩
  · exact .inl h0
  · exact .inr ⟨g, cap, cur, hv, by omega, r⟩

set_option maxRecDepth 100000 in
set_option maxHeartbeats 4000000 in
theorem mwindows_any (bd : Nat) (N : Int) (w : World) (hN0 : 1 ≤ N) (hN : N ≤ 1000) (hd : Deck w bd) :
    Calls Tryz.prog 19 #[.pointer (some ⟨bd, 0, none⟩), .int .i64 N] w fun e w' => ∃ (v : Value) (xs : List Win), e = .returned v ∧ xs.length ≤ 5 ∧ winsE xs N = 0 ∧ w'.ownsRow w.heap.size 75 3 v xs.length (xs.flatMap Win.cells) ∧ Deck w' bd ∧ w.grownBy w' (some bd) := by
  obtain ⟨i0, hi, hz0, hz1, hz2⟩ := info_parts Tryz.infoWindow
  have hlt := hd.lt
  go_enter Tryz.func19, Tryz.ntmps19
  go_wp2_with fail
  obtain ⟨w0, hw0⟩ : ∃ w0 : World, w0 = w.alloc (.cells #[.int .i64 0, .int .i64 0, .int .i64 0] 88) := ⟨_, rfl⟩
  have hh0 : w0.heap[w.heap.size]? = some (.cells #[.int .i64 0, .int .i64 0, .int .i64 0] 88 (0, 0)) := by rw [hw0]; exact heap_alloc_new w _
  have hd0 : Deck w0 bd := by rw [hw0]; exact hd.below (below_alloc1 _ _)
  have hg0 : w.grownBy w0 (some bd) := by rw [hw0]; exact only_alloc (only_refl _ _) _
  have hs0 : w0.heap.size = w.heap.size + 1 := by rw [hw0]; simp
  obtain ⟨bf, hbf⟩ : ∃ bf, bf = w.heap.size := ⟨_, rfl⟩
  rw [← hbf] at hh0
  have hbb : bd < bf := by omega
  have hbw : w.heap.size ≤ bf := by omega
  rw [← hw0, ← hbf]
  have HBF := Lib.hid hbf
  clear hw0 hbf hd
  refine (next_any bd 6 w0 (by omega) (by omega) hd0).mono ?_
  rintro e w1 ⟨r, rfl, hr0, hr1, hd1, hg1⟩
  have hh1 : w1.heap[bf]? = some (.cells #[.int .i64 0, .int .i64 0, .int .i64 0] 88 (0, 0)) := (hg1.block bf (lt_of_heap hh0) (fun e => by injection e with e; omega)).trans hh0
  have hg01 := only_trans hg0 hg1
  clear hh0 hd0 hg0 hg1
  have hs0' : w0.heap.size ≤ bf + 1 := by have := HBF.out; omega
  clear hs0
  go_wp2_with fail
  go_loopw [5, 7, 8, 9, 10, 11] (fun v t pp k _ _ wr => ∃ (xs : List Win) (fr per : Int) (kk : Nat) (a b c : Int), t = .int .i64 fr ∧ pp = .int .i64 per ∧ k = .int .i64 kk ∧ xs.length + kk ≤ 5 ∧ 0 ≤ fr ∧ fr + 19 * (kk : Int) ≤ 95 ∧ -1 ≤ per ∧ per ≤ 2 ∧ 0 ≤ a ∧ a ≤ 2000 ∧ 0 ≤ b ∧ b ≤ 2000 ∧ 0 ≤ c ∧ c ≤ 2000 ∧ MadeW N xs fr per (free3 a b c) ∧ wr.heap[bf]? = some (.cells #[.int .i64 a, .int .i64 b, .int .i64 c] 88 (0, 0)) ∧ wr.ownsRow (bf + 1) 75 3 v xs.length (xs.flatMap Win.cells) ∧ Deck wr bd ∧ w.grownBy wr (some bd)) (fun _ _ _ k _ _ _ => (intOf k).toNat)
  case atStart =>
    obtain ⟨rn, rfl⟩ := Int.eq_ofNat_of_zero_le hr0
    exact ⟨[], 0, -1, rn, 0, 0, 0, rfl, rfl, rfl, by simp; omega, by omega, by omega, by omega, by omega, by omega, by omega, by omega, by omega, by omega, by omega, MadeW.nil _ _, hh1, own_nil _ _ _ _, hd1, hg01⟩
  case round =>
    obtain ⟨xs, fr, per, kk, a, b, c, rfl, rfl, rfl, hkn, hf0, hf1, hp0, hp1, ha0, ha1, hb0, hb1, hc0, hc1, hmade, hh, hown, hdk, hgr⟩ := hrel
    have HMADE := Lib.hid hmade
    clear hmade hh1 hg01 hd1
    by_cases hk : 0 < kk
    case neg =>
      obtain rfl : kk = 0 := by omega
      go_wp2_with fail
      go_ret
      exact ⟨_, xs, rfl, by omega, HMADE.out.winsE (by omega) (by omega) (by omega), own_low1 hown (by omega), hdk, hgr⟩
    go_wp2_with fail
    refine (next_any bd 20 wr (by omega) (by omega) hdk).mono ?_
    rintro e w2 ⟨st, rfl, hst0, hst1, hd2, hg2⟩
    have hh2 : w2.heap[bf]? = some (.cells #[.int .i64 a, .int .i64 b, .int .i64 c] 88 (0, 0)) := (hg2.block bf (lt_of_heap hh) (fun e => by injection e with e; omega)).trans hh
    have hown2 := hown.kept hg2 (own_far hown (by omega))
    have hgr2 := only_trans hgr hg2
    clear hh hown hgr hg2 hdk
    go_upto_if 21 with fail
    go_cut [8] (fun s8 wc => ∃ per' : Int, s8 = .int .i64 per' ∧ -1 ≤ per' ∧ per' ≤ 2 ∧ MadeW N xs (fr + st) per' (free3 a b c) ∧ w2 = wc)
    case first =>
      by_cases hs : 0 < st
      · go_wp2_with fail
        go_meet
        exact ⟨-1, rfl, by omega, by omega, HMADE.out.step hs, rfl⟩
      · obtain rfl : st = 0 := by omega
        go_wp2_with fail
        go_meet
        exact ⟨per, rfl, hp0, hp1, by rw [Int.add_zero]; exact HMADE.out, rfl⟩
    case rest =>
      obtain ⟨per', rfl, hq0, hq1, hmade', rfl⟩ := hcut
      have HM2 := Lib.hid hmade'
      clear hmade' HMADE hp0 hp1
      go_wp2_with fail
      refine (next_any bd 3 w2 (by omega) (by omega) hd2).mono ?_
      rintro e w3 ⟨p, rfl, hpp0, hpp1, hd3, hg3⟩
      have hh3 : w3.heap[bf]? = some (.cells #[.int .i64 a, .int .i64 b, .int .i64 c] 88 (0, 0)) := (hg3.block bf (lt_of_heap hh2) (fun e => by injection e with e; omega)).trans hh2
      have hown3 := hown2.kept hg3 (own_far hown2 (by omega))
      have hgr3 := only_trans hgr2 hg3
      have n0 : w3.cell? ⟨bf, 0, none⟩ = some (.int .i64 a) := by simp [World.cell?, hh3]
      have n1 : w3.cell? ⟨bf, 1, none⟩ = some (.int .i64 b) := by simp [World.cell?, hh3]
      have n2 : w3.cell? ⟨bf, 2, none⟩ = some (.int .i64 c) := by simp [World.cell?, hh3]
      clear hh2 hown2 hgr2 hg3 hd2
      rcases (show p = 0 ∨ p = 1 ∨ p = 2 by omega) with rfl | rfl | rfl
      · by_cases hcont : 0 ≤ per' ∨ fr + st < a
        · by_cases hc1' : 0 ≤ per'
          · go_wp2_with fail
            go_roundw
            case rel => exact ⟨xs, fr + st, per', kk - 1, a, b, c, rfl, rfl, val_int (by omega), by omega, by omega, by omega, hq0, hq1, ha0, ha1, hb0, hb1, hc0, hc1, HM2.out, hh3, hown3, hd3, hgr3⟩
            case measure => simp [intOf]; omega
          · have hc2 : fr + st < a := by omega
            go_wp2_with fail
            go_roundw
            case rel => exact ⟨xs, fr + st, per', kk - 1, a, b, c, rfl, rfl, val_int (by omega), by omega, by omega, by omega, hq0, hq1, ha0, ha1, hb0, hb1, hc0, hc1, HM2.out, hh3, hown3, hd3, hgr3⟩
            case measure => simp [intOf]; omega
        · have hcA : ¬ 0 ≤ per' := by omega
          have hcB : ¬ fr + st < a := by omega
          clear hcont
          go_wp2_with fail
          refine (next_any bd N w3 (by omega) (by omega) hd3).mono ?_
          rintro e w4 ⟨r4, rfl, hr40, hr41, hd4, hg4⟩
          have hh4 : w4.heap[bf]? = some (.cells #[.int .i64 a, .int .i64 b, .int .i64 c] 88 (0, 0)) := (hg4.block bf (lt_of_heap hh3) (fun e => by injection e with e; omega)).trans hh3
          have hown4 := hown3.kept hg4 (own_far hown3 (by omega))
          have hgr4 := only_trans hgr3 hg4
          have m0 : w4.cell? ⟨bf, 0, none⟩ = some (.int .i64 a) := by simp [World.cell?, hh4]
          have mf : w4.frozen? ⟨bf, 0, none⟩ = false := by simp [World.frozen?, hh4]
          clear n0 n1 n2 hh3 hown3 hgr3 hg4 hd3
          go_upto_region 15 with fail
          obtain ⟨w5, hw5⟩ : ∃ w5 : World, w5 = w4.setCell ⟨bf, 0, none⟩ (.int .i64 (fr + st + 1 + r4)) := ⟨_, rfl⟩
          have hh5 : w5.heap[bf]? = some (.cells #[.int .i64 (fr + st + 1 + r4), .int .i64 b, .int .i64 c] 88 (0, 0)) := by rw [hw5]; simp [World.setCell, Array.getElem?_modify, hh4]
          have hown5 : w5.ownsRow (bf + 1) 75 3 u5 xs.length (xs.flatMap Win.cells) := by
            rw [hw5]; exact hown4.kept (row := some bf) (only_setCell (only_refl _ _) (.inl rfl) _) (own_far hown4 (by omega))
          have hd5 : Deck w5 bd := by rw [hw5]; exact hd4.keep fun k hk => Below.heap_setCell _ _ _ _ (by dsimp only; omega)
          have hgr5 : w.grownBy w5 (some bd) := by rw [hw5]; exact only_setCell hgr4 (.inr hbw) _
          have o0 : w5.cell? ⟨bf, 0, none⟩ = some (.int .i64 (fr + st + 1 + r4)) := by simp [World.cell?, hh5]
          rw [← hw5]
          have hlow := own_low hown5
          have hsz5 := lt_of_heap hh5
          clear hw5 hh4 hown4 hgr4 hd4 m0 mf
          go_wp2_with (at_builtin; refine wpList_append_own _ rfl (.tmp 46) (.tmp 53) 30 rfl (bf + 1) 75 i0 _ 3 24 Tryz.underlying30 hi hz0 hz1 hz2 rfl (by decide) _ _ _ rfl (hown5.alloc _) ⟨w5.heap.size, 0, none⟩ 1 1 [.int .i64 0, .int .i64 (fr + st), .int .i64 (fr + st + 1 + r4)] rfl rfl ?k1 ?k2 ?k3 ?k4 ?k5 ?_)
          case k1 => exact cell_new _ _ _
          case k2 => intro u hu; simp at hu; rcases hu with rfl | rfl | rfl <;> rfl
          case k3 => unfold maxLen; omega
          case k4 => omega
          case k5 => simp; omega
          intro v' w6 hown6 hg6 _
          have hgr6 : w.grownBy w6 (some bd) := only_grown (only_alloc hgr5 _) hg6 (fun g hg => by have := hlow g hg; omega)
          have hd6 : Deck w6 bd := (hd5.below (below_alloc1 _ _)).grown hg6 (fun g hg => by have := hlow g hg; omega)
          have hh6 : w6.heap[bf]? = some (.cells #[.int .i64 (fr + st + 1 + r4), .int .i64 b, .int .i64 c] 88 (0, 0)) := (hg6.block bf (by simp; omega) (fun e => by have := hlow bf e.symm; omega)).trans ((Below.heap_alloc w5 _ bf hsz5).trans hh5)
          clear hh5 hown5 hgr5 hd5 o0 hg6
          go_wp2_with fail
          go_roundw
          case rel =>
            refine ⟨xs ++ [⟨0, fr + st, fr + st + 1 + r4⟩], fr + st, 0, kk - 1, (fr + st + 1 + r4), b, c, rfl, rfl, val_int (by omega), by simp; omega, by omega, by omega, by omega, by omega, by omega, by omega, by omega, by omega, by omega, by omega, ?_, hh6, ?_, hd6, hgr6⟩
            · exact HM2.out.snoc (p := 0) (r := r4) (by omega) (by omega) (by omega) (by omega) (by omega) hr40 hr41 hN (by simp [free3]; omega) (by simp [free3]) (fun q hq => by unfold free3; repeat' split <;> first | rfl | (exfalso; omega))
            · rw [List.flatMap_append, List.length_append]; exact hown6
          case measure => simp [intOf]; omega
      · by_cases hcont : 1 ≤ per' ∨ fr + st < b
        · by_cases hc1' : 1 ≤ per'
          · go_wp2_with fail
            go_roundw
            case rel => exact ⟨xs, fr + st, per', kk - 1, a, b, c, rfl, rfl, val_int (by omega), by omega, by omega, by omega, hq0, hq1, ha0, ha1, hb0, hb1, hc0, hc1, HM2.out, hh3, hown3, hd3, hgr3⟩
            case measure => simp [intOf]; omega
          · have hc2 : fr + st < b := by omega
            go_wp2_with fail
            go_roundw
            case rel => exact ⟨xs, fr + st, per', kk - 1, a, b, c, rfl, rfl, val_int (by omega), by omega, by omega, by omega, hq0, hq1, ha0, ha1, hb0, hb1, hc0, hc1, HM2.out, hh3, hown3, hd3, hgr3⟩
            case measure => simp [intOf]; omega
        · have hcA : ¬ 1 ≤ per' := by omega
          have hcB : ¬ fr + st < b := by omega
          clear hcont
          go_wp2_with fail
          refine (next_any bd N w3 (by omega) (by omega) hd3).mono ?_
          rintro e w4 ⟨r4, rfl, hr40, hr41, hd4, hg4⟩
          have hh4 : w4.heap[bf]? = some (.cells #[.int .i64 a, .int .i64 b, .int .i64 c] 88 (0, 0)) := (hg4.block bf (lt_of_heap hh3) (fun e => by injection e with e; omega)).trans hh3
          have hown4 := hown3.kept hg4 (own_far hown3 (by omega))
          have hgr4 := only_trans hgr3 hg4
          have m0 : w4.cell? ⟨bf, 1, none⟩ = some (.int .i64 b) := by simp [World.cell?, hh4]
          have mf : w4.frozen? ⟨bf, 1, none⟩ = false := by simp [World.frozen?, hh4]
          clear n0 n1 n2 hh3 hown3 hgr3 hg4 hd3
          go_upto_region 15 with fail
          obtain ⟨w5, hw5⟩ : ∃ w5 : World, w5 = w4.setCell ⟨bf, 1, none⟩ (.int .i64 (fr + st + 1 + r4)) := ⟨_, rfl⟩
          have hh5 : w5.heap[bf]? = some (.cells #[.int .i64 a, .int .i64 (fr + st + 1 + r4), .int .i64 c] 88 (0, 0)) := by rw [hw5]; simp [World.setCell, Array.getElem?_modify, hh4]
          have hown5 : w5.ownsRow (bf + 1) 75 3 u5 xs.length (xs.flatMap Win.cells) := by
            rw [hw5]; exact hown4.kept (row := some bf) (only_setCell (only_refl _ _) (.inl rfl) _) (own_far hown4 (by omega))
          have hd5 : Deck w5 bd := by rw [hw5]; exact hd4.keep fun k hk => Below.heap_setCell _ _ _ _ (by dsimp only; omega)
          have hgr5 : w.grownBy w5 (some bd) := by rw [hw5]; exact only_setCell hgr4 (.inr hbw) _
          have o0 : w5.cell? ⟨bf, 1, none⟩ = some (.int .i64 (fr + st + 1 + r4)) := by simp [World.cell?, hh5]
          rw [← hw5]
          have hlow := own_low hown5
          have hsz5 := lt_of_heap hh5
          clear hw5 hh4 hown4 hgr4 hd4 m0 mf
          go_wp2_with (at_builtin; refine wpList_append_own _ rfl (.tmp 46) (.tmp 53) 30 rfl (bf + 1) 75 i0 _ 3 24 Tryz.underlying30 hi hz0 hz1 hz2 rfl (by decide) _ _ _ rfl (hown5.alloc _) ⟨w5.heap.size, 0, none⟩ 1 1 [.int .i64 1, .int .i64 (fr + st), .int .i64 (fr + st + 1 + r4)] rfl rfl ?k1 ?k2 ?k3 ?k4 ?k5 ?_)
          case k1 => exact cell_new _ _ _
          case k2 => intro u hu; simp at hu; rcases hu with rfl | rfl | rfl <;> rfl
          case k3 => unfold maxLen; omega
          case k4 => omega
          case k5 => simp; omega
          intro v' w6 hown6 hg6 _
          have hgr6 : w.grownBy w6 (some bd) := only_grown (only_alloc hgr5 _) hg6 (fun g hg => by have := hlow g hg; omega)
          have hd6 : Deck w6 bd := (hd5.below (below_alloc1 _ _)).grown hg6 (fun g hg => by have := hlow g hg; omega)
          have hh6 : w6.heap[bf]? = some (.cells #[.int .i64 a, .int .i64 (fr + st + 1 + r4), .int .i64 c] 88 (0, 0)) := (hg6.block bf (by simp; omega) (fun e => by have := hlow bf e.symm; omega)).trans ((Below.heap_alloc w5 _ bf hsz5).trans hh5)
          clear hh5 hown5 hgr5 hd5 o0 hg6
          go_wp2_with fail
          go_roundw
          case rel =>
            refine ⟨xs ++ [⟨1, fr + st, fr + st + 1 + r4⟩], fr + st, 1, kk - 1, a, (fr + st + 1 + r4), c, rfl, rfl, val_int (by omega), by simp; omega, by omega, by omega, by omega, by omega, by omega, by omega, by omega, by omega, by omega, by omega, ?_, hh6, ?_, hd6, hgr6⟩
            · exact HM2.out.snoc (p := 1) (r := r4) (by omega) (by omega) (by omega) (by omega) (by omega) hr40 hr41 hN (by simp [free3]; omega) (by simp [free3]) (fun q hq => by unfold free3; repeat' split <;> first | rfl | (exfalso; omega))
            · rw [List.flatMap_append, List.length_append]; exact hown6
          case measure => simp [intOf]; omega
      · by_cases hcont : 2 ≤ per' ∨ fr + st < c
        · by_cases hc1' : 2 ≤ per'
          · go_wp2_with fail
            go_roundw
            case rel => exact ⟨xs, fr + st, per', kk - 1, a, b, c, rfl, rfl, val_int (by omega), by omega, by omega, by omega, hq0, hq1, ha0, ha1, hb0, hb1, hc0, hc1, HM2.out, hh3, hown3, hd3, hgr3⟩
            case measure => simp [intOf]; omega
          · have hc2 : fr + st < c := by omega
            go_wp2_with fail
            go_roundw
            case rel => exact ⟨xs, fr + st, per', kk - 1, a, b, c, rfl, rfl, val_int (by omega), by omega, by omega, by omega, hq0, hq1, ha0, ha1, hb0, hb1, hc0, hc1, HM2.out, hh3, hown3, hd3, hgr3⟩
            case measure => simp [intOf]; omega
        · have hcA : ¬ 2 ≤ per' := by omega
          have hcB : ¬ fr + st < c := by omega
          clear hcont
          go_wp2_with fail
          refine (next_any bd N w3 (by omega) (by omega) hd3).mono ?_
          rintro e w4 ⟨r4, rfl, hr40, hr41, hd4, hg4⟩
          have hh4 : w4.heap[bf]? = some (.cells #[.int .i64 a, .int .i64 b, .int .i64 c] 88 (0, 0)) := (hg4.block bf (lt_of_heap hh3) (fun e => by injection e with e; omega)).trans hh3
          have hown4 := hown3.kept hg4 (own_far hown3 (by omega))
          have hgr4 := only_trans hgr3 hg4
          have m0 : w4.cell? ⟨bf, 2, none⟩ = some (.int .i64 c) := by simp [World.cell?, hh4]
          have mf : w4.frozen? ⟨bf, 2, none⟩ = false := by simp [World.frozen?, hh4]
          clear n0 n1 n2 hh3 hown3 hgr3 hg4 hd3
          go_upto_region 15 with fail
          obtain ⟨w5, hw5⟩ : ∃ w5 : World, w5 = w4.setCell ⟨bf, 2, none⟩ (.int .i64 (fr + st + 1 + r4)) := ⟨_, rfl⟩
          have hh5 : w5.heap[bf]? = some (.cells #[.int .i64 a, .int .i64 b, .int .i64 (fr + st + 1 + r4)] 88 (0, 0)) := by rw [hw5]; simp [World.setCell, Array.getElem?_modify, hh4]
          have hown5 : w5.ownsRow (bf + 1) 75 3 u5 xs.length (xs.flatMap Win.cells) := by
            rw [hw5]; exact hown4.kept (row := some bf) (only_setCell (only_refl _ _) (.inl rfl) _) (own_far hown4 (by omega))
          have hd5 : Deck w5 bd := by rw [hw5]; exact hd4.keep fun k hk => Below.heap_setCell _ _ _ _ (by dsimp only; omega)
          have hgr5 : w.grownBy w5 (some bd) := by rw [hw5]; exact only_setCell hgr4 (.inr hbw) _
          have o0 : w5.cell? ⟨bf, 2, none⟩ = some (.int .i64 (fr + st + 1 + r4)) := by simp [World.cell?, hh5]
          rw [← hw5]
          have hlow := own_low hown5
          have hsz5 := lt_of_heap hh5
          clear hw5 hh4 hown4 hgr4 hd4 m0 mf
          go_wp2_with (at_builtin; refine wpList_append_own _ rfl (.tmp 46) (.tmp 53) 30 rfl (bf + 1) 75 i0 _ 3 24 Tryz.underlying30 hi hz0 hz1 hz2 rfl (by decide) _ _ _ rfl (hown5.alloc _) ⟨w5.heap.size, 0, none⟩ 1 1 [.int .i64 2, .int .i64 (fr + st), .int .i64 (fr + st + 1 + r4)] rfl rfl ?k1 ?k2 ?k3 ?k4 ?k5 ?_)
          case k1 => exact cell_new _ _ _
          case k2 => intro u hu; simp at hu; rcases hu with rfl | rfl | rfl <;> rfl
          case k3 => unfold maxLen; omega
          case k4 => omega
          case k5 => simp; omega
          intro v' w6 hown6 hg6 _
          have hgr6 : w.grownBy w6 (some bd) := only_grown (only_alloc hgr5 _) hg6 (fun g hg => by have := hlow g hg; omega)
          have hd6 : Deck w6 bd := (hd5.below (below_alloc1 _ _)).grown hg6 (fun g hg => by have := hlow g hg; omega)
          have hh6 : w6.heap[bf]? = some (.cells #[.int .i64 a, .int .i64 b, .int .i64 (fr + st + 1 + r4)] 88 (0, 0)) := (hg6.block bf (by simp; omega) (fun e => by have := hlow bf e.symm; omega)).trans ((Below.heap_alloc w5 _ bf hsz5).trans hh5)
          clear hh5 hown5 hgr5 hd5 o0 hg6
          go_wp2_with fail
          go_roundw
          case rel =>
            refine ⟨xs ++ [⟨2, fr + st, fr + st + 1 + r4⟩], fr + st, 2, kk - 1, a, b, (fr + st + 1 + r4), rfl, rfl, val_int (by omega), by simp; omega, by omega, by omega, by omega, by omega, by omega, by omega, by omega, by omega, by omega, by omega, ?_, hh6, ?_, hd6, hgr6⟩
            · exact HM2.out.snoc (p := 2) (r := r4) (by omega) (by omega) (by omega) (by omega) (by omega) hr40 hr41 hN (by simp [free3]; omega) (by simp [free3]) (fun q hq => by unfold free3; repeat' split <;> first | rfl | (exfalso; omega))
            · rw [List.flatMap_append, List.length_append]; exact hown6
          case measure => simp [intOf]; omega

end Go.Proofs.YtilkcailpkebdaaGreat

/-
  append onto a row of the call's own of a slice that may be nil: one law for all kinds of elements.
-/
namespace Go.Proofs.YtilkcailpkebdaaGreat
open Go.RowKit
set_option linter.unusedVariables false

/-- A source of an append: nil, or elements that lie at an address. -/
def SrcG {α : Type} (enc : α → List Value) (W : World) (X : Option Addr) (ys : List α) : Prop :=
  (X = none ∧ ys = []) ∨ ∃ ad, X = some ad ∧ ∀ (j : Nat) (u : Value), (ys.flatMap enc)[j]? = some u → W.cell? (ad.add j) = some u
theorem srcG_of_sl {α : Type} {enc : α → List Value} {k : Nat} (hk : ∀ x, (enc x).length = k) (hk0 : 0 < k) {W : World} {lo : Nat} {X : Option Addr} {ys : List α} (h : Sl W lo k X (ys.map enc)) : SrcG enc W X ys := by
  cases X with
  | none =>
    left
    refine ⟨rfl, ?_⟩
    cases ys with
    | nil => rfl
    | cons y ys => obtain ⟨b, off, e, _⟩ := h (by simp); cases e
  | some ad =>
    right
    refine ⟨ad, rfl, fun j u hu => ?_⟩
    have h0 : 0 < (ys.map enc).length := by
      have := (List.getElem?_eq_some_iff.1 hu).1
      rw [flat_len enc k hk] at this
      rw [List.length_map]
      rcases Nat.eq_zero_or_pos ys.length with e | e
      · rw [e, Nat.zero_mul] at this; omega
      · exact e
    obtain ⟨b, off, e, _⟩ := h h0
    obtain rfl : ad = ⟨b, off, none⟩ := Option.some.inj e
    exact sl_cells (enc := enc) (k := k) hk hk0 h j u hu
theorem run_append_none_c {P : Program} {w : World} (base : Nat) (t ty e : TypeId) (i : TypeInfo) (size c : Nat) (ht : P.underlying t = some (.slice e)) (hi : P.info? e = some i)
    (v : Value) (n : Nat) (xs : List Value) (hown : w.ownsRow base e size v n xs) :
    (Builtin.append_ #[t, t] ty #[v, .slice none 0 c]).run P w = .ok v w := by
  rcases hown.2 with ⟨rfl, rfl⟩ | ⟨g, cap, cur, rfl, _, _, hnc, _⟩
  · simp [Builtin.append_, run_underlying ht, sizeOf, typeInfo, hi, Builtin.lenOf, Builtin.firstCells]
  · simp [Builtin.append_, run_underlying ht, sizeOf, typeInfo, hi, Builtin.lenOf, Builtin.firstCells, hnc, storeCells]
theorem wpList_append_src {α : Type} (enc : α → List Value) {P : Program} {w : World} {ops : Array Oper} {rest : List Oper} {o : Oper} {a : Act} {Q : Exit → Act → World → Prop} (hgd : o.guard = none) (s x : Operand) (t : TypeId)
    (ho : o.op = .call { callee := .builtin .append, args := #[s, x], argTypes := #[t, t] })
    (base : Nat) (e : TypeId) (i : TypeInfo) (z : Value) (size bytes : Nat) (ht : P.underlying t = some (.slice e)) (hi : P.info? e = some i) (hz : i.zero = some z)
    (hsize : i.size = size) (hby : i.bytes = bytes) (hzs : z.cells.size = size) (hsz : 0 < size) (hb80 : bytes ≤ 80)
    (hk : ∀ y, (enc y).length = size) (h1 : ∀ y, ∀ u ∈ enc y, u.oneCell' = true)
    (v : Value) (n : Nat) (xs : List Value) (hs : a.eval s = v) (hown : w.ownsRow base e size v n xs)
    (X : Option Addr) (m c : Nat) (ys : List α) (hm : m = ys.length) (hx : a.eval x = .slice X m c) (hsrc : SrcG enc w X ys)
    (h63 : n + m ≤ 100000) (hbase : base ≤ w.heap.size)
    (h : ∀ v' w', w'.ownsRow base e size v' (n + m) (xs ++ ys.flatMap enc) → w.grownBy w' v.ownBlock → wpList P ops Q rest (a.put o.dst v') w') : wpList P ops Q (o :: rest) a w := by
  refine wpList_plain hgd fun K hK => ?_
  rcases hsrc with ⟨rfl, rfl⟩ | ⟨ad, rfl, hc⟩
  · rw [List.length_nil] at hm
    subst hm
    have hrun := run_append_none_c (P := P) (w := w) base t o.type e i size c ht hi v n xs hown
    unfold Oper.wp
    simp [execOp, ho, resolve, invoke, builtin, hs, hx, hrun, Result.andThen]
    exact hK _ _ (h v w (by simpa using hown) (World.grownBy.refl w _))
  · subst hm
    exact wp_append_own w s x t ho base e i z size bytes ht hi hz hsize hby hzs hsz v n xs hs hown ad ys.length c (ys.flatMap enc) hx (flat_len enc size hk ys) hc (fun u hu => by obtain ⟨y, _, hy⟩ := List.mem_flatMap.1 hu; exact h1 y u hy) (by unfold maxLen; omega) (by have := Nat.mul_le_mul h63 hb80; omega) hbase fun v' w' h2 h3 _ => hK _ _ (h v' w' h2 h3)
theorem addr_at0 (b off j : Nat) : (({ block := b, off := off } : Addr).add j) = ⟨b, off + j, none⟩ := by
  unfold Addr.add; split
  · rename_i h; rw [h]; simp
  · rfl
theorem los_one (y : Los) : ∀ u ∈ Los.cells y, u.oneCell' = true := by
  intro u hu
  simp [Los.cells] at hu
  rcases hu with rfl | rfl | rfl | rfl | rfl | rfl | rfl | rfl | rfl | rfl <;> rfl
theorem int_one (y : Int) : ∀ u ∈ V1 y, u.oneCell' = true := by
  intro u hu
  simp [V1] at hu
  subst hu; rfl
theorem own_row_of {W : World} {base n : Nat} {e : TypeId} {size : Nat} {v : Value} {xs : List Value} (h : W.ownsRow base e size v n xs) (h0 : n ≠ 0) : ∃ g c, v = .slice (some ⟨g, 0, none⟩) n c ∧ base ≤ g ∧ g < W.heap.size := by
  rcases h.2 with ⟨_, hn⟩ | ⟨g, cap, cur, hv, hg, hh, _⟩
  · exact absurd hn h0
  · exact ⟨g, cap, hv, hg, lt_of_heap hh⟩

end Go.Proofs.YtilkcailpkebdaaGreat

/-
  Lists of bounds (a peril and values) in memory; appends of bounds onto a row of the call's own.
-/
namespace Go.Proofs.YtilkcailpkebdaaGreat
open Go.RowKit
set_option linter.unusedVariables false

theorem Tryz.infoBounds : (Tryz.prog.info? 84).map (fun i => (i.zero, i.size, i.bytes)) = some (some (.agg #[.int .i64 0, .slice none 0 0]), 2, 32) := by kernel_rfl
structure Bd where
  p : Int
  G : Option Addr
  c : Nat
  vs : List Int
def Bd.cells (b : Bd) : List Value := [.int .i64 b.p, .slice b.G b.vs.length b.c]
def Bd.key (b : Bd) : Int × List Int := (b.p, b.vs)
theorem bd_one (y : Bd) : ∀ u ∈ Bd.cells y, u.oneCell' = true := by
  intro u hu
  simp [Bd.cells] at hu
  rcases hu with rfl | rfl <;> rfl
/-- The values of bounds, in blocks of ints. -/
def VsAt (w : World) (bs : List Bd) : Prop := ∀ b ∈ bs, Ints w 0 b.G b.vs ∧ ∀ a, b.G = some a → ∃ cs fr, w.heap[a.block]? = some (.cells cs 3 fr)
theorem VsAt.nil (w : World) : VsAt w [] := fun b hb => by simp at hb
theorem VsAt.below {w w' : World} {bs : List Bd} (h : VsAt w bs) (hb : Below w.heap.size w w') : VsAt w' bs := fun b hm => by
  obtain ⟨h1, h2⟩ := h b hm
  refine ⟨h1.below hb, fun a ha => ?_⟩
  obtain ⟨cs, fr, h3⟩ := h2 a ha
  exact ⟨cs, fr, (hb.block _ (lt_of_heap h3)).trans h3⟩
theorem ints_far {w w' : World} {lo : Nat} {G : Option Addr} {vs : List Int} {row : Option Nat} (h : Ints w lo G vs) (hg : w.grownBy w' row) (hr : ∀ a, G = some a → row ≠ some a.block) : Ints w' lo G vs := fun hp => by
  obtain ⟨b, off, e, h1, h2, hc⟩ := h hp
  refine ⟨b, off, e, h1, Nat.lt_of_lt_of_le h2 hg.size, fun i x hx j u hu => ?_⟩
  exact (World.cell?_of_block (hg.block b h2 (fun e2 => hr _ e e2.symm))).trans (hc i x hx j u hu)
theorem VsAt.grown {w w' : World} {bs : List Bd} (h : VsAt w bs) {base n : Nat} {v : Value} {xs : List Value} (ho : w.ownsRow base 84 2 v n xs) (hg : w.grownBy w' v.ownBlock) : VsAt w' bs := fun b hm => by
  obtain ⟨h1, h2⟩ := h b hm
  have hr : ∀ a, b.G = some a → v.ownBlock ≠ some a.block := fun a ha e => by
    obtain ⟨cs, fr, h3⟩ := h2 a ha
    rcases ho.2 with ⟨hv, _⟩ | ⟨g, cap, cur, hv, _, hh, _⟩
    · rw [hv] at e; simp [Value.ownBlock] at e
    · rw [hv] at e
      simp [Value.ownBlock] at e
      rw [e, h3] at hh
      injection hh with hh
      injection hh with _ ht _
      exact absurd ht (by decide)
  refine ⟨ints_far h1 hg hr, fun a ha => ?_⟩
  obtain ⟨cs, fr, h3⟩ := h2 a ha
  exact ⟨cs, fr, (hg.block _ (lt_of_heap h3) (fun e => hr a ha e.symm)).trans h3⟩
theorem VsAt.snoc {w : World} {bs : List Bd} (h : VsAt w bs) {b : Bd} (h1 : Ints w 0 b.G b.vs) (h2 : ∀ a, b.G = some a → ∃ cs fr, w.heap[a.block]? = some (.cells cs 3 fr)) : VsAt w (bs ++ [b]) := fun x hx => by
  rcases List.mem_append.1 hx with hx | hx
  · exact h x hx
  · obtain rfl : x = b := by simpa using hx
    exact ⟨h1, h2⟩
def Bnds (w : World) (A : Option Addr) (bs : List Bd) : Prop := Sl w 0 2 A (bs.map Bd.cells) ∧ VsAt w bs
theorem Bnds.below {w w' : World} {A : Option Addr} {bs : List Bd} (h : Bnds w A bs) (hb : Below w.heap.size w w') : Bnds w' A bs := ⟨Sl.below h.1 hb, h.2.below hb⟩
theorem Bnds.at_ {w : World} {A : Option Addr} {bs : List Bd} (h : Bnds w A bs) {i : Nat} {b : Bd} (hx : bs[i]? = some b) : ∃ g off, A = some ⟨g, off, none⟩ ∧ g < w.heap.size ∧ w.cell? ⟨g, off + i * 2, none⟩ = some (.int .i64 b.p) ∧ w.cell? ⟨g, off + i * 2 + 1, none⟩ = some (.slice b.G b.vs.length b.c) ∧ Ints w 0 b.G b.vs := by
  obtain ⟨g, off, e, h1, h2, hc⟩ := Sl.at_ (i := i) (x := Bd.cells b) h.1 (by simp [hx])
  exact ⟨g, off, e, h2, by simpa using hc 0 _ rfl, hc 1 _ rfl, (h.2 b (List.mem_of_getElem? hx)).1⟩
theorem bnds_of_own {w : World} {base c : Nat} {A : Option Addr} {bs : List Bd} {n : Nat} (h : w.ownsRow base 84 2 (.slice A n c) n (bs.flatMap Bd.cells)) (hn : n = bs.length) (hv : VsAt w bs) : Bnds w A bs := by
  subst hn
  exact ⟨Sl.low (sl_of_own (enc := Bd.cells) (fun _ => rfl) h) (Nat.zero_le _), hv⟩

/-- The certificate. -/
def provF (los : List Los) (am : List Int) (n : Int) (ls : List P2) : List (Int × List Int) := if bestA los am n ls = 0 then (perilsF los).map (fun p => (p, valsF n ls (ptsF los am p))) else []
theorem bestA_parts {los : List Los} {am : List Int} {n : Int} {ls : List P2} (hx : bestA los am n ls = 0) : chkE los am = 0 ∧ recErr 0 ls = 0 ∧ ¬ (n < 1 ∨ 8784 < n) := by
  unfold bestA at hx
  split at hx
  · rename_i h; exact absurd hx h
  · split at hx
    · rename_i h; exact absurd hx h
    · split at hx
      · omega
      · rename_i h1 h2 h3; exact ⟨by simpa using h1, by simpa using h2, h3⟩
theorem bestE_eq (los : List Los) (am : List Int) (n : Int) (ls : List P2) : bestE los am n ls = bestA los am n ls := by
  by_cases h : bestA los am n ls = 0
  · obtain ⟨h1, h2, h3⟩ := bestA_parts h
    rw [h]; exact (best_all h1 h2 (by omega) (by omega)).1
  · exact (best_bad h).2.2.2
theorem prov_len (los : List Los) (am : List Int) (n : Int) (ls : List P2) : (provF los am n ls).length ≤ los.length := by
  unfold provF; split
  · rw [List.length_map]
    unfold perilsF
    refine Nat.le_trans (compact_len _) ?_
    rw [List.length_mergeSort]; unfold perilsL; rw [List.length_map]; exact Nat.le_refl _
  · simp
theorem perils_len (los : List Los) : (perilsF los).length ≤ los.length := by
  unfold perilsF
  refine Nat.le_trans (compact_len _) ?_
  rw [List.length_mergeSort]; unfold perilsL; rw [List.length_map]; exact Nat.le_refl _

end Go.Proofs.YtilkcailpkebdaaGreat
