/-
  Texts of the proof of WindowUseful, one after the other.
-/
import Derived.Test.YtilkcailpkebdaaPart5
import Derived.Test.YtilkcailpkebdaaPart3
import Derived.Test.YtilkcailpkebdaaPart2
import Derived.Lib.SliceRun
import Derived.Test.YtilkcailpkebdaaPart1
import Derived.Deep.DeepCutAuto
import Derived.Test.YtilkcailpkebdaaPart4

/-
  event.Totals: its contract.
-/
namespace Go.Proofs.Ytilkcailpkebdaa
open Go.RowKit
set_option linter.unusedVariables false

theorem asgF_len (los : List Los) (ws : List Win) : (asgF los ws).length = los.length := by simp [asgF]
theorem totF_len (los : List Los) (am : List Int) (ws : List Win) : (totF los am ws).length = ws.length := by simp [totF]

set_option maxHeartbeats 1000000 in
theorem totals_any (A : Option Addr) (c : Nat) (los : List Los) (M : Option Addr) (mc : Nat) (am : List Int) (B : Option Addr) (d : Nat) (ws : List Win) (w : World) (hll : los.length ≤ 9223372036854775807) (hal : am.length ≤ 9223372036854775807) (hwl : ws.length ≤ 1000) (hL : Losses w 0 A los) (hM : Ints w 0 M am) (hW : Wins w 0 B ws) :
    Calls Try.prog 47 #[.slice A los.length c, .slice M am.length mc, .slice B ws.length d] w fun e w' => ∃ G g, e = .returned (.tuple #[.slice G (totalsF los am ws).length g, .int .i64 (chkE los am)]) ∧ Ints w' w.heap.size G (totalsF los am ws) ∧ Below w.heap.size w w' := by
  have CC := Lib.hid (checkE_any A c los M mc am w hll hal hL hM)
  by_cases hce : chkE los am = 0
  case neg =>
    have HX : Hid (totalsF los am ws = []) := by unfold totalsF; rw [if_neg hce]; rfl
    have q0 : (chkE los am != 0) = true := by simpa using hce
    clear hce
    go_enter Try.func47, Try.ntmps47
    go_wp2_with (go_at_call 36; refine CC.out.mono ?_; rintro e w1 ⟨rfl, hb1⟩)
    go_ret2
    refine ⟨none, 0, by rw [HX.out]; rfl, by rw [HX.out]; exact Sl.none_, hb1⟩
  have HCE := Lib.hid hce
  have HX : Hid (totalsF los am ws = totF los am ws) := by unfold totalsF; rw [if_pos hce]; rfl
  have GG := Lib.hid (goodE_of hce)
  have HAM := Lib.hid (zip_amounts (goodE_of hce).same (goodE_of hce).all)
  have q0 : (chkE los am != 0) = false := by rw [hce]; rfl
  have hl64 := (goodE_of hce).len
  have CA : Hid (∀ W, Losses W 0 A los → Wins W 0 B ws → _) := fun W h h' => assign_any A c los B d ws W (by omega) (by omega) h h'
  rw [asgF_len] at CA
  clear hce
  obtain ⟨n, hn⟩ : ∃ n, n = los.length := ⟨_, rfl⟩
  obtain ⟨m, hm⟩ : ∃ m, m = ws.length := ⟨_, rfl⟩
  have HN := Lib.hid hn
  have HM := Lib.hid hm
  have HA : Hid (am.length = n) := by rw [hn]; exact GG.out.same
  rw [HA.out] at CC
  rw [HA.out]
  rw [← hn] at CC CA hl64
  rw [← hm] at CA hwl
  rw [← hn, ← hm]
  clear hn hm hll hal
  have hmk := run_make_row' (P := Try.prog) 23 3 (.int .i64 0) 8 Try.underlying23 Try.infoInt rfl .i64 .i64 m (by omega) (by omega)
  go_enter Try.func47, Try.ntmps47
  go_wp2_with (go_at_call 36; refine CC.out.mono ?_; rintro e w1 ⟨rfl, hb1⟩)
  have hrow0 := World.rowIs_made w1 (.int .i64 0) m 3
  have hba := hb1.alloc hb1.size (.cells (madeCells #[.int .i64 0] m) 3)
  have hbs := hb1.size
  obtain ⟨w2, hw2⟩ : ∃ w2 : World, w2 = w1.alloc (.cells (madeCells #[.int .i64 0] m) 3) := ⟨_, rfl⟩
  obtain ⟨g, hg⟩ : ∃ g, g = w1.heap.size := ⟨_, rfl⟩
  rw [← hw2] at hrow0 hba ⊢
  rw [← hg] at hrow0 ⊢
  have hgw : w.heap.size ≤ g := by omega
  clear hg hmk hw2 hb1
  refine (CA.out _ (hL.below hba) (hW.below hba)).mono ?_
  rintro e w3 ⟨G1, c1, rfl, hG1, hb3⟩
  have hg2 := hrow0.lt
  have hrow3 : w3.rowIs g 3 m (fun _ => .int .i64 0) := World.rowIs.of_block hrow0 (hb3.block g hg2)
  have hb03 := hba.trans (hb3.mono hba.size)
  clear hrow0 hb3
  go_wp2_with fail
  go_loopw [10, 11, 25] (fun _ _ ii wr => ∃ (i : Nat) (F : Nat → Int), i ≤ n ∧ ii = .int .i64 i ∧ wr.rowIs g 3 m (fun j => .int .i64 (F j)) ∧ (∀ j, 0 ≤ F j ∧ F j ≤ 17592186044416 * i) ∧ Below w.heap.size w wr ∧ Ints wr w2.heap.size G1 (asgF los ws) ∧ totLoop ((asgF los ws).drop i) (am.drop i) F = totLoop (asgF los ws) am fun _ => 0) (fun _ _ ii _ => n - (intOf ii).toNat)
  case atStart => exact ⟨0, fun _ => 0, Nat.zero_le _, rfl, hrow3, fun _ => by simp, hb03, hG1, rfl⟩
  case round =>
    obtain ⟨i, F, hi, rfl, hrow, hF, hb, hGr, hT⟩ := hrel
    have HF := Lib.hid hF
    have HT := Lib.hid hT
    clear hF hT hrow3 hb03 hG1
    by_cases hin : i < n
    case neg =>
      obtain rfl : i = n := by omega
      have h1 := HT.out
      rw [show i = (asgF los ws).length by rw [asgF_len, ← HN.out]] at h1
      have HE := Lib.hid (tot_end h1)
      clear h1
      go_wp2_with fail
      go_ret2
      refine ⟨some ⟨g, 0, none⟩, m, ?_, ?_, hb⟩
      · rw [HX.out, totF_len, ← HM.out, HCE.out]; rfl
      · rw [HX.out]
        refine ints_of_row (F := F) (by rw [totF_len, ← HM.out]; exact hrow) hgw fun j x hx => ?_
        unfold totF at hx
        rw [HE.out, List.getElem?_map, Option.map_eq_some_iff] at hx
        obtain ⟨k, hk, rfl⟩ := hx
        have := (List.getElem?_eq_some_iff.1 hk).2
        simp at this
        rw [this]
    obtain ⟨s, hs, hds⟩ := drop_cons (xs := asgF los ws) (i := i) (by rw [asgF_len, ← HN.out]; exact hin)
    obtain ⟨a, ha, hda⟩ := drop_cons (xs := am) (i := i) (by rw [HA.out]; exact hin)
    have hsb : s = -1 ∨ 0 ≤ s ∧ s < m := by
      simp only [asgF, List.getElem?_map, Option.map_eq_some_iff] at hs
      obtain ⟨l, _, rfl⟩ := hs
      have := asgAt_bd ws l
      rw [← HM.out] at this
      exact this
    have hab := HAM.out a (List.mem_of_getElem? ha)
    obtain ⟨b, off, rfl, hblo, hbl, s0⟩ := hGr.at_ hs
    obtain ⟨b2, off2, rfl, _, hbl2, a0⟩ := (hM.below hb).at_ ha
    have HDS := Lib.hid hds
    have HDA := Lib.hid hda
    clear hs hds ha hda
    by_cases h0 : 0 ≤ s
    case neg =>
      have hT2 := Lib.hid (tot_no HDS.out HDA.out HT.out h0)
      go_wp2_with fail
      go_roundw
      case rel => exact ⟨i + 1, F, by omega, by go_num, hrow, fun j => by have := HF.out j; omega, hb, hGr, hT2.out⟩
      case measure => simp [intOf]; omega
    obtain ⟨J, rfl⟩ := Int.eq_ofNat_of_zero_le h0
    have hJ : J < m := by omega
    have hT2 := Lib.hid (tot_yes HDS.out HDA.out HT.out h0)
    have x0 := hrow.cell hJ
    have xf := hrow.frozen J
    have hFJ := HF.out J
    clear hsb
    go_wp2_with fail
    go_region
    go_wp2_with fail
    go_roundw
    case rel =>
      refine ⟨i + 1, addTo F J a, by omega, by go_num, ?_, fun j => ?_, hb.drew.setCell hgw _, ?_, hT2.out⟩
      · refine ((World.rowIs.drew hrow).set J _).congr fun j _ => ?_
        unfold addTo
        by_cases hj : j = J
        · subst hj; simp
        · rw [if_neg hj, if_neg (by omega)]
      · have := HF.out j
        unfold addTo; split <;> omega
      · intro hp
        obtain ⟨b', off', e, h1, h2, hc⟩ := hGr hp
        refine ⟨b', off', e, h1, by simpa [World.setCell] using h2, fun i' x' hx' j' u' hu' => ?_⟩
        show (wr.setCell ⟨g, J, none⟩ (.int .i64 (F J + a))).cell? ⟨b', off' + i' * 1 + j', none⟩ = some u'
        rw [World.cell?_setCell_other _ _ _ _ (fun e => by injection e with e; omega)]
        exact hc i' x' hx' j' u' hu'
    case measure => simp [intOf]; omega

end Go.Proofs.Ytilkcailpkebdaa

/-
  slices.Clone at []api.Window, treatyref25.SameWindows: their contracts.
-/
namespace Go.Proofs.Ytilkcailpkebdaa
open Go.RowKit
set_option linter.unusedVariables false

theorem Try.infoWindow : (Try.prog.info? 53).map (fun i => (i.zero, i.size, i.bytes)) = some (some (.agg #[.int .i64 0, .int .i64 0, .int .i64 0]), 3, 24) := by kernel_rfl

theorem own_void (w : World) (e : TypeId) (size : Nat) : (w.alloc (.cells #[] e)).ownsRow w.heap.size e size (.slice (some ⟨w.heap.size, 0, none⟩) 0 0) 0 [] :=
  ⟨by simp, .inr ⟨w.heap.size, 0, #[], rfl, Nat.le_refl _, heap_alloc_new w _, Nat.le_refl _, Nat.zero_le _, by simp, by simp⟩⟩
/-- The cells of a slice that reads as a list, flat. -/
theorem sl_cells {α : Type} {enc : α → List Value} {k : Nat} (hk : ∀ x, (enc x).length = k) (hk0 : 0 < k) {w : World} {lo b off : Nat} {xs : List α} (h : Sl w lo k (some ⟨b, off, none⟩) (xs.map enc)) : ∀ (j : Nat) (u : Value), (xs.flatMap enc)[j]? = some u → w.cell? (({ block := b, off := off } : Addr).add j) = some u := by
  intro j u hu
  have hl : j < xs.length * k := by
    have := (List.getElem?_eq_some_iff.1 hu).1
    rwa [flat_len enc k hk] at this
  have hi : j / k < xs.length := Nat.div_lt_of_lt_mul (by rw [Nat.mul_comm]; exact hl)
  obtain ⟨x, hx, _⟩ := drop_cons hi
  have hf := flat_get enc k hk xs (j / k) x hx (j % k) (Nat.mod_lt _ hk0)
  have hj : j / k * k + j % k = j := Nat.div_add_mod' j k
  rw [hj, hu] at hf
  obtain ⟨b', off', e, _, _, hc⟩ := h.at_ (i := j / k) (x := enc x) (by simp [hx])
  obtain ⟨rfl, rfl⟩ : b = b' ∧ off = off' := by simpa using e
  have hcc := hc (j % k) u hf.symm
  rw [Nat.add_assoc, hj] at hcc
  have ha : (({ block := b, off := off } : Addr).add j) = ⟨b, off + j, none⟩ := by
    unfold Addr.add; split
    · rename_i h0; rw [h0]; simp
    · rfl
  rw [ha]; exact hcc

set_option maxHeartbeats 1000000 in
theorem clone_any (A : Option Addr) (c : Nat) (ws : List Win) (w : World) (hl : ws.length ≤ 1000) (hW : Wins w 0 A ws) :
    Calls Try.prog 48 #[.slice A ws.length c] w fun e w' => ∃ v, e = .returned v ∧ w'.ownsRow w.heap.size 53 3 v ws.length (ws.flatMap Win.cells) ∧ Below w.heap.size w w' := by
  have hq := fun wx => Lib.run_eql_slice_nil (P := Try.prog) wx 41 53 A ws.length c 0 0 Try.underlying41
  rcases A with _ | ad
  · have hw : ws = [] := by
      cases ws with
      | nil => rfl
      | cons x xs => obtain ⟨b, off, e, _⟩ := hW (by simp); cases e
    subst hw
    simp only [List.length_nil, Option.isNone_none] at hq ⊢
    go_enter Try.func48, Try.ntmps48
    go_wp2_with fail
    go_ret
    exact ⟨_, rfl, own_nil _ _ _ _, Below.refl _ _⟩
  · simp only [Option.isNone_some] at hq
    obtain ⟨i0, hi, hz0, hz1, hz2⟩ := info_parts Try.infoWindow
    have hnews : ∀ (j : Nat) (u : Value), (ws.flatMap Win.cells)[j]? = some u → (w.alloc (.cells #[] 53)).cell? (ad.add j) = some u := by
      intro j u hu
      have h0 : 0 < (ws.map Win.cells).length := by
        have := (List.getElem?_eq_some_iff.1 hu).1
        rw [flat_len Win.cells 3 (fun _ => rfl)] at this
        simp; omega
      obtain ⟨b, off, e, _⟩ := hW h0
      obtain rfl : ad = ⟨b, off, none⟩ := Option.some.inj e
      have hs : Sl (w.alloc (.cells #[] 53)) 0 3 (some ⟨b, off, none⟩) (ws.map Win.cells) := Wins.below hW (below_alloc1 _ _)
      exact sl_cells (enc := Win.cells) (k := 3) (fun _ => rfl) (by omega) hs j u hu
    obtain ⟨n, hn⟩ : ∃ n, n = ws.length := ⟨_, rfl⟩
    have HN := Lib.hid hn
    rw [← hn] at hl hq ⊢
    clear hn
    go_enter Try.func48, Try.ntmps48
    go_wp2_with (at_builtin; refine wpList_append_own _ rfl (.tmp 5) (.tmp 6) 41 rfl w.heap.size 53 i0 _ 3 24 Try.underlying41 hi hz0 hz1 hz2 rfl (by decide) _ 0 [] rfl (own_void w 53 3) ad n c (ws.flatMap Win.cells) rfl ?c0 hnews ?c2 ?c3 ?c4 ?c5 ?_)
    case c0 => rw [flat_len Win.cells 3 (fun _ => rfl), ← HN.out]
    case c2 =>
      intro u hu
      obtain ⟨x, _, hx⟩ := List.mem_flatMap.1 hu
      simp [Win.cells] at hx
      rcases hx with rfl | rfl | rfl <;> rfl
    case c3 => unfold maxLen; omega
    case c4 => omega
    case c5 => simp
    intro v' w5 hown5 hg5 _
    have hb45 : Below w.heap.size w w5 := (below_alloc1 w _).grown hg5 (by simp) (fun g hg => by simp [Value.ownBlock] at hg; omega)
    clear hq hnews
    go_wp2_with fail
    go_ret
    exact ⟨v', rfl, hown5, hb45⟩


end Go.Proofs.Ytilkcailpkebdaa

/-
  treatymade2.Windows: valid windows for a length.
-/
namespace Go.Proofs.Ytilkcailpkebdaa
open Go.RowKit
set_option linter.unusedVariables false

theorem lt_of_heap {w : World} {b : Nat} {o : Obj} (h : w.heap[b]? = some o) : b < w.heap.size := by
  rcases Nat.lt_or_ge b w.heap.size with hlt | hge
  · exact hlt
  · rw [Array.getElem?_eq_none hge] at h; cases h
theorem own_low1 {w : World} {base base' : Nat} {e : TypeId} {size n : Nat} {v : Value} {xs : List Value} (h : w.ownsRow base e size v n xs) (hb : base' ≤ base) : w.ownsRow base' e size v n xs := by
  refine ⟨h.1, ?_⟩
  rcases h.2 with h0 | ⟨g, cap, cur, hv, hg, r⟩
  · exact .inl h0
  · exact .inr ⟨g, cap, cur, hv, by omega, r⟩

set_option maxRecDepth 100000 in
set_option maxHeartbeats 4000000 in
theorem mwindows_any (bd : Nat) (N : Int) (w : World) (hN0 : 1 ≤ N) (hN : N ≤ 1000) (hd : Deck w bd) :
    Calls Try.prog 22 #[.pointer (some ⟨bd, 0, none⟩), .int .i64 N] w fun e w' => ∃ (v : Value) (xs : List Win), e = .returned v ∧ xs.length ≤ 5 ∧ winsE xs N = 0 ∧ w'.ownsRow w.heap.size 53 3 v xs.length (xs.flatMap Win.cells) ∧ Deck w' bd ∧ w.grownBy w' (some bd) := by
  obtain ⟨i0, hi, hz0, hz1, hz2⟩ := info_parts Try.infoWindow
  have hlt := hd.lt
  go_enter Try.func22, Try.ntmps22
  go_wp2_with fail
  obtain ⟨w0, hw0⟩ : ∃ w0 : World, w0 = w.alloc (.cells #[.int .i64 0, .int .i64 0, .int .i64 0] 81) := ⟨_, rfl⟩
  have hh0 : w0.heap[w.heap.size]? = some (.cells #[.int .i64 0, .int .i64 0, .int .i64 0] 81 (0, 0)) := by rw [hw0]; exact heap_alloc_new w _
  have hd0 : Deck w0 bd := by rw [hw0]; exact hd.below (below_alloc1 _ _)
  have hg0 : w.grownBy w0 (some bd) := by rw [hw0]; exact only_alloc (only_refl _ _) _
  have hs0 : w0.heap.size = w.heap.size + 1 := by rw [hw0]; simp
  obtain ⟨bf, hbf⟩ : ∃ bf, bf = w.heap.size := ⟨_, rfl⟩
  rw [← hbf] at hh0
  have hbb : bd < bf := by omega
  have hbw : w.heap.size ≤ bf := by omega
  rw [← hw0, ← hbf]
  have HBF := Lib.hid hbf
  clear hw0 hbf hd
  refine (next_any bd 6 w0 (by omega) (by omega) hd0).mono ?_
  rintro e w1 ⟨r, rfl, hr0, hr1, hd1, hg1⟩
  have hh1 : w1.heap[bf]? = some (.cells #[.int .i64 0, .int .i64 0, .int .i64 0] 81 (0, 0)) := (hg1.block bf (lt_of_heap hh0) (fun e => by injection e with e; omega)).trans hh0
  have hg01 := only_trans hg0 hg1
  clear hh0 hd0 hg0 hg1
  have hs0' : w0.heap.size ≤ bf + 1 := by have := HBF.out; omega
  clear hs0
  go_wp2_with fail
  go_loopw [5, 7, 8, 9, 10, 11] (fun v t pp k _ _ wr => ∃ (xs : List Win) (fr per : Int) (kk : Nat) (a b c : Int), t = .int .i64 fr ∧ pp = .int .i64 per ∧ k = .int .i64 kk ∧ xs.length + kk ≤ 5 ∧ 0 ≤ fr ∧ fr + 19 * (kk : Int) ≤ 95 ∧ -1 ≤ per ∧ per ≤ 2 ∧ 0 ≤ a ∧ a ≤ 2000 ∧ 0 ≤ b ∧ b ≤ 2000 ∧ 0 ≤ c ∧ c ≤ 2000 ∧ MadeW N xs fr per (free3 a b c) ∧ wr.heap[bf]? = some (.cells #[.int .i64 a, .int .i64 b, .int .i64 c] 81 (0, 0)) ∧ wr.ownsRow (bf + 1) 53 3 v xs.length (xs.flatMap Win.cells) ∧ Deck wr bd ∧ w.grownBy wr (some bd)) (fun _ _ _ k _ _ _ => (intOf k).toNat)
  case atStart =>
    obtain ⟨rn, rfl⟩ := Int.eq_ofNat_of_zero_le hr0
    exact ⟨[], 0, -1, rn, 0, 0, 0, rfl, rfl, rfl, by simp; omega, by omega, by omega, by omega, by omega, by omega, by omega, by omega, by omega, by omega, by omega, MadeW.nil _ _, hh1, own_nil _ _ _ _, hd1, hg01⟩
  case round =>
    obtain ⟨xs, fr, per, kk, a, b, c, rfl, rfl, rfl, hkn, hf0, hf1, hp0, hp1, ha0, ha1, hb0, hb1, hc0, hc1, hmade, hh, hown, hdk, hgr⟩ := hrel
    have HMADE := Lib.hid hmade
    clear hmade hh1 hg01 hd1
    by_cases hk : 0 < kk
    case neg =>
      obtain rfl : kk = 0 := by omega
      go_wp2_with fail
      go_ret
      exact ⟨_, xs, rfl, by omega, HMADE.out.winsE (by omega) (by omega) (by omega), own_low1 hown (by omega), hdk, hgr⟩
    go_wp2_with fail
    refine (next_any bd 20 wr (by omega) (by omega) hdk).mono ?_
    rintro e w2 ⟨st, rfl, hst0, hst1, hd2, hg2⟩
    have hh2 : w2.heap[bf]? = some (.cells #[.int .i64 a, .int .i64 b, .int .i64 c] 81 (0, 0)) := (hg2.block bf (lt_of_heap hh) (fun e => by injection e with e; omega)).trans hh
    have hown2 := hown.kept hg2 (own_far hown (by omega))
    have hgr2 := only_trans hgr hg2
    clear hh hown hgr hg2 hdk
    go_upto_if 21 with fail
    go_cut [8] (fun s8 wc => ∃ per' : Int, s8 = .int .i64 per' ∧ -1 ≤ per' ∧ per' ≤ 2 ∧ MadeW N xs (fr + st) per' (free3 a b c) ∧ w2 = wc)
    case first =>
      by_cases hs : 0 < st
      · go_wp2_with fail
        go_meet
        exact ⟨-1, rfl, by omega, by omega, HMADE.out.step hs, rfl⟩
      · obtain rfl : st = 0 := by omega
        go_wp2_with fail
        go_meet
        exact ⟨per, rfl, hp0, hp1, by rw [Int.add_zero]; exact HMADE.out, rfl⟩
    case rest =>
      obtain ⟨per', rfl, hq0, hq1, hmade', rfl⟩ := hcut
      have HM2 := Lib.hid hmade'
      clear hmade' HMADE hp0 hp1
      go_wp2_with fail
      refine (next_any bd 3 w2 (by omega) (by omega) hd2).mono ?_
      rintro e w3 ⟨p, rfl, hpp0, hpp1, hd3, hg3⟩
      have hh3 : w3.heap[bf]? = some (.cells #[.int .i64 a, .int .i64 b, .int .i64 c] 81 (0, 0)) := (hg3.block bf (lt_of_heap hh2) (fun e => by injection e with e; omega)).trans hh2
      have hown3 := hown2.kept hg3 (own_far hown2 (by omega))
      have hgr3 := only_trans hgr2 hg3
      have n0 : w3.cell? ⟨bf, 0, none⟩ = some (.int .i64 a) := by simp [World.cell?, hh3]
      have n1 : w3.cell? ⟨bf, 1, none⟩ = some (.int .i64 b) := by simp [World.cell?, hh3]
      have n2 : w3.cell? ⟨bf, 2, none⟩ = some (.int .i64 c) := by simp [World.cell?, hh3]
      clear hh2 hown2 hgr2 hg3 hd2
      rcases (show p = 0 ∨ p = 1 ∨ p = 2 by omega) with rfl | rfl | rfl
      · by_cases hcont : 0 ≤ per' ∨ fr + st < a
        · by_cases hc1' : 0 ≤ per'
          · go_wp2_with fail
            go_roundw
            case rel => exact ⟨xs, fr + st, per', kk - 1, a, b, c, rfl, rfl, val_int (by omega), by omega, by omega, by omega, hq0, hq1, ha0, ha1, hb0, hb1, hc0, hc1, HM2.out, hh3, hown3, hd3, hgr3⟩
            case measure => simp [intOf]; omega
          · have hc2 : fr + st < a := by omega
            go_wp2_with fail
            go_roundw
            case rel => exact ⟨xs, fr + st, per', kk - 1, a, b, c, rfl, rfl, val_int (by omega), by omega, by omega, by omega, hq0, hq1, ha0, ha1, hb0, hb1, hc0, hc1, HM2.out, hh3, hown3, hd3, hgr3⟩
            case measure => simp [intOf]; omega
        · have hcA : ¬ 0 ≤ per' := by omega
          have hcB : ¬ fr + st < a := by omega
          clear hcont
          go_wp2_with fail
          refine (next_any bd N w3 (by omega) (by omega) hd3).mono ?_
          rintro e w4 ⟨r4, rfl, hr40, hr41, hd4, hg4⟩
          have hh4 : w4.heap[bf]? = some (.cells #[.int .i64 a, .int .i64 b, .int .i64 c] 81 (0, 0)) := (hg4.block bf (lt_of_heap hh3) (fun e => by injection e with e; omega)).trans hh3
          have hown4 := hown3.kept hg4 (own_far hown3 (by omega))
          have hgr4 := only_trans hgr3 hg4
          have m0 : w4.cell? ⟨bf, 0, none⟩ = some (.int .i64 a) := by simp [World.cell?, hh4]
          have mf : w4.frozen? ⟨bf, 0, none⟩ = false := by simp [World.frozen?, hh4]
          clear n0 n1 n2 hh3 hown3 hgr3 hg4 hd3
          go_upto_region 15 with fail
          obtain ⟨w5, hw5⟩ : ∃ w5 : World, w5 = w4.setCell ⟨bf, 0, none⟩ (.int .i64 (fr + st + 1 + r4)) := ⟨_, rfl⟩
          have hh5 : w5.heap[bf]? = some (.cells #[.int .i64 (fr + st + 1 + r4), .int .i64 b, .int .i64 c] 81 (0, 0)) := by rw [hw5]; simp [World.setCell, Array.getElem?_modify, hh4]
          have hown5 : w5.ownsRow (bf + 1) 53 3 u5 xs.length (xs.flatMap Win.cells) := by
            rw [hw5]; exact hown4.kept (row := some bf) (only_setCell (only_refl _ _) (.inl rfl) _) (own_far hown4 (by omega))
          have hd5 : Deck w5 bd := by rw [hw5]; exact hd4.keep fun k hk => Below.heap_setCell _ _ _ _ (by dsimp only; omega)
          have hgr5 : w.grownBy w5 (some bd) := by rw [hw5]; exact only_setCell hgr4 (.inr hbw) _
          have o0 : w5.cell? ⟨bf, 0, none⟩ = some (.int .i64 (fr + st + 1 + r4)) := by simp [World.cell?, hh5]
          rw [← hw5]
          have hlow := own_low hown5
          have hsz5 := lt_of_heap hh5
          clear hw5 hh4 hown4 hgr4 hd4 m0 mf
          go_wp2_with (at_builtin; refine wpList_append_own _ rfl (.tmp 46) (.tmp 53) 41 rfl (bf + 1) 53 i0 _ 3 24 Try.underlying41 hi hz0 hz1 hz2 rfl (by decide) _ _ _ rfl (hown5.alloc _) ⟨w5.heap.size, 0, none⟩ 1 1 [.int .i64 0, .int .i64 (fr + st), .int .i64 (fr + st + 1 + r4)] rfl rfl ?k1 ?k2 ?k3 ?k4 ?k5 ?_)
          case k1 => exact cell_new _ _ _
          case k2 => intro u hu; simp at hu; rcases hu with rfl | rfl | rfl <;> rfl
          case k3 => unfold maxLen; omega
          case k4 => omega
          case k5 => simp; omega
          intro v' w6 hown6 hg6 _
          have hgr6 : w.grownBy w6 (some bd) := only_grown (only_alloc hgr5 _) hg6 (fun g hg => by have := hlow g hg; omega)
          have hd6 : Deck w6 bd := (hd5.below (below_alloc1 _ _)).grown hg6 (fun g hg => by have := hlow g hg; omega)
          have hh6 : w6.heap[bf]? = some (.cells #[.int .i64 (fr + st + 1 + r4), .int .i64 b, .int .i64 c] 81 (0, 0)) := (hg6.block bf (by simp; omega) (fun e => by have := hlow bf e.symm; omega)).trans ((Below.heap_alloc w5 _ bf hsz5).trans hh5)
          clear hh5 hown5 hgr5 hd5 o0 hg6
          go_wp2_with fail
          go_roundw
          case rel =>
            refine ⟨xs ++ [⟨0, fr + st, fr + st + 1 + r4⟩], fr + st, 0, kk - 1, (fr + st + 1 + r4), b, c, rfl, rfl, val_int (by omega), by simp; omega, by omega, by omega, by omega, by omega, by omega, by omega, by omega, by omega, by omega, by omega, ?_, hh6, ?_, hd6, hgr6⟩
            · exact HM2.out.snoc (p := 0) (r := r4) (by omega) (by omega) (by omega) (by omega) (by omega) hr40 hr41 hN (by simp [free3]; omega) (by simp [free3]) (fun q hq => by unfold free3; repeat' split <;> first | rfl | (exfalso; omega))
            · rw [List.flatMap_append, List.length_append]; exact hown6
          case measure => simp [intOf]; omega
      · by_cases hcont : 1 ≤ per' ∨ fr + st < b
        · by_cases hc1' : 1 ≤ per'
          · go_wp2_with fail
            go_roundw
            case rel => exact ⟨xs, fr + st, per', kk - 1, a, b, c, rfl, rfl, val_int (by omega), by omega, by omega, by omega, hq0, hq1, ha0, ha1, hb0, hb1, hc0, hc1, HM2.out, hh3, hown3, hd3, hgr3⟩
            case measure => simp [intOf]; omega
          · have hc2 : fr + st < b := by omega
            go_wp2_with fail
            go_roundw
            case rel => exact ⟨xs, fr + st, per', kk - 1, a, b, c, rfl, rfl, val_int (by omega), by omega, by omega, by omega, hq0, hq1, ha0, ha1, hb0, hb1, hc0, hc1, HM2.out, hh3, hown3, hd3, hgr3⟩
            case measure => simp [intOf]; omega
        · have hcA : ¬ 1 ≤ per' := by omega
          have hcB : ¬ fr + st < b := by omega
          clear hcont
          go_wp2_with fail
          refine (next_any bd N w3 (by omega) (by omega) hd3).mono ?_
          rintro e w4 ⟨r4, rfl, hr40, hr41, hd4, hg4⟩
          have hh4 : w4.heap[bf]? = some (.cells #[.int .i64 a, .int .i64 b, .int .i64 c] 81 (0, 0)) := (hg4.block bf (lt_of_heap hh3) (fun e => by injection e with e; omega)).trans hh3
          have hown4 := hown3.kept hg4 (own_far hown3 (by omega))
          have hgr4 := only_trans hgr3 hg4
          have m0 : w4.cell? ⟨bf, 1, none⟩ = some (.int .i64 b) := by simp [World.cell?, hh4]
          have mf : w4.frozen? ⟨bf, 1, none⟩ = false := by simp [World.frozen?, hh4]
          clear n0 n1 n2 hh3 hown3 hgr3 hg4 hd3
          go_upto_region 15 with fail
          obtain ⟨w5, hw5⟩ : ∃ w5 : World, w5 = w4.setCell ⟨bf, 1, none⟩ (.int .i64 (fr + st + 1 + r4)) := ⟨_, rfl⟩
          have hh5 : w5.heap[bf]? = some (.cells #[.int .i64 a, .int .i64 (fr + st + 1 + r4), .int .i64 c] 81 (0, 0)) := by rw [hw5]; simp [World.setCell, Array.getElem?_modify, hh4]
          have hown5 : w5.ownsRow (bf + 1) 53 3 u5 xs.length (xs.flatMap Win.cells) := by
            rw [hw5]; exact hown4.kept (row := some bf) (only_setCell (only_refl _ _) (.inl rfl) _) (own_far hown4 (by omega))
          have hd5 : Deck w5 bd := by rw [hw5]; exact hd4.keep fun k hk => Below.heap_setCell _ _ _ _ (by dsimp only; omega)
          have hgr5 : w.grownBy w5 (some bd) := by rw [hw5]; exact only_setCell hgr4 (.inr hbw) _
          have o0 : w5.cell? ⟨bf, 1, none⟩ = some (.int .i64 (fr + st + 1 + r4)) := by simp [World.cell?, hh5]
          rw [← hw5]
          have hlow := own_low hown5
          have hsz5 := lt_of_heap hh5
          clear hw5 hh4 hown4 hgr4 hd4 m0 mf
          go_wp2_with (at_builtin; refine wpList_append_own _ rfl (.tmp 46) (.tmp 53) 41 rfl (bf + 1) 53 i0 _ 3 24 Try.underlying41 hi hz0 hz1 hz2 rfl (by decide) _ _ _ rfl (hown5.alloc _) ⟨w5.heap.size, 0, none⟩ 1 1 [.int .i64 1, .int .i64 (fr + st), .int .i64 (fr + st + 1 + r4)] rfl rfl ?k1 ?k2 ?k3 ?k4 ?k5 ?_)
          case k1 => exact cell_new _ _ _
          case k2 => intro u hu; simp at hu; rcases hu with rfl | rfl | rfl <;> rfl
          case k3 => unfold maxLen; omega
          case k4 => omega
          case k5 => simp; omega
          intro v' w6 hown6 hg6 _
          have hgr6 : w.grownBy w6 (some bd) := only_grown (only_alloc hgr5 _) hg6 (fun g hg => by have := hlow g hg; omega)
          have hd6 : Deck w6 bd := (hd5.below (below_alloc1 _ _)).grown hg6 (fun g hg => by have := hlow g hg; omega)
          have hh6 : w6.heap[bf]? = some (.cells #[.int .i64 a, .int .i64 (fr + st + 1 + r4), .int .i64 c] 81 (0, 0)) := (hg6.block bf (by simp; omega) (fun e => by have := hlow bf e.symm; omega)).trans ((Below.heap_alloc w5 _ bf hsz5).trans hh5)
          clear hh5 hown5 hgr5 hd5 o0 hg6
          go_wp2_with fail
          go_roundw
          case rel =>
            refine ⟨xs ++ [⟨1, fr + st, fr + st + 1 + r4⟩], fr + st, 1, kk - 1, a, (fr + st + 1 + r4), c, rfl, rfl, val_int (by omega), by simp; omega, by omega, by omega, by omega, by omega, by omega, by omega, by omega, by omega, by omega, by omega, ?_, hh6, ?_, hd6, hgr6⟩
            · exact HM2.out.snoc (p := 1) (r := r4) (by omega) (by omega) (by omega) (by omega) (by omega) hr40 hr41 hN (by simp [free3]; omega) (by simp [free3]) (fun q hq => by unfold free3; repeat' split <;> first | rfl | (exfalso; omega))
            · rw [List.flatMap_append, List.length_append]; exact hown6
          case measure => simp [intOf]; omega
      · by_cases hcont : 2 ≤ per' ∨ fr + st < c
        · by_cases hc1' : 2 ≤ per'
          · go_wp2_with fail
            go_roundw
            case rel => exact ⟨xs, fr + st, per', kk - 1, a, b, c, rfl, rfl, val_int (by omega), by omega, by omega, by omega, hq0, hq1, ha0, ha1, hb0, hb1, hc0, hc1, HM2.out, hh3, hown3, hd3, hgr3⟩
            case measure => simp [intOf]; omega
          · have hc2 : fr + st < c := by omega
            go_wp2_with fail
            go_roundw
            case rel => exact ⟨xs, fr + st, per', kk - 1, a, b, c, rfl, rfl, val_int (by omega), by omega, by omega, by omega, hq0, hq1, ha0, ha1, hb0, hb1, hc0, hc1, HM2.out, hh3, hown3, hd3, hgr3⟩
            case measure => simp [intOf]; omega
        · have hcA : ¬ 2 ≤ per' := by omega
          have hcB : ¬ fr + st < c := by omega
          clear hcont
          go_wp2_with fail
          refine (next_any bd N w3 (by omega) (by omega) hd3).mono ?_
          rintro e w4 ⟨r4, rfl, hr40, hr41, hd4, hg4⟩
          have hh4 : w4.heap[bf]? = some (.cells #[.int .i64 a, .int .i64 b, .int .i64 c] 81 (0, 0)) := (hg4.block bf (lt_of_heap hh3) (fun e => by injection e with e; omega)).trans hh3
          have hown4 := hown3.kept hg4 (own_far hown3 (by omega))
          have hgr4 := only_trans hgr3 hg4
          have m0 : w4.cell? ⟨bf, 2, none⟩ = some (.int .i64 c) := by simp [World.cell?, hh4]
          have mf : w4.frozen? ⟨bf, 2, none⟩ = false := by simp [World.frozen?, hh4]
          clear n0 n1 n2 hh3 hown3 hgr3 hg4 hd3
          go_upto_region 15 with fail
          obtain ⟨w5, hw5⟩ : ∃ w5 : World, w5 = w4.setCell ⟨bf, 2, none⟩ (.int .i64 (fr + st + 1 + r4)) := ⟨_, rfl⟩
          have hh5 : w5.heap[bf]? = some (.cells #[.int .i64 a, .int .i64 b, .int .i64 (fr + st + 1 + r4)] 81 (0, 0)) := by rw [hw5]; simp [World.setCell, Array.getElem?_modify, hh4]
          have hown5 : w5.ownsRow (bf + 1) 53 3 u5 xs.length (xs.flatMap Win.cells) := by
            rw [hw5]; exact hown4.kept (row := some bf) (only_setCell (only_refl _ _) (.inl rfl) _) (own_far hown4 (by omega))
          have hd5 : Deck w5 bd := by rw [hw5]; exact hd4.keep fun k hk => Below.heap_setCell _ _ _ _ (by dsimp only; omega)
          have hgr5 : w.grownBy w5 (some bd) := by rw [hw5]; exact only_setCell hgr4 (.inr hbw) _
          have o0 : w5.cell? ⟨bf, 2, none⟩ = some (.int .i64 (fr + st + 1 + r4)) := by simp [World.cell?, hh5]
          rw [← hw5]
          have hlow := own_low hown5
          have hsz5 := lt_of_heap hh5
          clear hw5 hh4 hown4 hgr4 hd4 m0 mf
          go_wp2_with (at_builtin; refine wpList_append_own _ rfl (.tmp 46) (.tmp 53) 41 rfl (bf + 1) 53 i0 _ 3 24 Try.underlying41 hi hz0 hz1 hz2 rfl (by decide) _ _ _ rfl (hown5.alloc _) ⟨w5.heap.size, 0, none⟩ 1 1 [.int .i64 2, .int .i64 (fr + st), .int .i64 (fr + st + 1 + r4)] rfl rfl ?k1 ?k2 ?k3 ?k4 ?k5 ?_)
          case k1 => exact cell_new _ _ _
          case k2 => intro u hu; simp at hu; rcases hu with rfl | rfl | rfl <;> rfl
          case k3 => unfold maxLen; omega
          case k4 => omega
          case k5 => simp; omega
          intro v' w6 hown6 hg6 _
          have hgr6 : w.grownBy w6 (some bd) := only_grown (only_alloc hgr5 _) hg6 (fun g hg => by have := hlow g hg; omega)
          have hd6 : Deck w6 bd := (hd5.below (below_alloc1 _ _)).grown hg6 (fun g hg => by have := hlow g hg; omega)
          have hh6 : w6.heap[bf]? = some (.cells #[.int .i64 a, .int .i64 b, .int .i64 (fr + st + 1 + r4)] 81 (0, 0)) := (hg6.block bf (by simp; omega) (fun e => by have := hlow bf e.symm; omega)).trans ((Below.heap_alloc w5 _ bf hsz5).trans hh5)
          clear hh5 hown5 hgr5 hd5 o0 hg6
          go_wp2_with fail
          go_roundw
          case rel =>
            refine ⟨xs ++ [⟨2, fr + st, fr + st + 1 + r4⟩], fr + st, 2, kk - 1, a, b, (fr + st + 1 + r4), rfl, rfl, val_int (by omega), by simp; omega, by omega, by omega, by omega, by omega, by omega, by omega, by omega, by omega, by omega, by omega, ?_, hh6, ?_, hd6, hgr6⟩
            · exact HM2.out.snoc (p := 2) (r := r4) (by omega) (by omega) (by omega) (by omega) (by omega) hr40 hr41 hN (by simp [free3]; omega) (by simp [free3]) (fun q hq => by unfold free3; repeat' split <;> first | rfl | (exfalso; omega))
            · rw [List.flatMap_append, List.length_append]; exact hown6
          case measure => simp [intOf]; omega

end Go.Proofs.Ytilkcailpkebdaa

/-
  The world behind 'c := api.Choice{..}' in window.Evaluate, whatever the order of its operations.
-/
namespace Go.Proofs.Ytilkcailpkebdaa
open Go.RowKit
set_option linter.unusedVariables false

def CutR (w4 : World) (nw g : Nat) (G : Option Addr) (ws : List Win) (bc g2 : Nat) (v1 : Value) (wc : World) : Prop :=
  wc.heap[bc]? = some (.cells #[v1, .slice G nw g, .slice (some ⟨g2, 0, none⟩) nw nw, .int .i64 0] 46 (0, 0)) ∧ wc.rowIs g2 3 nw (fun _ => .int .i64 0) ∧ wc.ownsRow w4.heap.size 53 3 v1 nw (ws.flatMap Win.cells) ∧ Below w4.heap.size w4 wc ∧ w4.heap.size ≤ bc ∧ w4.heap.size ≤ g2

abbrev rowO (nw : Nat) : Obj := .cells (madeCells #[.int .i64 0] nw) 3
abbrev zeroO : Obj := .cells #[.slice none 0 0, .slice none 0 0, .slice none 0 0, .int .i64 0] 46
abbrev choO (v1 : Value) (G : Option Addr) (nw g g2 : Nat) : Obj := .cells #[v1, .slice G nw g, .slice (some ⟨g2, 0, none⟩) nw nw, .int .i64 0] 46
abbrev set4 (W : World) (bc : Nat) (v1 : Value) (G : Option Addr) (nw g g2 : Nat) : World :=
  (((W.setCell ⟨bc, 0, none⟩ v1).setCell ⟨bc, 1, none⟩ (.slice G nw g)).setCell ⟨bc, 2, none⟩ (.slice (some ⟨g2, 0, none⟩) nw nw)).setCell ⟨bc, 3, none⟩ (.int .i64 0)
theorem set4_same {W : World} {bc : Nat} {v1 : Value} {G : Option Addr} {nw g g2 : Nat} (h : W.heap[bc]? = some zeroO) : (set4 W bc v1 G nw g g2).heap[bc]? = some (choO v1 G nw g g2) := by
  unfold set4; simp [World.setCell, Array.getElem?_modify, h]
theorem set4_other {W : World} {bc : Nat} {v1 : Value} {G : Option Addr} {nw g g2 : Nat} {k : Nat} (h : k ≠ bc) : (set4 W bc v1 G nw g g2).heap[k]? = W.heap[k]? := by
  unfold set4
  rw [Below.heap_setCell _ _ _ _ h, Below.heap_setCell _ _ _ _ h, Below.heap_setCell _ _ _ _ h, Below.heap_setCell _ _ _ _ h]
theorem set4_size (W : World) (bc : Nat) (v1 : Value) (G : Option Addr) (nw g g2 : Nat) : (set4 W bc v1 G nw g g2).heap.size = W.heap.size := by
  unfold set4; simp [World.setCell]
theorem set4_below {w4 W : World} {bc : Nat} {v1 : Value} {G : Option Addr} {nw g g2 : Nat} (h : Below w4.heap.size w4 W) (hb : w4.heap.size ≤ bc) : Below w4.heap.size w4 (set4 W bc v1 G nw g g2) :=
  (((h.setCell hb _).setCell hb _).setCell hb _).setCell hb _
theorem set1_own {W : World} {bc o base : Nat} {v u : Value} {n s : Nat} {e : TypeId} {xs : List Value} (h : W.ownsRow base e s v n xs) (hf : bc < base) : (W.setCell ⟨bc, o, none⟩ u).ownsRow base e s v n xs :=
  h.kept (row := some bc) (only_setCell (only_refl _ _) (.inl rfl) _) (own_far h hf)
theorem set4_own {W : World} {bc base : Nat} {v1 v : Value} {G : Option Addr} {nw g g2 n s : Nat} {e : TypeId} {xs : List Value} (h : W.ownsRow base e s v n xs) (hf : bc < base) : (set4 W bc v1 G nw g g2).ownsRow base e s v n xs := by
  unfold set4
  exact set1_own (set1_own (set1_own (set1_own h hf) hf) hf) hf

variable {w4 w5 X : World} {nw g : Nat} {G : Option Addr} {ws : List Win} {v1 : Value}

/-- The clone first, then the row, then the box. -/
theorem cut1 (hb : Below w4.drew.heap.size w4.drew w5) (hv : w5.ownsRow w4.drew.heap.size 53 3 v1 nw (ws.flatMap Win.cells)) :
    CutR w4 nw g G ws (w5.heap.size + 1) w5.heap.size v1 ((w5.alloc (rowO nw)).alloc (choO v1 G nw g w5.heap.size)) := by
  have hB : Below w4.heap.size w4 w5 := (Below.refl _ _).drew.trans hb
  have hs := hB.size
  refine ⟨?_, ?_, ?_, ?_, by omega, hs⟩
  · have h := heap_alloc_new (w5.alloc (rowO nw)) (choO v1 G nw g w5.heap.size)
    have e : (w5.alloc (rowO nw)).heap.size = w5.heap.size + 1 := by simp
    rw [e] at h; exact h
  · exact World.rowIs.of_block (World.rowIs_made w5 _ nw _) (Below.heap_alloc _ _ _ (by simp))
  · exact own_below hv (((Below.refl _ _).alloc (Nat.le_refl _) _).alloc (by simp) _)
  · exact (hB.alloc hs _).alloc (by simp; omega) _
theorem cut2 (hb : Below w4.drew.heap.size w4.drew w5) (hv : w5.ownsRow w4.drew.heap.size 53 3 v1 nw (ws.flatMap Win.cells)) :
    CutR w4 nw g G ws w5.heap.size (w5.heap.size + 1) v1 ((w5.alloc (choO v1 G nw g (w5.heap.size + 1))).alloc (rowO nw)) := by
  have hB : Below w4.heap.size w4 w5 := (Below.refl _ _).drew.trans hb
  have hs := hB.size
  refine ⟨?_, ?_, ?_, ?_, hs, by omega⟩
  · exact (Below.heap_alloc _ _ _ (by simp)).trans (heap_alloc_new _ _)
  · have h := World.rowIs_made (w5.alloc (choO v1 G nw g (w5.heap.size + 1))) (.int .i64 0) nw 3
    have e : (w5.alloc (choO v1 G nw g (w5.heap.size + 1))).heap.size = w5.heap.size + 1 := by simp
    rw [e] at h; exact h
  · exact own_below hv (((Below.refl _ _).alloc (Nat.le_refl _) _).alloc (by simp) _)
  · exact (hB.alloc hs _).alloc (by simp; omega) _
theorem cut3 (hb : Below (w4.alloc (rowO nw)).drew.heap.size (w4.alloc (rowO nw)).drew w5) (hv : w5.ownsRow (w4.alloc (rowO nw)).drew.heap.size 53 3 v1 nw (ws.flatMap Win.cells)) :
    CutR w4 nw g G ws w5.heap.size w4.heap.size v1 (w5.alloc (choO v1 G nw g w4.heap.size)) := by
  have hX : Below w4.heap.size w4 (w4.alloc (rowO nw)).drew := ((Below.refl _ _).alloc (Nat.le_refl _) _).drew
  have hB : Below w4.heap.size w4 w5 := hX.trans (hb.mono hX.size)
  have hs := hB.size
  have hlt : w4.heap.size < w5.heap.size := by have := hb.size; simp at this; omega
  refine ⟨heap_alloc_new _ _, ?_, ?_, hB.alloc hs _, hs, Nat.le_refl _⟩
  · refine World.rowIs.of_block (World.rowIs_made w4 _ nw _) ((Below.heap_alloc _ _ _ hlt).trans (hb.block _ (by simp)))
  · exact own_mono (own_below hv ((Below.refl _ _).alloc (Nat.le_refl _) _)) hX.size
theorem cut4 (hb : Below ((w4.alloc (rowO nw)).alloc zeroO).drew.heap.size ((w4.alloc (rowO nw)).alloc zeroO).drew w5) (hv : w5.ownsRow ((w4.alloc (rowO nw)).alloc zeroO).drew.heap.size 53 3 v1 nw (ws.flatMap Win.cells)) :
    CutR w4 nw g G ws (w4.heap.size + 1) w4.heap.size v1 (set4 w5 (w4.heap.size + 1) v1 G nw g w4.heap.size) := by
  have hX : Below w4.heap.size w4 ((w4.alloc (rowO nw)).alloc zeroO).drew := (((Below.refl _ _).alloc (Nat.le_refl _) _).alloc (by simp) _).drew
  have hB : Below w4.heap.size w4 w5 := hX.trans (hb.mono hX.size)
  have e : (w4.alloc (rowO nw)).heap.size = w4.heap.size + 1 := by simp
  refine ⟨set4_same ?_, ?_, ?_, set4_below hB (by omega), by omega, Nat.le_refl _⟩
  · refine (hb.block _ (by simp)).trans ?_
    have h := heap_alloc_new (w4.alloc (rowO nw)) zeroO
    rw [e] at h; exact h
  · refine World.rowIs.of_block (World.rowIs_made w4 _ nw _) ((set4_other (by omega)).trans ((hb.block _ (by simp; omega)).trans ?_))
    exact Below.heap_alloc _ _ _ (by simp)
  · exact own_mono (set4_own hv (by simp)) hX.size
theorem cut5 (hb : Below (w4.alloc zeroO).drew.heap.size (w4.alloc zeroO).drew w5) (hv : w5.ownsRow (w4.alloc zeroO).drew.heap.size 53 3 v1 nw (ws.flatMap Win.cells)) :
    CutR w4 nw g G ws w4.heap.size w5.heap.size v1 ((set4 w5 w4.heap.size v1 G nw g w5.heap.size).alloc (rowO nw)) := by
  have hX : Below w4.heap.size w4 (w4.alloc zeroO).drew := ((Below.refl _ _).alloc (Nat.le_refl _) _).drew
  have hB : Below w4.heap.size w4 w5 := hX.trans (hb.mono hX.size)
  have hs := hB.size
  have hlt : w4.heap.size < w5.heap.size := by have := hb.size; simp at this; omega
  refine ⟨?_, ?_, ?_, ?_, Nat.le_refl _, hs⟩
  · exact (Below.heap_alloc _ _ _ (by rw [set4_size]; exact hlt)).trans (set4_same ((hb.block _ (by simp)).trans (heap_alloc_new _ _)))
  · have h := World.rowIs_made (set4 w5 w4.heap.size v1 G nw g w5.heap.size) (.int .i64 0) nw 3
    rw [set4_size] at h; exact h
  · exact own_mono (own_below (set4_own hv (by simp)) ((Below.refl _ _).alloc (Nat.le_refl _) _)) hX.size
  · exact (set4_below hB (Nat.le_refl _)).alloc (by rw [set4_size]; exact hs) _
theorem cut6 (hb : Below ((w4.alloc zeroO).alloc (rowO nw)).drew.heap.size ((w4.alloc zeroO).alloc (rowO nw)).drew w5) (hv : w5.ownsRow ((w4.alloc zeroO).alloc (rowO nw)).drew.heap.size 53 3 v1 nw (ws.flatMap Win.cells)) :
    CutR w4 nw g G ws w4.heap.size (w4.heap.size + 1) v1 (set4 w5 w4.heap.size v1 G nw g (w4.heap.size + 1)) := by
  have hX : Below w4.heap.size w4 ((w4.alloc zeroO).alloc (rowO nw)).drew := (((Below.refl _ _).alloc (Nat.le_refl _) _).alloc (by simp) _).drew
  have hB : Below w4.heap.size w4 w5 := hX.trans (hb.mono hX.size)
  have e : (w4.alloc zeroO).heap.size = w4.heap.size + 1 := by simp
  refine ⟨set4_same ?_, ?_, ?_, set4_below hB (Nat.le_refl _), Nat.le_refl _, by omega⟩
  · exact (hb.block _ (by simp; omega)).trans ((Below.heap_alloc _ _ _ (by simp)).trans (heap_alloc_new _ _))
  · have h := World.rowIs_made (w4.alloc zeroO) (.int .i64 0) nw 3
    rw [e] at h
    exact World.rowIs.of_block h ((set4_other (by omega)).trans (hb.block _ (by simp)))
  · exact own_mono (set4_own hv (by simp; omega)) hX.size

end Go.Proofs.Ytilkcailpkebdaa
