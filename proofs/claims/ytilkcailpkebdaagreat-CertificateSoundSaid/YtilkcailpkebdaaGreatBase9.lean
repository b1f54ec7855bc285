/-
  Texts of the proof, one after the other.
-/
import Derived.Test.YtilkcailpkebdaaGreatBase8
import Derived.Test.YtilkcailpkebdaaGreatBase5
import Derived.Test.YtilkcailpkebdaaGreatBase7
import Derived.RegionTactic
import Derived.Test.YtilkcailpkebdaaGreatBase2
import Derived.Deep.OwnRows
import Derived.Deep.LoopGhost
import Derived.Test.YtilkcailpkebdaaGreatBase3

/-
  treatyref25.Points: its contract.
-/
namespace Go.Proofs.YtilkcailpkebdaaGreat
open Go.RowKit
set_option linter.unusedVariables false

theorem hoursL_snoc (p : Int) : ∀ (ls : List Los) (ams : List Int) (l : Los) (a : Int), ls.length = ams.length → hoursL (ls ++ [l]) (ams ++ [a]) p = hoursL ls ams p ++ if l.peril = p ∧ 0 < a then [l.hour] else [] := by
  intro ls
  induction ls with
  | nil =>
    intro ams l a hl
    cases ams with
    | nil => simp only [List.nil_append, hoursL]
    | cons b bs => simp at hl
  | cons x xs ih =>
    intro ams l a hl
    cases ams with
    | nil => simp at hl
    | cons b bs =>
      simp only [List.cons_append, hoursL]
      rw [ih bs l a (by simpa using hl)]
      by_cases h : x.peril = p ∧ 0 < b
      · rw [if_pos h, if_pos h]; rfl
      · rw [if_neg h, if_neg h]
theorem hoursL_next {los : List Los} {am : List Int} {k : Nat} {l : Los} {a : Int} (hlen : am.length = los.length) (hl : los[k]? = some l) (ha : am[k]? = some a) (p : Int) : hoursL (los.take (k + 1)) (am.take (k + 1)) p = hoursL (los.take k) (am.take k) p ++ if l.peril = p ∧ 0 < a then [l.hour] else [] := by
  have h1 := (List.getElem?_eq_some_iff.1 hl).1
  have h2 := (List.getElem?_eq_some_iff.1 ha).1
  rw [List.take_add_one, List.take_add_one, hl, ha]
  exact hoursL_snoc p _ _ l a (by rw [List.length_take, List.length_take]; omega)
theorem hoursF_yes {los : List Los} {am : List Int} {k : Nat} {l : Los} {a : Int} (hlen : am.length = los.length) (hl : los[k]? = some l) (ha : am[k]? = some a) {p : Int} (h : l.peril = p ∧ 0 < a) : insI (hoursF (los.take k) (am.take k) p) l.hour = hoursF (los.take (k + 1)) (am.take (k + 1)) p := by
  unfold hoursF insAll; rw [hoursL_next hlen hl ha, if_pos h]; simp
theorem hoursF_no {los : List Los} {am : List Int} {k : Nat} {l : Los} {a : Int} (hlen : am.length = los.length) (hl : los[k]? = some l) (ha : am[k]? = some a) {p : Int} (h : ¬ (l.peril = p ∧ 0 < a)) : hoursF (los.take k) (am.take k) p = hoursF (los.take (k + 1)) (am.take (k + 1)) p := by
  unfold hoursF; rw [hoursL_next hlen hl ha, if_neg h]; simp
theorem hoursL_len (p : Int) : ∀ (ls : List Los) (ams : List Int), (hoursL ls ams p).length ≤ ls.length := by
  intro ls
  induction ls with
  | nil => intro ams; simp [hoursL]
  | cons l ls ih =>
    intro ams
    cases ams with
    | nil => simp [hoursL]
    | cons a ams =>
      have := ih ams
      simp only [hoursL]; split <;> simp only [List.length_cons] <;> omega
theorem hoursF_len (los : List Los) (am : List Int) (p : Int) : (hoursF los am p).length ≤ los.length := Nat.le_trans (insAll_len _) (hoursL_len p los am)
theorem hoursF_take_len (los : List Los) (am : List Int) (p : Int) (k : Nat) : (hoursF (los.take k) (am.take k) p).length ≤ los.length := Nat.le_trans (hoursF_len _ _ _) (by rw [List.length_take]; omega)
theorem lt_of_heap1 {w : World} {b : Nat} {o : Obj} (h : w.heap[b]? = some o) : b < w.heap.size := by
  rcases Nat.lt_or_ge b w.heap.size with hlt | hge
  · exact hlt
  · rw [Array.getElem?_eq_none hge] at h; cases h
theorem pts_next {los : List Los} {am : List Int} {p : Int} {hs : List Int} {j : Nat} {h : Int} (hh : hs[j]? = some h) : (((hs.take j).map fun t => (⟨t, sumAt los am p t⟩ : P2)).flatMap P2.cells) ++ P2.cells ⟨h, sumAt los am p h⟩ = (((hs.take (j + 1)).map fun t => (⟨t, sumAt los am p t⟩ : P2)).flatMap P2.cells) := by
  rw [List.take_add_one, hh]; simp

set_option maxRecDepth 100000 in
set_option maxHeartbeats 4000000 in
theorem rpoints_any (A : Option Addr) (c : Nat) (los : List Los) (M : Option Addr) (mc : Nat) (am : List Int) (p : Int) (w : World) (hll : los.length ≤ 1000) (hal : am.length ≤ 1000) (hL : Losses w 0 A los) (hM : Ints w 0 M am) :
    Calls Tryz.prog 39 #[.slice A los.length c, .slice M am.length mc, .int .i64 p] w fun e w' => ∃ v, e = .returned (.tuple #[v, .int .i64 (chkE los am)]) ∧ w'.ownsRow w.heap.size 55 2 v (eptsF los am p).length ((eptsF los am p).flatMap P2.cells) ∧ Below w.heap.size w w' := by
  have C1 := Lib.hid (rcheckE_any A c los M mc am w (by omega) (by omega) hL hM)
  obtain ⟨n, hn⟩ : ∃ k, k = los.length := ⟨_, rfl⟩
  obtain ⟨na, hna⟩ : ∃ k, k = am.length := ⟨_, rfl⟩
  rw [← hn, ← hna] at C1 ⊢
  rw [← hn] at hll
  rw [← hna] at hal
  have HN := Lib.hid hn
  have HNA := Lib.hid hna
  clear hn hna
  by_cases hE : chkE los am = 0
  case neg =>
    have q : (chkE los am != 0) = true := by simpa using hE
    have HX : Hid (eptsF los am p = []) := by unfold eptsF; rw [if_neg hE]; rfl
    clear hE
    go_enter Tryz.func39, Tryz.ntmps39
    go_wp2_with (go_at_call 63; refine C1.out.mono ?_; rintro e w1 ⟨rfl, hb1⟩)
    go_ret2
    refine ⟨_, rfl, ?_, hb1⟩
    rw [HX.out]; exact own_nil _ _ _ _
  have hG := goodE_of hE
  have hna : na = n := by rw [HNA.out, HN.out]; exact hG.same
  subst hna
  have HX : Hid (eptsF los am p = ptsF los am p) := by unfold eptsF; rw [if_pos hE]; rfl
  have q : (chkE los am != 0) = false := by rw [hE]; rfl
  have hn64 : na ≤ 64 := by rw [HN.out]; exact hG.len
  have HAMB := Lib.hid (fun a ha => (zip_amounts hG.same hG.all a ha).1)
  have HSUM := Lib.hid hG.sum
  have HALL := Lib.hid hG.all
  have HSAME := Lib.hid hG.same
  rw [hE] at C1
  rw [hE]
  clear hE hG
  go_enter Tryz.func39, Tryz.ntmps39
  go_wp2_with fail
  refine C1.out.mono ?_
  rintro e w1 ⟨rfl, hb1⟩
  go_wp2_with fail
  go_loopw [9, 10, 11, 26] (fun v _ _ ii wr => ∃ (k : Nat) (B : Option Addr) (d : Nat), k ≤ na ∧ ii = .int .i64 k ∧ v = .slice B (hoursF (los.take k) (am.take k) p).length d ∧ (hoursF (los.take k) (am.take k) p).length ≤ d ∧ d ≤ 9223372036854775807 ∧ (B = none → d = 0) ∧ Flat B ∧ Ints wr 0 B (hoursF (los.take k) (am.take k) p) ∧ Below w.heap.size w wr) (fun _ _ _ ii _ => na - (intOf ii).toNat)
  case atStart => exact ⟨0, none, 0, Nat.zero_le _, rfl, rfl, Nat.le_refl _, by omega, fun _ => rfl, .inl rfl, Sl.none_, hb1⟩
  case round =>
    obtain ⟨k, B, d, hk, rfl, rfl, hd1, hd2, hBn, hBf, hI, hb⟩ := hrel
    have hlen := hoursF_take_len los am p k
    rw [← HN.out] at hlen
    clear C1 hb1
    by_cases hkn : k < na
    · obtain ⟨l, hl, _⟩ := drop_cons (xs := los) (i := k) (by rw [← HN.out]; exact hkn)
      obtain ⟨a, ha, _⟩ := drop_cons (xs := am) (i := k) (by rw [← HNA.out]; exact hkn)
      obtain ⟨b, off, rfl, _, hbl, c0, c1, c2, c3, c4, c5, c6, c7, c8, c9⟩ := (hL.below hb).at_ hl
      obtain ⟨b2, off2, rfl, _, hbm, m0⟩ := (hM.below hb).at_ ha
      have HLX := Lib.hid hl
      have HAX := Lib.hid ha
      clear hl ha
      obtain ⟨wb, hwb⟩ : ∃ wb : World, wb = wr.alloc (.cells #[.int .i64 l.id, .int .i64 l.pol, .int .i64 l.risk, .int .i64 l.hour, .int .i64 l.peril, .int .i64 l.area, .int .i64 l.cur, .int .i64 l.sum, .int .i64 l.amt, .int .i64 l.paid] 92) := ⟨_, rfl⟩
      have hbb : Below wr.heap.size wr wb := by rw [hwb]; exact (Below.refl _ _).alloc (Nat.le_refl _) _
      have hb0b := hb.trans (hbb.mono hb.size)
      have p3 : wb.cell? ⟨wr.heap.size, 3, none⟩ = some (.int .i64 l.hour) := by rw [hwb]; simp
      have p4 : wb.cell? ⟨wr.heap.size, 4, none⟩ = some (.int .i64 l.peril) := by rw [hwb]; simp
      have m0b : wb.cell? ⟨b2, off2 + k, none⟩ = some (.int .i64 a) := (hbb.cell (p := ⟨b2, _, none⟩) hbm).trans m0
      have hIb := hI.below hbb
      go_upto_region 8 with fail
      rw [← hwb]
      clear hwb c0 c1 c2 c3 c4 c5 c6 c7 c8 c9 hbb m0 hI
      by_cases hp : l.peril = p ∧ 0 < a
      · have qp : (l.peril == p) = true := by simpa using hp.1
        have qa : decide (0 < a) = true := by simpa using hp.2
        have CI := Lib.hid (insert_any B d (hoursF (los.take k) (am.take k) p) l.hour wb (by omega) hd1 hd2 hBn hBf hIb)
        rw [hoursF_yes HSAME.out HLX.out HAX.out hp] at CI
        obtain ⟨m, hm⟩ : ∃ m, m = (hoursF (los.take k) (am.take k) p).length := ⟨_, rfl⟩
        rw [← hm] at CI ⊢
        clear hp hm hd1 hd2 hBn hBf hIb hlen
        go_wp2_with fail
        refine CI.out.mono ?_
        rintro e w2 ⟨B2, d2, rfl, h1, h2, h3, h4, h5, hb2⟩
        have hb02 := hb0b.trans (hb2.mono hb0b.size)
        obtain ⟨m2, hm2⟩ : ∃ m, m = (hoursF (los.take (k + 1)) (am.take (k + 1)) p).length := ⟨_, rfl⟩
        rw [← hm2] at h1 ⊢
        have HM2 := Lib.hid hm2
        have H5 := Lib.hid h5
        have H3 := Lib.hid h3
        have H4 := Lib.hid h4
        clear hm2 h5 h3 h4 CI hb2
        go_wp2_with fail
        go_roundw
        case rel => exact ⟨k + 1, B2, d2, by omega, by go_num, by rw [← HM2.out], by rw [← HM2.out]; exact h1, h2, H3.out, H4.out, H5.out, hb02⟩
        case measure => simp [intOf]; omega
      · have hno := hoursF_no HSAME.out HLX.out HAX.out hp
        rw [hno] at hd1 hIb ⊢
        obtain ⟨m, hm⟩ : ∃ m, m = (hoursF (los.take (k + 1)) (am.take (k + 1)) p).length := ⟨_, rfl⟩
        rw [← hm] at hd1 ⊢
        have HM2 := Lib.hid hm
        have H5 := Lib.hid hIb
        have H3 := Lib.hid hBn
        have H4 := Lib.hid hBf
        clear hno hm hIb hBn hBf hlen
        by_cases hpp : l.peril = p
        · have qp : (l.peril == p) = true := by simpa using hpp
          have qa : decide (0 < a) = false := by simp; omega
          clear hp hpp
          go_wp2_with fail
          go_roundw
          case rel => exact ⟨k + 1, B, d, by omega, by go_num, by rw [← HM2.out], by rw [← HM2.out]; exact hd1, hd2, H3.out, H4.out, H5.out, hb0b⟩
          case measure => simp [intOf]; omega
        · have qp : (l.peril == p) = false := by simpa using hpp
          clear hp hpp
          go_wp2_with fail
          go_roundw
          case rel => exact ⟨k + 1, B, d, by omega, by go_num, by rw [← HM2.out], by rw [← HM2.out]; exact hd1, hd2, H3.out, H4.out, H5.out, hb0b⟩
          case measure => simp [intOf]; omega
    · obtain rfl : k = na := by omega
      rw [List.take_of_length_le (by rw [← HN.out]; exact Nat.le_refl _), List.take_of_length_le (by rw [← HNA.out]; exact Nat.le_refl _)] at hI hlen ⊢
      obtain ⟨nh, hnh⟩ : ∃ m, m = (hoursF los am p).length := ⟨_, rfl⟩
      rw [← hnh] at hlen ⊢
      have HNH := Lib.hid hnh
      obtain ⟨w2, hw2⟩ : ∃ w2 : World, w2 = wr := ⟨_, rfl⟩
      rw [← hw2] at hI hb ⊢
      clear hnh hw2 hd1 hd2 hBn hBf
      obtain ⟨i0, hi, hz0, hz1, hz2⟩ := info_parts Tryz.infoPoint
      go_wp2_with fail
      go_loopw [12, 14, 15, 16, 17, 49] (fun v _ _ _ _ ii wx => ∃ (j : Nat), j ≤ nh ∧ ii = .int .i64 j ∧ wx.ownsRow w2.heap.size 55 2 v j ((((hoursF los am p).take j).map fun t => (⟨t, sumAt los am p t⟩ : P2)).flatMap P2.cells) ∧ Below w2.heap.size w2 wx) (fun _ _ _ _ _ ii _ => nh - (intOf ii).toNat)
      case atStart => exact ⟨0, Nat.zero_le _, rfl, own_nil _ _ _ _, Below.refl _ _⟩
      case round =>
        obtain ⟨j, hj, rfl, hown, hbx⟩ := hrel
        obtain ⟨V, vc, rfl, _⟩ := own_shape hown
        have hb0x := hb.trans (hbx.mono hb.size)
        by_cases hjn : j < nh
        case neg =>
          obtain rfl : j = nh := by omega
          rw [List.take_of_length_le (by rw [← HNH.out]; exact Nat.le_refl _)] at hown
          go_wp2_with fail
          go_ret2
          refine ⟨_, rfl, ?_, hb0x⟩
          rw [HX.out]
          unfold ptsF
          rw [List.length_map, ← HNH.out]
          exact own_base hown hb.size
        obtain ⟨h, hh, _⟩ := drop_cons (xs := hoursF los am p) (i := j) (by rw [← HNH.out]; exact hjn)
        obtain ⟨hbk, hof, rfl, _, hbh, h0⟩ := (hI.below hbx).at_ hh
        have HH := Lib.hid hh
        obtain ⟨bp, hbp⟩ : ∃ bp, bp = wr.heap.size := ⟨_, rfl⟩
        obtain ⟨wp, hwp⟩ : ∃ wp : World, wp = wr.alloc (.cells #[.int .i64 h, .int .i64 0] 55) := ⟨_, rfl⟩
        have hbw : Below wr.heap.size wr wp := by rw [hwp]; exact (Below.refl _ _).alloc (Nat.le_refl _) _
        have hhp : wp.heap[bp]? = some (.cells #[.int .i64 h, .int .i64 0] 55 (0, 0)) := by rw [hwp, hbp]; exact heap_alloc_new _ _
        have hownp := own_below hown hbw
        have hb2p := hbx.trans (hbw.mono hbx.size)
        have HF : Hid (∀ g, (Value.slice V j vc).ownBlock = some g → g < bp) := fun g hg => by have := own_lt hown g hg; omega
        have hbp2 : w2.heap.size ≤ bp := by rw [hbp]; exact hbx.size
        go_upto_region 16 with fail
        rw [← hwp, ← hbp]
        have HBP := Lib.hid hbp
        clear hh hbp hwp hbw hown hbx hb0x h0
        go_wp2_with fail
        go_loopw [16, 17, 57] (fun _ _ ii wy => ∃ (i : Nat), i ≤ k ∧ ii = .int .i64 i ∧ wy.heap[bp]? = some (.cells #[.int .i64 h, .int .i64 (sumAt (los.take i) (am.take i) p h)] 55 (0, 0)) ∧ wy.ownsRow w2.heap.size 55 2 (.slice V j vc) j ((((hoursF los am p).take j).map fun t => (⟨t, sumAt los am p t⟩ : P2)).flatMap P2.cells) ∧ Below w2.heap.size w2 wy) (fun _ _ ii _ => k - (intOf ii).toNat)
        case atStart => exact ⟨0, Nat.zero_le _, rfl, by simpa [sumAt] using hhp, hownp, hb2p⟩
        case round =>
          obtain ⟨i, hik, rfl, hhi, hown, hbx⟩ := hrel
          clear hhp hownp hb2p
          have hb0x := hb.trans (hbx.mono hb.size)
          by_cases hin : i < k
          case neg =>
            obtain rfl : i = k := by omega
            rw [List.take_of_length_le (by rw [← HN.out]; exact Nat.le_refl _), List.take_of_length_le (by rw [← HNA.out]; exact Nat.le_refl _)] at hhi
            obtain ⟨s, hs⟩ : ∃ s, s = sumAt los am p h := ⟨_, rfl⟩
            rw [← hs] at hhi
            have HS := Lib.hid hs
            have d0 : wr.cell? ⟨bp, 0, none⟩ = some (.int .i64 h) := by simp [World.cell?, hhi]
            have d1 : wr.cell? ⟨bp, 1, none⟩ = some (.int .i64 s) := by simp [World.cell?, hhi]
            clear hs
            have hsz := hbx.size
            go_wp2_with (at_builtin; refine wpList_append_own _ rfl (.tmp 81) (.tmp 83) 56 rfl w2.heap.size 55 i0 _ 2 16 Tryz.underlying56 hi hz0 hz1 hz2 rfl (by decide) _ j _ rfl (own_below hown ((Below.refl _ _).alloc (Nat.le_refl _) _)) ⟨wr.heap.size, 0, none⟩ 1 1 (P2.cells ⟨h, s⟩) rfl rfl ?c1 ?c2 ?c3 ?c4 ?c5 ?_)
            case c1 => exact cell_new wr (P2.cells ⟨h, s⟩) 55
            case c2 => intro u hu; simp [P2.cells] at hu; rcases hu with rfl | rfl <;> rfl
            case c3 => unfold maxLen; omega
            case c4 => omega
            case c5 => simp; omega
            intro v' w8 hown8 hg8 _
            have hb8 : Below w2.heap.size w2 w8 := (hbx.alloc hbx.size _).grown hg8 (by simp; omega) (fun g' hg' => own_low hown g' hg')
            obtain ⟨V', vc', rfl, _⟩ := own_shape hown8
            rw [HS.out, ← List.map_take, pts_next HH.out] at hown8
            clear hg8 hown hhi
            go_wp2_with fail
            go_roundw
            case rel => exact ⟨j + 1, by omega, by go_num, hown8, hb8⟩
            case measure => simp [intOf]; omega
          obtain ⟨l, hl, _⟩ := drop_cons (xs := los) (i := i) (by rw [← HN.out]; exact hin)
          obtain ⟨a, ha, _⟩ := drop_cons (xs := am) (i := i) (by rw [← HNA.out]; exact hin)
          obtain ⟨b, off, rfl, _, hbl, c0, c1, c2, c3, c4, c5, c6, c7, c8, c9⟩ := (hL.below hb0x).at_ hl
          obtain ⟨b2, off2, rfl, _, hbm, m0⟩ := (hM.below hb0x).at_ ha
          have hpo := (pairOk_iff l a).1 (List.all_eq_true.1 HALL.out _ (List.mem_of_getElem? (zip_get hl ha)))
          have hsn := Lib.hid (sumAt_next HSAME.out hl ha p h)
          have hsb := sumAt_bd (los := los) HAMB.out i p h
          obtain ⟨s, hs⟩ : ∃ s, s = sumAt (los.take i) (am.take i) p h := ⟨_, rfl⟩
          rw [← hs] at hsb hhi hsn
          have hsm := HSUM.out
          clear hl ha hs
          obtain ⟨wb, hwb⟩ : ∃ wb : World, wb = wr.alloc (.cells #[.int .i64 l.id, .int .i64 l.pol, .int .i64 l.risk, .int .i64 l.hour, .int .i64 l.peril, .int .i64 l.area, .int .i64 l.cur, .int .i64 l.sum, .int .i64 l.amt, .int .i64 l.paid] 92) := ⟨_, rfl⟩
          have hbb : Below wr.heap.size wr wb := by rw [hwb]; exact (Below.refl _ _).alloc (Nat.le_refl _) _
          have hbxb := hbx.trans (hbb.mono hbx.size)
          have p3 : wb.cell? ⟨wr.heap.size, 3, none⟩ = some (.int .i64 l.hour) := by rw [hwb]; simp
          have p4 : wb.cell? ⟨wr.heap.size, 4, none⟩ = some (.int .i64 l.peril) := by rw [hwb]; simp
          have m0b : wb.cell? ⟨b2, off2 + i, none⟩ = some (.int .i64 a) := (hbb.cell (p := ⟨b2, _, none⟩) hbm).trans m0
          have hhb := (hbb.block bp (lt_of_heap1 hhi)).trans hhi
          have hownb := own_below hown hbb
          have d1 : wb.cell? ⟨bp, 1, none⟩ = some (.int .i64 s) := by simp [World.cell?, hhb]
          have e1 : wb.frozen? ⟨bp, 1, none⟩ = false := by simp [World.frozen?, hhb]
          go_upto_region 19 with fail
          rw [← hwb]
          clear hwb c0 c1 c2 c3 c4 c5 c6 c7 c8 c9 hbb m0 hhi hown hbx hb0x
          by_cases hp : l.peril = p ∧ l.hour = h
          · have qp : (l.peril == p) = true := by simpa using hp.1
            have qh : (l.hour == h) = true := by simpa using hp.2
            have hsn2 : Hid (sumAt (los.take (i + 1)) (am.take (i + 1)) p h = s + a) := by show _ = _; rw [hsn.out, if_pos hp]
            clear hp
            have hwr : IntKind.i64.wrap (s + a) = s + a := IntWalk.i64_in _ (by omega)
            have HWR := Lib.hid hwr
            clear hwr
            go_wp2_with fail
            go_still_tail 8, (by kernel_rfl)
            rw [HWR.out]
            go_wp2_with fail
            go_roundw
            case rel =>
              have k1 : wb.grownBy ((wb.setCell ⟨bp, 1, none⟩ (.int .i64 (s + a))).drew) (some bp) := only_drewN (only_setCell (only_refl _ _) (.inl rfl) _) 1
              refine ⟨i + 1, by omega, by go_num, ?_, ?_, ?_⟩
              · rw [hsn2.out]
                show (wb.setCell ⟨bp, 1, none⟩ (.int .i64 (s + a))).heap[bp]? = _
                simp [World.setCell, Array.getElem?_modify, hhb]
              · exact hownb.kept k1 (.inr fun e => by have := HF.out bp e; omega)
              · exact (hbxb.setCell hbp2 _).drew
            case measure => simp [intOf]; omega
          · have hsn2 : Hid (sumAt (los.take (i + 1)) (am.take (i + 1)) p h = s) := by show _ = _; rw [hsn.out, if_neg hp, Int.add_zero]
            by_cases hpp : l.peril = p
            · have qp : (l.peril == p) = true := by simpa using hpp
              have qh : (l.hour == h) = false := by simp; exact fun e => hp ⟨hpp, e⟩
              clear hp hpp
              go_wp2_with fail
              go_roundw
              case rel => exact ⟨i + 1, by omega, by go_num, by rw [hsn2.out]; exact hhb, hownb, hbxb⟩
              case measure => simp [intOf]; omega
            · have qp : (l.peril == p) = false := by simpa using hpp
              clear hp hpp
              go_wp2_with fail
              go_roundw
              case rel => exact ⟨i + 1, by omega, by go_num, by rw [hsn2.out]; exact hhb, hownb, hbxb⟩
              case measure => simp [intOf]; omega

end Go.Proofs.YtilkcailpkebdaaGreat

/-
  treatyref25.checked: its contract.
-/
namespace Go.Proofs.YtilkcailpkebdaaGreat
open Go.RowKit

set_option maxHeartbeats 1000000 in
theorem rcheck_any (A : Option Addr) (c : Nat) (ps : List P2) (L : Int) (B : Option Addr) (d : Nat) (ls : List P2) (w : World) (hps : ps.length ≤ 1000) (hls : ls.length ≤ 1000) (hp : Pairs w 0 A ps) (hl : Pairs w 0 B ls) :
    Calls Tryz.prog 69 #[.slice A ps.length c, .int .i64 L, .slice B ls.length d] w fun e w' => e = .returned (.int .i64 (chkErr ps L ls)) ∧ Below w.heap.size w w' := by
  have CR := Lib.hid (rrecovery_any 0 B d ls)
  obtain ⟨n, hn⟩ : ∃ n, n = ps.length := ⟨_, rfl⟩
  obtain ⟨m, hm⟩ : ∃ m, m = ls.length := ⟨_, rfl⟩
  rw [← hm] at CR
  rw [← hn, ← hm]
  have HN := Lib.hid hn
  have HM := Lib.hid hm
  by_cases he : recErr 0 ls = 0
  · have HE := Lib.hid he
    have q0 : (recErr 0 ls != 0) = false := by rw [he]; rfl
    clear he
    by_cases hL : L < 1 ∨ 8784 < L
    · have HR : Hid (chkErr ps L ls = 1) := by
        unfold chkErr; rw [if_neg (by rw [HE.out]; simp), if_pos hL]; rfl
      clear hn hm
      by_cases h1 : L < 1
      · go_enter Tryz.func69, Tryz.ntmps69
        go_wp2_with (go_at_call 64; refine (CR.out _ (by rw [← HM.out] at hls; exact hls) hl).mono ?_; rintro e w1 ⟨rfl, hb1⟩)
        go_ret
        exact ⟨ret_int HR.out.symm, hb1⟩
      · have h2 : 8784 < L := by omega
        clear hL
        go_enter Tryz.func69, Tryz.ntmps69
        go_wp2_with (go_at_call 64; refine (CR.out _ (by rw [← HM.out] at hls; exact hls) hl).mono ?_; rintro e w1 ⟨rfl, hb1⟩)
        go_ret
        exact ⟨ret_int HR.out.symm, hb1⟩
    have HL := Lib.hid hL
    have hL1 : 1 ≤ L := by omega
    have hL2 : L ≤ 8784 := by omega
    clear hL
    by_cases h64 : 64 < ps.length
    · have HR : Hid (chkErr ps L ls = 4) := by
        unfold chkErr; rw [if_neg (by rw [HE.out]; simp), if_neg HL.out, if_pos h64]; rfl
      have h64' : 64 < n := by omega
      clear hn hm h64
      go_enter Tryz.func69, Tryz.ntmps69
      go_wp2_with (go_at_call 64; refine (CR.out _ (by rw [← HM.out] at hls; exact hls) hl).mono ?_; rintro e w1 ⟨rfl, hb1⟩)
      go_ret
      exact ⟨ret_int HR.out.symm, hb1⟩
    have HR : Hid (chkErr ps L ls = chkLoop none ps 0) := by
      unfold chkErr; rw [if_neg (by rw [HE.out]; simp), if_neg HL.out, if_neg h64]; rfl
    have h64' : n ≤ 64 := by omega
    have g64 : decide (64 < (n : Int)) = false := by simp; omega
    clear hn hm h64
    go_enter Tryz.func69, Tryz.ntmps69
    go_wp2_with (go_at_call 64; refine (CR.out _ (by rw [← HM.out] at hls; exact hls) hl).mono ?_; rintro e w1 ⟨rfl, hb1⟩)
    go_loopw [9, 10, 11, 31] (fun s _ _ i wr => ∃ (k : Nat) (acc : Int), k ≤ n ∧ i = .int .i64 k ∧ s = .int .i64 acc ∧ 0 ≤ acc ∧ acc ≤ 17592186044416 * k ∧ Below w.heap.size w wr ∧ chkLoop (hourBefore ps k) (ps.drop k) acc = chkLoop none ps 0) (fun _ _ _ i _ => n - (intOf i).toNat)
    case atStart => exact ⟨0, 0, Nat.zero_le _, rfl, rfl, by omega, by omega, hb1, rfl⟩
    case round =>
      obtain ⟨k, acc, hk, rfl, rfl, ha0, ha1, hb, hck⟩ := hrel
      have HC := Lib.hid hck
      clear hck
      by_cases hlt : k < n
      · obtain ⟨p, hpk, hd⟩ := drop_cons (xs := ps) (i := k) (by rw [← HN.out]; exact hlt)
        obtain ⟨b, off, rfl, _, hbl, c0, c1⟩ := (hp.below hb).at_ hpk
        have HD := Lib.hid hd
        clear hd hpk
        by_cases hok : ptOk p = true
        · obtain ⟨g1, g2, g3, g4⟩ := (ptOk_iff p).1 hok
          have HO := Lib.hid hok
          have hv : inHoursB p.a = true := by simp [inHoursB]; omega
          clear hok
          by_cases hk0 : k < 1
          · have hd0 : decide (0 < k) = false := by simp; omega
            go_wp2_with (go_at_call 87; refine (inHours_any _ _).mono ?_; rintro e w' ⟨rfl, rfl⟩)
            go_quiet (fail)
            go_wp2_with fail
            go_roundw
            case rel => exact ⟨k + 1, acc + p.b, by omega, by go_num, rfl, by omega, by omega, below_drewN (hb.alloc hb.size _) _, chk_next0 HD.out HC.out HO.out hk0⟩
            case measure => simp [intOf]; omega
          · have hd0 : decide (0 < k) = true := by simp; omega
            obtain ⟨q, hq⟩ : ∃ q, ps[k - 1]? = some q := ⟨_, List.getElem?_eq_getElem (by rw [← HN.out]; omega)⟩
            obtain ⟨b', off', hA, _, _, x0, _⟩ := (hp.below hb).at_ hq
            obtain ⟨rfl, rfl⟩ : b = b' ∧ off = off' := by simpa using hA
            have HQ := Lib.hid hq
            clear hq hA
            by_cases hle : p.a ≤ q.a
            · have HF := Lib.hid (chk_order HD.out HC.out HO.out (by omega) HQ.out hle)
              go_wp2_with (go_at_call 87; refine (inHours_any _ _).mono ?_; rintro e w' ⟨rfl, rfl⟩)
              go_quiet (fail)
              go_wp2_with fail
              go_ret
              exact ⟨ret_int (HR.out.trans HF.out).symm, below_drewN (hb.alloc hb.size _) _⟩
            · have hle' : decide (p.a ≤ q.a) = false := by simpa using hle
              go_wp2_with (go_at_call 87; refine (inHours_any _ _).mono ?_; rintro e w' ⟨rfl, rfl⟩)
              go_quiet (fail)
              go_wp2_with fail
              go_roundw
              case rel => exact ⟨k + 1, acc + p.b, by omega, by go_num, rfl, by omega, by omega, below_drewN (hb.alloc hb.size _) _, chk_next HD.out HC.out HO.out (by omega) HQ.out (by omega)⟩
              case measure => simp [intOf]; omega
        · have HF := Lib.hid (chk_bad HD.out HC.out (Bool.eq_false_iff.2 hok))
          have hno : ¬ (0 ≤ p.a ∧ p.a ≤ 876599 ∧ 0 ≤ p.b ∧ p.b ≤ 17592186044416) := fun h => hok ((ptOk_iff p).2 h)
          clear hok
          by_cases h3 : 0 ≤ p.a ∧ p.a ≤ 876599
          · have hv : inHoursB p.a = true := by simp [inHoursB]; omega
            have hno' : ¬ (0 ≤ p.b ∧ p.b ≤ 17592186044416) := by omega
            clear hno h3
            go_wp2_with (go_at_call 87; refine (inHours_any _ _).mono ?_; rintro e w' ⟨rfl, rfl⟩)
            all_goals first | (exfalso; omega) | (go_ret; exact ⟨ret_int (HR.out.trans HF.out).symm, hb.alloc hb.size _⟩)
          · have hv : inHoursB p.a = false := by simp [inHoursB]; omega
            clear hno h3
            go_wp2_with (go_at_call 87; refine (inHours_any _ _).mono ?_; rintro e w' ⟨rfl, rfl⟩)
            go_ret
            exact ⟨ret_int (HR.out.trans HF.out).symm, hb.alloc hb.size _⟩
      · obtain rfl : k = n := by omega
        have HC' := HC.out
        rw [HN.out] at HC'
        have HF := Lib.hid (chk_end HC')
        clear HC' HC
        by_cases hov : 17592186044416 < acc
        · go_wp2_with fail
          go_ret
          exact ⟨ret_int (by rw [HR.out, HF.out, if_pos hov]), hb⟩
        · go_wp2_with fail
          go_ret
          exact ⟨ret_int (by rw [HR.out, HF.out, if_neg (by omega)]), hb⟩
  · have HR : Hid (chkErr ps L ls = recErr 0 ls) := by
      unfold chkErr; rw [if_pos he]; rfl
    have q0 : (recErr 0 ls != 0) = true := by simpa using he
    clear hn hm he
    go_enter Tryz.func69, Tryz.ntmps69
    go_wp2_with (go_at_call 64; refine (CR.out _ (by rw [← HM.out] at hls; exact hls) hl).mono ?_; rintro e w1 ⟨rfl, hb1⟩)
    go_ret
    exact ⟨ret_int HR.out.symm, hb1⟩

end Go.Proofs.YtilkcailpkebdaaGreat

/-
  treatyref25.Span: its contract, for two indexes in range and in order, of points that are accepted.
-/
namespace Go.Proofs.YtilkcailpkebdaaGreat
open Go.RowKit
set_option linter.unusedVariables false

set_option maxHeartbeats 1000000 in
theorem span_no (A : Option Addr) (c : Nat) (ps : List P2) (L : Int) (B : Option Addr) (d : Nat) (ls : List P2) (w : World) (hp : Pairs w 0 A ps) (hlen : ps.length ≤ 1000) (hok : ∀ p ∈ ps, ptOk p = true)
    (i j : Nat) (p q : P2) (hi : ps[i]? = some p) (hj : ps[j]? = some q) (hij : i ≤ j) (hL : L ≤ q.a - p.a) :
    Calls Tryz.prog 66 #[.slice A ps.length c, .int .i64 L, .slice B ls.length d, .int .i64 i, .int .i64 j] w fun e w' => e = .returned (.tuple #[.int .i64 0, .bool false]) ∧ Below w.heap.size w w' := by
  obtain ⟨n, hn⟩ : ∃ n, n = ps.length := ⟨_, rfl⟩
  have hjn : j < n := by rw [hn]; exact (List.getElem?_eq_some_iff.1 hj).1
  have h1 := (ptOk_iff p).1 (hok p (List.mem_of_getElem? hi))
  have h2 := (ptOk_iff q).1 (hok q (List.mem_of_getElem? hj))
  obtain ⟨b, off, rfl, _, _, x0, _⟩ := hp.at_ hi
  obtain ⟨b', off', hA, _, _, y0, _⟩ := hp.at_ hj
  obtain ⟨rfl, rfl⟩ : b = b' ∧ off = off' := by simpa using hA
  rw [← hn] at hlen ⊢
  clear hn hi hj hp hok hA
  have e1 : decide ((i : Int) < 0) = false := by simp
  have e2 : decide (j < i) = false := by simp; omega
  have e3 : decide (n ≤ j) = false := by simp; omega
  go_enter Tryz.func66, Tryz.ntmps66
  go_wp2_with fail
  go_quiet (fail)
  go_wp2_with fail
  go_ret2
  exact ⟨rfl, below_drewN (Below.refl _ _) _⟩

set_option maxHeartbeats 1000000 in
theorem span_yes (A : Option Addr) (c : Nat) (ps : List P2) (L : Int) (B : Option Addr) (d : Nat) (ls : List P2) (w : World) (hp : Pairs w 0 A ps) (hl : Pairs w 0 B ls) (hlen : ps.length ≤ 1000) (hls : ls.length ≤ 1000) (hok : ∀ p ∈ ps, ptOk p = true) (hsum : sumB ps ≤ 17592186044416)
    (i j : Nat) (p q : P2) (hi : ps[i]? = some p) (hj : ps[j]? = some q) (hij : i ≤ j) (hL : q.a - p.a < L) :
    Calls Tryz.prog 66 #[.slice A ps.length c, .int .i64 L, .slice B ls.length d, .int .i64 i, .int .i64 j] w fun e w' => e = .returned (.tuple #[.int .i64 (recVal (sumT ps i (j - i + 1)) ls), .bool true]) ∧ Below w.heap.size w w' := by
  obtain ⟨n, hn⟩ : ∃ n, n = ps.length := ⟨_, rfl⟩
  obtain ⟨m, hm⟩ : ∃ m, m = ls.length := ⟨_, rfl⟩
  have CR : Hid (∀ (t : Int) (W : World), Pairs W 0 B ls → Calls Tryz.prog 64 #[.int .i64 t, .slice B m d] W fun e w' => e = .returned (.tuple #[.int .i64 (recVal t ls), .int .i64 (recErr t ls)]) ∧ Below W.heap.size W w') := by
    intro t W h; rw [hm]; exact rrecovery_any t B d ls W hls h
  have hjn : j < n := by rw [hn]; exact (List.getElem?_eq_some_iff.1 hj).1
  have h1 := (ptOk_iff p).1 (hok p (List.mem_of_getElem? hi))
  have h2 := (ptOk_iff q).1 (hok q (List.mem_of_getElem? hj))
  obtain ⟨b, off, rfl, _, _, x0, _⟩ := hp.at_ hi
  obtain ⟨b', off', hA, _, _, y0, _⟩ := hp.at_ hj
  obtain ⟨rfl, rfl⟩ : b = b' ∧ off = off' := by simpa using hA
  have HN := Lib.hid hn
  have HS := Lib.hid hsum
  rw [← hn] at hlen ⊢
  rw [← hm]
  clear hn hm hi hj hA hls hsum
  have HOK := Lib.hid hok
  clear hok
  have e1 : decide ((i : Int) < 0) = false := by simp
  have e2 : decide (j < i) = false := by simp; omega
  have e3 : decide (n ≤ j) = false := by simp; omega
  have e4 : decide (L ≤ q.a - p.a) = false := by simp; omega
  go_enter Tryz.func66, Tryz.ntmps66
  go_wp2_with fail
  go_quiet (fail)
  go_wp2_with fail
  clear x0 y0
  go_loop [12, 13] (fun s kk => ∃ (k : Nat) (acc : Int), i ≤ k ∧ k ≤ j + 1 ∧ kk = .int .i64 k ∧ s = .int .i64 acc ∧ acc = sumT ps i (k - i)) (fun _ kk => j + 1 - (intOf kk).toNat)
  case atStart => exact ⟨i, 0, Nat.le_refl _, by omega, rfl, rfl, by rw [Nat.sub_self, sumT_zero]⟩
  case round =>
    obtain ⟨k, acc, hk1, hk2, rfl, rfl, hacc⟩ := hrel
    have HA := Lib.hid hacc
    have hab := sumT_bd HOK.out i (k - i)
    rw [← hacc] at hab
    have hs := HS.out
    clear hacc
    by_cases hkj : k ≤ j
    · obtain ⟨u, hu, hd⟩ := drop_cons (xs := ps) (i := k) (by rw [← HN.out]; omega)
      obtain ⟨b', off', hA', _, _, _, z1⟩ := hp.at_ hu
      obtain ⟨rfl, rfl⟩ : b = b' ∧ off = off' := by simpa using hA'
      have huo := (ptOk_iff u).1 (HOK.out u (List.mem_of_getElem? hu))
      have HU := Lib.hid (sumT_snoc hk1 hu)
      clear hA' hu hd hs
      have hab2 : acc ≤ 17592186044416 := by have := HS.out; omega
      obtain ⟨hab0, _⟩ := hab
      go_wp2_with fail
      go_round
      case rel => exact ⟨k + 1, acc + u.b, by omega, by omega, by go_num, rfl, by rw [show k + 1 - i = k - i + 1 by omega, HU.out, ← HA.out]⟩
      case measure => simp [intOf]; omega
    · obtain rfl : k = j + 1 := by omega
      go_wp2_with (go_at_call 64; refine (CR.out _ _ (Sl.drewN hl _)).mono ?_; rintro e w2 ⟨rfl, hb2⟩)
      go_ret2
      refine ⟨ret_intb ?_ rfl, ?_⟩
      · rw [show j - i + 1 = j + 1 - i by omega, ← HA.out]
      · exact (below_drewN (Below.refl _ _) _).trans hb2

end Go.Proofs.YtilkcailpkebdaaGreat

/-
  treatyref25.Values: its contract, at the same plain function.
-/
namespace Go.Proofs.YtilkcailpkebdaaGreat
open Go.RowKit
set_option linter.unusedVariables false

set_option maxRecDepth 100000 in
set_option maxHeartbeats 2000000 in
theorem rvalues_ty (A : Option Addr) (c : Nat) (ps : List P2) (L : Int) (B : Option Addr) (d : Nat) (ls : List P2) (w : World) (hps : ps.length ≤ 1000) (hls : ls.length ≤ 1000) (hp : Pairs w 0 A ps) (hl : Pairs w 0 B ls) :
    Calls Tryz.prog 44 #[.slice A ps.length c, .int .i64 L, .slice B ls.length d] w fun e w' => ∃ G cc, e = .returned (.tuple #[.slice G (valuesF ps L ls).length cc, .int .i64 (chkErr ps L ls)]) ∧ Ints w' w.heap.size G (valuesF ps L ls) ∧ Below w.heap.size w w' ∧ (∀ a, G = some a → ∃ cs fr, w'.heap[a.block]? = some (.cells cs 3 fr)) := by
  have CC := Lib.hid (rcheck_any A c ps L B d ls w hps hls hp hl)
  by_cases hce : chkErr ps L ls = 0
  case neg =>
    have HX : Hid (valuesF ps L ls = []) := by unfold valuesF; rw [if_neg hce]; rfl
    have q0 : (chkErr ps L ls != 0) = true := by simpa using hce
    clear hce
    go_enter Tryz.func44, Tryz.ntmps44
    go_wp2_with (go_at_call 69; refine CC.out.mono ?_; rintro e w1 ⟨rfl, hb1⟩)
    go_ret2
    refine ⟨none, 0, by rw [HX.out]; rfl, by rw [HX.out]; exact Sl.none_, hb1, fun a h => by cases h⟩
  have HCE := Lib.hid hce
  have HX : Hid (valuesF ps L ls = valsF L ls ps) := by unfold valuesF; rw [if_pos hce]; rfl
  have G := Lib.hid (good_of hce)
  have q0 : (chkErr ps L ls != 0) = false := by rw [hce]; rfl
  clear hce
  obtain ⟨n, hn⟩ : ∃ n, n = ps.length := ⟨_, rfl⟩
  obtain ⟨m, hm⟩ : ∃ m, m = ls.length := ⟨_, rfl⟩
  have hlen : ps.length ≤ 1000 := hps
  have CN : Hid (∀ (W : World), Pairs W 0 A ps → ∀ (i j : Nat) (p q : P2), ps[i]? = some p → ps[j]? = some q → i ≤ j → L ≤ q.a - p.a → Calls Tryz.prog 66 #[.slice A n c, .int .i64 L, .slice B m d, .int .i64 i, .int .i64 j] W fun e w' => e = .returned (.tuple #[.int .i64 0, .bool false]) ∧ Below W.heap.size W w') := by
    intro W h i j p q hi hj hij hL; rw [hn, hm]; exact span_no A c ps L B d ls W h hlen G.out.pt i j p q hi hj hij hL
  have CY : Hid (∀ (W : World), Pairs W 0 A ps → Pairs W 0 B ls → ∀ (i j : Nat) (p q : P2), ps[i]? = some p → ps[j]? = some q → i ≤ j → q.a - p.a < L → Calls Tryz.prog 66 #[.slice A n c, .int .i64 L, .slice B m d, .int .i64 i, .int .i64 j] W fun e w' => e = .returned (.tuple #[.int .i64 (recVal (sumT ps i (j - i + 1)) ls), .bool true]) ∧ Below W.heap.size W w') := by
    intro W h h' i j p q hi hj hij hL; rw [hn, hm]; exact span_yes A c ps L B d ls W h h' hlen hls G.out.pt G.out.sum i j p q hi hj hij hL
  have hn64 : n ≤ 64 := by rw [hn]; exact G.out.len
  rw [← hn, ← hm] at CC
  rw [← hn, ← hm]
  have HN := Lib.hid hn
  clear hn hm hps hls hlen
  have hmk := run_make_row' (P := Tryz.prog) 23 3 (.int .i64 0) 8 Tryz.underlying23 Tryz.infoInt rfl .i64 .i64 (n + 1) (by omega) (by omega)
  have ec : ((n + 1 : Nat) : Int) = (n : Int) + 1 := by omega
  rw [ec] at hmk
  clear ec
  go_enter Tryz.func44, Tryz.ntmps44
  go_wp2_with (go_at_call 69; refine CC.out.mono ?_; rintro e w1 ⟨rfl, hb1⟩)
  have hrow0 := World.rowIs_made w1 (.int .i64 0) (n + 1) 3
  obtain ⟨g, hg⟩ : ∃ g, g = w1.heap.size := ⟨_, rfl⟩
  rw [← hg] at hrow0 ⊢
  have hgw : w.heap.size ≤ g := by rw [hg]; exact hb1.size
  have hb2 : Below w.heap.size w (w1.alloc (.cells (madeCells #[.int .i64 0] (n + 1)) 3)) := hb1.alloc hb1.size _
  clear hg hmk
  go_loopg [10, 11, 12, 13] n (fun k i _ _ _ wr => ∃ F : Nat → Int, k ≤ n ∧ i = .int .i64 ((k : Int) - 1) ∧ Below w.heap.size w wr ∧ wr.rowIs g 3 (n + 1) (fun x => .int .i64 (F x)) ∧ ∀ x, k ≤ x → x ≤ n → F x = valAt L ls ps x)
  case atStart =>
    refine ⟨fun _ => 0, Nat.le_refl _, rfl, hb2, hrow0, fun x h1 h2 => ?_⟩
    obtain rfl : x = n := by omega
    rw [HN.out, valAt_end]
  case round =>
    obtain ⟨F, hk, rfl, hb, hrow, hF⟩ := hrel
    have HF := Lib.hid hF
    clear hF
    by_cases hk1 : 1 ≤ gk
    case neg =>
      go_wp2_with fail
      go_ret2
      refine ⟨some ⟨g, 0, none⟩, n + 1, ?_, ?_, hb, fun a h => by injection h with h; subst h; obtain ⟨cs, h1, _⟩ := hrow; exact ⟨cs, _, h1⟩⟩
      · rw [HX.out, valsF_length, ← HN.out, HCE.out]; rfl
      · rw [HX.out]
        refine ints_of_row (F := F) (by rw [valsF_length, ← HN.out]; exact hrow) hgw fun i x hi => ?_
        have hil : i ≤ n := by
          have := (List.getElem?_eq_some_iff.1 hi).1
          rw [valsF_length, ← HN.out] at this; omega
        rw [valsF_get L ls ps i (by rw [← HN.out]; exact hil)] at hi
        rw [HF.out i (by omega) hil]
        exact Option.some.inj hi
    obtain ⟨m1, rfl⟩ : ∃ m1, gk = m1 + 1 := ⟨gk - 1, by omega⟩
    have ei : ((m1 + 1 : Nat) : Int) - 1 = (m1 : Int) := by omega
    rw [ei]
    clear ei
    have hm1 : m1 < n := by omega
    obtain ⟨p, hpm, hdm⟩ := drop_cons (xs := ps) (i := m1) (by rw [← HN.out]; exact hm1)
    have hpo := (ptOk_iff p).1 (G.out.pt p (List.mem_of_getElem? hpm))
    have HDM := Lib.hid hdm
    have HPM := Lib.hid hpm
    clear hpm hdm
    have hF1 : F (m1 + 1) = valAt L ls ps (m1 + 1) := HF.out _ (by omega) (by omega)
    have x1 : wr.cell? ⟨g, m1 + 1, none⟩ = some (.int .i64 (valAt L ls ps (m1 + 1))) := by rw [hrow.cell (by omega), hF1]
    have x0 := hrow.cell (i := m1) (by omega)
    have xf := hrow.frozen m1
    have HF1 := Lib.hid hF1
    clear hF1
    go_wp2_with fail
    obtain ⟨wo, hwo⟩ : ∃ wo : World, wo = wr.setCell ⟨g, m1, none⟩ (.int .i64 (valAt L ls ps (m1 + 1))) := ⟨_, rfl⟩
    have hrow1 : wo.rowIs g 3 (n + 1) (fun x => .int .i64 (if x = m1 then valAt L ls ps (m1 + 1) else F x)) := by
      rw [hwo]
      refine (hrow.set m1 _).congr fun i _ => ?_
      split <;> rfl
    have hbo : Below w.heap.size w wo := by rw [hwo]; exact hb.setCell hgw _
    rw [← hwo]
    clear hwo x0 x1 xf hrow hb
    go_loopg [11, 12, 13] (n - m1) (fun q jj _ _ wq => ∃ (j : Nat) (E : Nat → Int), m1 ≤ j ∧ j ≤ n ∧ q = n - j ∧ jj = .int .i64 j ∧ Below w.heap.size w wq ∧ wq.rowIs g 3 (n + 1) (fun x => .int .i64 (E x)) ∧ (∀ x, m1 < x → x ≤ n → E x = valAt L ls ps x) ∧ 0 ≤ E m1 ∧ E m1 ≤ 1152921504606846976 ∧ scanR L ls p.a (ps.drop j) (valsF L ls (ps.drop (j + 1))) (sumT ps m1 (j - m1)) (E m1) = valAt L ls ps m1)
    case atStart =>
      refine ⟨m1, _, Nat.le_refl _, by omega, rfl, rfl, hbo, hrow1, fun x h1 h2 => ?_, ?_, ?_, ?_⟩
      · rw [if_neg (by omega)]; exact HF.out x (by omega) h2
      · rw [if_pos rfl]; exact (valAt_bd L ls ps _).1
      · rw [if_pos rfl]; have := (valAt_bd L ls ps (m1 + 1)).2; rw [← HN.out] at this; omega
      · rw [if_pos rfl]; exact scanR_start G.out.asc HDM.out
    case round =>
      obtain ⟨j, E, hj1, hj2, hq, rfl, hbq, hrq, hE, he0, he1, hsc⟩ := hrel
      have HE := Lib.hid hE
      have HSC := Lib.hid hsc
      have HQ := Lib.hid hq
      clear hE hsc hq
      by_cases hjn : j < n
      · obtain ⟨q, hqj, hdj⟩ := drop_cons (xs := ps) (i := j) (by rw [← HN.out]; exact hjn)
        have hqo := (ptOk_iff q).1 (G.out.pt q (List.mem_of_getElem? hqj))
        have HDJ := Lib.hid hdj
        have HQJ := Lib.hid hqj
        have HT : Hid (sumT ps m1 (j + 1 - m1) = sumT ps m1 (j - m1) + q.b) := by
          have := sumT_snoc hj1 hqj
          rw [show j + 1 - m1 = j - m1 + 1 by omega]; exact this
        clear hdj hqj
        by_cases hle : L ≤ q.a - p.a
        · go_wp2_with (go_at_call 66; refine (CN.out _ (hp.below hbq) m1 j p q HPM.out HQJ.out hj1 hle).mono ?_; rintro e w2 ⟨rfl, hb2⟩)
          go_roundg (n - (j + 1))
          case measure => rw [HQ.out]; omega
          case rel =>
            refine ⟨j + 1, E, by omega, by omega, rfl, by go_num, hbq.trans (hb2.mono hbq.size), World.rowIs.of_block hrq (hb2.block g hrq.lt), HE.out, he0, he1, ?_⟩
            rw [HT.out]; exact scanR_no HDJ.out HSC.out hle
        · have hlt : q.a - p.a < L := by omega
          have hrb := recVal_bd (sumT ps m1 (j - m1 + 1)) ls
          have hvb := valAt_bd L ls ps (j + 1)
          rw [← HN.out] at hvb
          go_wp2_with (go_at_call 66; refine (CY.out _ (hp.below hbq) (hl.below hbq) m1 j p q HPM.out HQJ.out hj1 hlt).mono ?_; rintro e w2 ⟨rfl, hb2⟩)
          have hr2 : w2.rowIs g 3 (n + 1) (fun x => .int .i64 (E x)) := World.rowIs.of_block hrq (hb2.block g hrq.lt)
          have hbw : Below w.heap.size w w2 := hbq.trans (hb2.mono hbq.size)
          have x0 := hr2.cell (i := m1) (by omega)
          have x1 : w2.cell? ⟨g, j + 1, none⟩ = some (.int .i64 (valAt L ls ps (j + 1))) := by rw [hr2.cell (by omega), HE.out (j + 1) (by omega) (by omega)]
          have xf := hr2.frozen m1
          have hmx := @run_imax Tryz.prog
          clear hb2 hrq hbq
          go_region
          go_wp2_with fail
          go_roundg (n - (j + 1))
          case measure => rw [HQ.out]; omega
          case rel =>
            have hsc' := scanR_yes HDJ.out HSC.out (by omega)
            rw [show j - m1 + 1 = j + 1 - m1 by omega, HT.out]
            refine ⟨j + 1, fun x => if x = m1 then imax (E m1) (recVal (sumT ps m1 (j - m1) + q.b) ls + valAt L ls ps (j + 1)) else E x, by omega, by omega, rfl, by go_num, (hbw.drew).setCell hgw _, ?_, fun x h1 h2 => ?_, ?_, ?_, ?_⟩
            · refine ((World.rowIs.drew hr2).set m1 _).congr fun i _ => ?_
              by_cases hi : i = m1 <;> simp [hi]
            · dsimp only; rw [if_neg (by omega)]; exact HE.out x h1 h2
            · rw [show j - m1 + 1 = j + 1 - m1 by omega, HT.out] at hrb
              dsimp only; rw [if_pos rfl]; unfold imax; split <;> omega
            · rw [show j - m1 + 1 = j + 1 - m1 by omega, HT.out] at hrb
              dsimp only; rw [if_pos rfl]; unfold imax; split <;> omega
            · dsimp only; rw [if_pos rfl, HT.out]; exact hsc'
      · obtain rfl : j = n := by omega
        have hsc := HSC.out
        rw [HN.out] at hsc
        have hE1 := Lib.hid (scanR_end hsc)
        clear hsc
        go_wp2_with fail
        go_roundg m1
        case measure => omega
        case rel =>
          refine ⟨E, by omega, rfl, hbq, hrq, fun x h1 h2 => ?_⟩
          by_cases hx : x = m1
          · rw [hx]; exact hE1.out.symm
          · exact HE.out x (by omega) h2
theorem rvalues_any (A : Option Addr) (c : Nat) (ps : List P2) (L : Int) (B : Option Addr) (d : Nat) (ls : List P2) (w : World) (hps : ps.length ≤ 1000) (hls : ls.length ≤ 1000) (hp : Pairs w 0 A ps) (hl : Pairs w 0 B ls) :
    Calls Tryz.prog 44 #[.slice A ps.length c, .int .i64 L, .slice B ls.length d] w fun e w' => ∃ G cc, e = .returned (.tuple #[.slice G (valuesF ps L ls).length cc, .int .i64 (chkErr ps L ls)]) ∧ Ints w' w.heap.size G (valuesF ps L ls) ∧ Below w.heap.size w w' := by
  refine (rvalues_ty A c ps L B d ls w hps hls hp hl).mono ?_
  rintro e w' ⟨G, cc, h1, h2, h3, _⟩
  exact ⟨G, cc, h1, h2, h3⟩

end Go.Proofs.YtilkcailpkebdaaGreat

/-
  treatyref25.Prove and treatyref25.SameBounds: their contracts.
-/
namespace Go.Proofs.YtilkcailpkebdaaGreat
open Go.RowKit
set_option linter.unusedVariables false

set_option maxRecDepth 100000 in
set_option maxHeartbeats 4000000 in
theorem rprove_any (A : Option Addr) (c : Nat) (los : List Los) (M : Option Addr) (mc : Nat) (am : List Int) (n : Int) (E : Option Addr) (ec : Nat) (ls : List P2) (w : World)
    (hll : los.length ≤ 900) (hal : am.length ≤ 1000) (hel : ls.length ≤ 1000) (hL : Losses w 0 A los) (hM : Ints w 0 M am) (hE : Pairs w 0 E ls) :
    Calls Tryz.prog 15 #[.slice A los.length c, .slice M am.length mc, .int .i64 n, .slice E ls.length ec] w fun e w' => ∃ (B : Option Addr) (bc : Nat) (bs : List Bd),
      e = .returned (.tuple #[.slice B bs.length bc, .int .i64 (bestA los am n ls)]) ∧ bs.map Bd.key = provF los am n ls ∧ Bnds w' B bs ∧ Below w.heap.size w w' := by
  have C0 := Lib.hid (rargs_any A c los M mc am n E ec ls w (by omega) hal hel hL hM hE)
  have C3 : Hid (∀ W, Losses W 0 A los → _) := fun W h => rperils_any A c los W hll h
  have C4 : Hid (∀ (p : Int) W, Losses W 0 A los → Ints W 0 M am → _) := fun p W h h' => rpoints_any A c los M mc am p W (by omega) hal h h'
  have C5 : Hid (∀ (F : Option Addr) (f : Nat) (p : Int) W, (ptsF los am p).length ≤ 1000 → Pairs W 0 F (ptsF los am p) → Pairs W 0 E ls → _) := fun F f p W h0 h h' => rvalues_ty F f (ptsF los am p) n E ec ls W h0 hel h h'
  obtain ⟨nl, hnl⟩ : ∃ k, k = los.length := ⟨_, rfl⟩
  obtain ⟨na, hna⟩ : ∃ k, k = am.length := ⟨_, rfl⟩
  obtain ⟨ne, hne⟩ : ∃ k, k = ls.length := ⟨_, rfl⟩
  have hpl := perils_len los
  rw [← hnl, ← hna] at C0 C4
  rw [← hne] at C0 C5
  rw [← hnl] at C3 hpl hll
  rw [← hnl, ← hna, ← hne]
  clear hnl hna hne hal hel
  obtain ⟨i0, hi0, hz0, hz1, hz2⟩ := info_parts Tryz.infoBounds
  by_cases hx : bestA los am n ls = 0
  case neg =>
    have q : (bestA los am n ls != 0) = true := by simpa using hx
    have HP : Hid (provF los am n ls = []) := by show _ = _; unfold provF; rw [if_neg hx]
    clear hx
    go_enter Tryz.func15, Tryz.ntmps15
    go_wp2_with (go_at_call 37; refine C0.out.mono ?_; rintro e w1 ⟨rfl, hb1⟩)
    go_ret2
    exact ⟨none, 0, [], rfl, HP.out.symm, ⟨Sl.none_, VsAt.nil _⟩, hb1⟩
  have q0 : (bestA los am n ls != 0) = false := by rw [hx]; rfl
  have HX := Lib.hid hx
  have HP : Hid (provF los am n ls = (perilsF los).map (fun p => (p, valsF n ls (ptsF los am p)))) := by show _ = _; unfold provF; rw [if_pos hx]
  have hparts := bestA_parts hx
  have HCK : Hid (∀ p, chkErr (ptsF los am p) n ls = 0) := fun p => chkErr_pts hparts.1 hparts.2.1 hparts.2.2 p
  have HPL : Hid (∀ p, (ptsF los am p).length ≤ 64) := fun p => (ptsF_fine hparts.1 p).2.2.2
  have HEF : Hid (∀ p, eptsF los am p = ptsF los am p) := fun p => by unfold eptsF; rw [if_pos hparts.1]
  have HVF : Hid (∀ p, valuesF (ptsF los am p) n ls = valsF n ls (ptsF los am p)) := fun p => by unfold valuesF; rw [if_pos (HCK.out p)]
  rw [hparts.1] at C4
  rw [hx] at C0
  rw [hx]
  clear hx hparts
  go_enter Tryz.func15, Tryz.ntmps15
  go_wp2_with fail
  refine C0.out.mono ?_
  rintro e w2 ⟨rfl, hb2⟩
  clear C0
  go_wp2_with fail
  refine (C3.out _ (hL.below hb2)).mono ?_
  rintro e w3 ⟨PV, pc, rfl, hPV, hb3⟩
  have hb03 := hb2.trans (hb3.mono hb2.size)
  obtain ⟨np, hnp⟩ : ∃ m, m = (perilsF los).length := ⟨_, rfl⟩
  rw [← hnp] at hpl ⊢
  have HNP := Lib.hid hnp
  clear hnp hb3 C3
  go_wp2_with fail
  go_loopw [11, 13, 14, 15, 16, 17, 29] (fun v _ _ _ _ _ ii wr => ∃ (k : Nat) (bs : List Bd), k ≤ np ∧ ii = .int .i64 k ∧ bs.length = k ∧ bs.map Bd.key = ((perilsF los).take k).map (fun p => (p, valsF n ls (ptsF los am p))) ∧ wr.ownsRow w3.heap.size 84 2 v k (bs.flatMap Bd.cells) ∧ VsAt wr bs ∧ Below w3.heap.size w3 wr) (fun _ _ _ _ _ _ ii _ => np - (intOf ii).toNat)
  case atStart => exact ⟨0, [], Nat.zero_le _, rfl, rfl, rfl, own_nil _ _ _ _, VsAt.nil _, Below.refl _ _⟩
  case round =>
    obtain ⟨k, bs, hk, rfl, hbl, hkey, hown, hvs, hbr⟩ := hrel
    have HKEY := Lib.hid hkey
    have HBL := Lib.hid hbl
    clear hkey hbl
    obtain ⟨V, vc, rfl, _⟩ := own_shape hown
    obtain ⟨wo, hwo⟩ : ∃ wo : World, wo = wr := ⟨_, rfl⟩
    rw [← hwo] at hbr hown hvs ⊢
    clear hwo
    have hb0r := hb03.trans (hbr.mono hb03.size)
    by_cases hkn : k < np
    case neg =>
      obtain rfl : k = np := by omega
      have HK2 : Hid (bs.map Bd.key = provF los am n ls) := by show _ = _; rw [HP.out, HKEY.out, List.take_of_length_le (by rw [← HNP.out]; exact Nat.le_refl _)]
      have HB := Lib.hid (bnds_of_own hown HBL.out.symm hvs)
      go_wp2_with fail
      go_ret2
      exact ⟨V, vc, bs, by rw [HBL.out]; rfl, HK2.out, HB.out, hb0r⟩
    obtain ⟨p, hp, _⟩ := drop_cons (xs := perilsF los) (i := k) (by rw [← HNP.out]; exact hkn)
    obtain ⟨pb, po, rfl, _, _, p0⟩ := (hPV.below hbr).at_ hp
    have HPK : Hid (((perilsF los).take (k + 1)).map (fun p => (p, valsF n ls (ptsF los am p))) = ((perilsF los).take k).map (fun p => (p, valsF n ls (ptsF los am p))) ++ [(p, valsF n ls (ptsF los am p))]) := by show _ = _; rw [List.take_add_one, hp]; simp
    have D4 := Lib.hid (C4.out p wo (hL.below hb0r) (hM.below hb0r))
    rw [HEF.out p] at D4
    have hkn' : (k : Int) < (np : Int) := by omega
    clear hp
    go_wp2_with fail
    refine D4.out.mono ?_
    rintro e w4 ⟨xv, rfl, hxv, hb4⟩
    obtain ⟨XV, xc, rfl, _⟩ := own_shape hxv
    have hXV : Pairs w4 0 XV (ptsF los am p) := (pairs_of_own hxv).low (Nat.zero_le _)
    have hb04 := hb0r.trans (hb4.mono hb0r.size)
    have D5 := Lib.hid (C5.out XV xc p w4 (Nat.le_trans (HPL.out p) (by omega)) hXV (hE.below hb04))
    rw [HCK.out p, HVF.out p] at D5
    obtain ⟨nx, hnx⟩ : ∃ m, m = (ptsF los am p).length := ⟨_, rfl⟩
    rw [← hnx] at D5 ⊢
    clear hnx D4 hxv hXV
    go_wp2_with fail
    refine D5.out.mono ?_
    rintro e w5 ⟨G, gc, rfl, hG, hb5, hty⟩
    have hb45 := hb4.trans (hb5.mono hb4.size)
    have hb35 := hbr.trans (hb45.mono hbr.size)
    obtain ⟨vs, hvs'⟩ : ∃ x, x = valsF n ls (ptsF los am p) := ⟨_, rfl⟩
    rw [← hvs'] at hG HPK ⊢
    have hown5 := own_below (own_below hown hb4) hb5
    have hvs5 := (hvs.below hb4).below hb5
    obtain ⟨w6, hw6⟩ : ∃ x : World, x = w5.alloc (.cells #[.int .i64 p, .slice G vs.length gc] 84) := ⟨_, rfl⟩
    have hb56 : Below w5.heap.size w5 w6 := by rw [hw6]; exact below_alloc1 _ _
    have hh6 : w6.heap[w5.heap.size]? = some (.cells #[.int .i64 p, .slice G vs.length gc] 84 (0, 0)) := by rw [hw6]; exact heap_alloc_new _ _
    have hown6 := own_below hown5 hb56
    have hsrc : SrcG Bd.cells w6 (some ⟨w5.heap.size, 0, none⟩) [⟨p, G, gc, vs⟩] := .inr ⟨_, rfl, fun j u hu => by
      rw [addr_at0]
      simp only [World.cell?, hh6]
      simpa [Bd.cells] using hu⟩
    have hV6 : VsAt w6 (bs ++ [⟨p, G, gc, vs⟩]) := (hvs5.below hb56).snoc (b := ⟨p, G, gc, vs⟩) ((hG.low (Nat.zero_le _)).below hb56) (fun a ha => by
      obtain ⟨cs, fr, h3⟩ := hty a ha
      exact ⟨cs, fr, (hb56.block _ (lt_of_heap h3)).trans h3⟩)
    have hb36 := hb35.trans (hb56.mono hb35.size)
    have h36 := hb36.size
    clear hvs' hown5 hvs5 hG hty D5 hh6 hown hvs hb4 hb5 hb45 hb04
    go_wp2_with (at_builtin; (try rw [← hw6]); refine wpList_append_src Bd.cells rfl (.tmp 47) (.tmp 51) 40 rfl w3.heap.size 84 i0 _ 2 32 Tryz.underlying40 hi0 hz0 hz1 hz2 rfl (by decide) (by decide) (fun _ => rfl) bd_one _ k _ rfl hown6 _ 1 1 [⟨p, G, gc, vs⟩] rfl rfl hsrc (by omega) h36 ?_)
    intro v7 w7 hown7 hg7
    (try rw [← hw6] at hg7)
    have hown7 : w7.ownsRow w3.heap.size 84 2 v7 (k + 1) ((bs ++ [(⟨p, G, gc, vs⟩ : Bd)]).flatMap Bd.cells) := by simpa [Bd.cells] using hown7
    have hV7 := hV6.grown hown6 hg7
    have hb37 : Below w3.heap.size w3 w7 := hb36.grown hg7 h36 (fun g hg => own_low hown6 g hg)
    clear hV6 hown6 hg7 hsrc hw6
    go_wp2_with fail
    go_roundw
    case rel => exact ⟨k + 1, bs ++ [⟨p, G, gc, vs⟩], by omega, by go_num, by rw [List.length_append, HBL.out]; rfl, by rw [List.map_append, HKEY.out, HPK.out]; rfl, hown7, hV7, hb37⟩
    case measure => simp [intOf]; omega

set_option maxHeartbeats 1000000 in
theorem sameInts_q (A B : Option Addr) (c d : Nat) (xs : List Int) (w : World) (hx : Ints w 0 A xs) (hy : Ints w 0 B xs) (hxl : xs.length ≤ 9223372036854775807) :
    Calls Tryz.prog 24 #[.slice A xs.length c, .slice B xs.length d] w fun e w' => e = .returned (.bool true) ∧ ∃ m, w' = w.drewN m := by
  obtain ⟨n, hn⟩ : ∃ n, n = xs.length := ⟨_, rfl⟩
  rw [← hn] at hxl ⊢
  have HN := Lib.hid hn
  clear hn
  go_enter Tryz.func24, Tryz.ntmps24
  go_wp2_with fail
  go_loopw [5] (fun ii wr => ∃ (i m : Nat), ii = .int .i64 i ∧ i ≤ n ∧ wr = w.drewN m) (fun ii _ => n - (intOf ii).toNat)
  case atStart => exact ⟨0, 0, rfl, Nat.zero_le _, rfl⟩
  case round =>
    obtain ⟨i, m, rfl, hi, hwr⟩ := hrel
    rw [hwr]
    clear hwr
    by_cases hin : i < n
    · obtain ⟨x, hxi, _⟩ := drop_cons (xs := xs) (i := i) (by rw [← HN.out]; exact hin)
      have hx' : Ints (w.drewN m) 0 A xs := Sl.drewN hx m
      have hy' : Ints (w.drewN m) 0 B xs := Sl.drewN hy m
      obtain ⟨b1, o1, rfl, _, _, c1⟩ := hx'.at_ hxi
      obtain ⟨b2, o2, rfl, _, _, c2⟩ := hy'.at_ hxi
      clear hxi
      obtain ⟨wm, hwm⟩ : ∃ x : World, x = w.drewN m := ⟨_, rfl⟩
      rw [← hwm] at c1 c2 ⊢
      have HWM := Lib.hid hwm
      clear hwm
      go_wp2_with fail
      go_quiet (fail)
      go_wp2_with fail
      go_roundw
      case rel => exact ⟨i + 1, m + _, by go_num, by omega, by rw [HWM.out, World.drewN_drewN]⟩
      case measure => simp [intOf]; omega
    · go_wp2_with fail
      go_ret
      exact ⟨rfl, m, rfl⟩
set_option maxRecDepth 100000 in
set_option maxHeartbeats 2000000 in
theorem sameBounds_self (A B : Option Addr) (c d : Nat) (bs bt : List Bd) (w : World) (hk : bs.map Bd.key = bt.map Bd.key) (hl : bs.length ≤ 1000) (hv : ∀ b ∈ bs, b.vs.length ≤ 9223372036854775807) (hA : Bnds w A bs) (hB : Bnds w B bt) :
    Calls Tryz.prog 16 #[.slice A bs.length c, .slice B bt.length d] w fun e w' => e = .returned (.bool true) ∧ Below w.heap.size w w' := by
  have hlen : bt.length = bs.length := by have := congrArg List.length hk; simpa using this.symm
  have HK : Hid (∀ (i : Nat) (b b' : Bd), bs[i]? = some b → bt[i]? = some b' → b.p = b'.p ∧ b.vs = b'.vs) := fun i b b' h h' => by
    have e := congrArg (fun l => l[i]?) hk
    simp only [List.getElem?_map, h, h', Option.map_some, Option.some.injEq, Bd.key, Prod.mk.injEq] at e
    exact e
  have HA := Lib.hid hA
  have HB := Lib.hid hB
  have HV := Lib.hid hv
  rw [hlen]
  obtain ⟨n, hn⟩ : ∃ n, n = bs.length := ⟨_, rfl⟩
  have HN := Lib.hid hn
  have HM : Hid (n = bt.length) := by show _ = _; rw [hlen]; exact hn
  rw [← hn] at hl ⊢
  clear hn hlen hk hA hB hv
  go_enter Tryz.func16, Tryz.ntmps16
  go_wp2_with fail
  go_loopw [5, 13] (fun _ ii wr => ∃ i : Nat, ii = .int .i64 i ∧ i ≤ n ∧ Below w.heap.size w wr) (fun _ ii _ => n - (intOf ii).toNat)
  case atStart => exact ⟨0, rfl, Nat.zero_le _, Below.refl _ _⟩
  case round =>
    obtain ⟨i, rfl, hi, hb⟩ := hrel
    by_cases hin : i < n
    case neg =>
      go_wp2_with fail
      go_ret
      exact ⟨rfl, hb⟩
    obtain ⟨x, hx, _⟩ := drop_cons (xs := bs) (i := i) (by rw [← HN.out]; exact hin)
    obtain ⟨y, hy, _⟩ := drop_cons (xs := bt) (i := i) (by rw [← HM.out]; exact hin)
    obtain ⟨e1, e2⟩ := HK.out i x y hx hy
    have hxl := HV.out x (List.mem_of_getElem? hx)
    obtain ⟨g1, o1, rfl, _, c0, c1, c2⟩ := (HA.out.below hb).at_ hx
    obtain ⟨g2, o2, rfl, _, d0, d1, d2⟩ := (HB.out.below hb).at_ hy
    rw [← e1] at d0
    rw [← e2] at d1 d2
    have CQ : Hid (∀ k, Calls Tryz.prog 24 #[.slice x.G x.vs.length x.c, .slice y.G x.vs.length y.c] (wr.drewN k) fun e w' => e = .returned (.bool true) ∧ ∃ m, w' = (wr.drewN k).drewN m) := fun k => sameInts_q x.G y.G x.c y.c x.vs (wr.drewN k) (Sl.drewN c2 k) (Sl.drewN d2 k) hxl
    obtain ⟨lv, hlv⟩ : ∃ z, z = x.vs.length := ⟨_, rfl⟩
    obtain ⟨xp, hxp⟩ : ∃ z, z = x.p := ⟨_, rfl⟩
    obtain ⟨xG, hxG⟩ : ∃ z, z = x.G := ⟨_, rfl⟩
    obtain ⟨yG, hyG⟩ : ∃ z, z = y.G := ⟨_, rfl⟩
    obtain ⟨xq, hxq⟩ : ∃ z, z = x.c := ⟨_, rfl⟩
    obtain ⟨yq, hyq⟩ : ∃ z, z = y.c := ⟨_, rfl⟩
    rw [← hlv, ← hxG, ← hyG, ← hxq, ← hyq] at CQ
    rw [← hlv, ← hxG, ← hxq] at c1
    rw [← hlv, ← hyG, ← hyq] at d1
    rw [← hxp] at c0 d0
    have q : (xp != xp) = false := by simp
    have hin' : (i : Int) < (n : Int) := by omega
    clear hx hy e1 e2 hxl c2 d2 hlv hxp hxG hyG hxq hyq
    go_wp2_with fail
    go_quiet (exact Calls.quiet_of (CQ.out _))
    go_wp2_with fail
    go_roundw
    case rel => exact ⟨i + 1, by go_num, by omega, below_drewN hb _⟩
    case measure => simp [intOf]; omega

end Go.Proofs.YtilkcailpkebdaaGreat
