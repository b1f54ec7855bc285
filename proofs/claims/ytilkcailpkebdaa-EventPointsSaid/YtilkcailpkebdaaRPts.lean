/-
  treatyref25.Points: its contract.
-/
import Derived.Test.YtilkcailpkebdaaRPer
import Derived.Test.YtilkcailpkebdaaEPts2
import Derived.Test.YtilkcailpkebdaaRChkE
import Derived.RegionTactic
namespace Go.Proofs.Ytilkcailpkebdaa
open Go.RowKit
set_option linter.unusedVariables false

theorem hoursL_snoc (p : Int) : ∀ (ls : List Los) (ams : List Int) (l : Los) (a : Int), ls.length = ams.length → hoursL (ls ++ [l]) (ams ++ [a]) p = hoursL ls ams p ++ if l.peril = p ∧ 0 < a then [l.hour] else [] := by
  intro ls
  induction ls with
  | nil =>
    intro ams l a hl
    cases ams with
    | nil => simp only [List.nil_append, hoursL]
    | cons b bs => simp at hl
  | cons x xs ih =>
    intro ams l a hl
    cases ams with
    | nil => simp at hl
    | cons b bs =>
      simp only [List.cons_append, hoursL]
      rw [ih bs l a (by simpa using hl)]
      by_cases h : x.peril = p ∧ 0 < b
      · rw [if_pos h, if_pos h]; rfl
      · rw [if_neg h, if_neg h]
theorem hoursL_next {los : List Los} {am : List Int} {k : Nat} {l : Los} {a : Int} (hlen : am.length = los.length) (hl : los[k]? = some l) (ha : am[k]? = some a) (p : Int) : hoursL (los.take (k + 1)) (am.take (k + 1)) p = hoursL (los.take k) (am.take k) p ++ if l.peril = p ∧ 0 < a then [l.hour] else [] := by
  have h1 := (List.getElem?_eq_some_iff.1 hl).1
  have h2 := (List.getElem?_eq_some_iff.1 ha).1
  rw [List.take_add_one, List.take_add_one, hl, ha]
  exact hoursL_snoc p _ _ l a (by rw [List.length_take, List.length_take]; omega)
theorem hoursF_yes {los : List Los} {am : List Int} {k : Nat} {l : Los} {a : Int} (hlen : am.length = los.length) (hl : los[k]? = some l) (ha : am[k]? = some a) {p : Int} (h : l.peril = p ∧ 0 < a) : insI (hoursF (los.take k) (am.take k) p) l.hour = hoursF (los.take (k + 1)) (am.take (k + 1)) p := by
  unfold hoursF insAll; rw [hoursL_next hlen hl ha, if_pos h]; simp
theorem hoursF_no {los : List Los} {am : List Int} {k : Nat} {l : Los} {a : Int} (hlen : am.length = los.length) (hl : los[k]? = some l) (ha : am[k]? = some a) {p : Int} (h : ¬ (l.peril = p ∧ 0 < a)) : hoursF (los.take k) (am.take k) p = hoursF (los.take (k + 1)) (am.take (k + 1)) p := by
  unfold hoursF; rw [hoursL_next hlen hl ha, if_neg h]; simp
theorem hoursL_len (p : Int) : ∀ (ls : List Los) (ams : List Int), (hoursL ls ams p).length ≤ ls.length := by
  intro ls
  induction ls with
  | nil => intro ams; simp [hoursL]
  | cons l ls ih =>
    intro ams
    cases ams with
    | nil => simp [hoursL]
    | cons a ams =>
      have := ih ams
      simp only [hoursL]; split <;> simp only [List.length_cons] <;> omega
theorem hoursF_len (los : List Los) (am : List Int) (p : Int) : (hoursF los am p).length ≤ los.length := Nat.le_trans (insAll_len _) (hoursL_len p los am)
theorem hoursF_take_len (los : List Los) (am : List Int) (p : Int) (k : Nat) : (hoursF (los.take k) (am.take k) p).length ≤ los.length := Nat.le_trans (hoursF_len _ _ _) (by rw [List.length_take]; omega)
theorem lt_of_heap1 {w : World} {b : Nat} {o : Obj} (h : w.heap[b]? = some o) : b < w.heap.size := by
  rcases Nat.lt_or_ge b w.heap.size with hlt | hge
  · exact hlt
  · rw [Array.getElem?_eq_none hge] at h; cases h
theorem pts_next {los : List Los} {am : List Int} {p : Int} {hs : List Int} {j : Nat} {h : Int} (hh : hs[j]? = some h) : (((hs.take j).map fun t => (⟨t, sumAt los am p t⟩ : P2)).flatMap P2.cells) ++ P2.cells ⟨h, sumAt los am p h⟩ = (((hs.take (j + 1)).map fun t => (⟨t, sumAt los am p t⟩ : P2)).flatMap P2.cells) := by
  rw [List.take_add_one, hh]; simp

set_option maxRecDepth 100000 in
set_option maxHeartbeats 4000000 in
theorem rpoints_any (A : Option Addr) (c : Nat) (los : List Los) (M : Option Addr) (mc : Nat) (am : List Int) (p : Int) (w : World) (hll : los.length ≤ 1000) (hal : am.length ≤ 1000) (hL : Losses w 0 A los) (hM : Ints w 0 M am) :
    Calls Try.prog 15 #[.slice A los.length c, .slice M am.length mc, .int .i64 p] w fun e w' => ∃ v, e = .returned (.tuple #[v, .int .i64 (chkE los am)]) ∧ w'.ownsRow w.heap.size 36 2 v (eptsF los am p).length ((eptsF los am p).flatMap P2.cells) ∧ Below w.heap.size w w' := by
  have C1 := Lib.hid (rcheckE_any A c los M mc am w (by omega) (by omega) hL hM)
  obtain ⟨n, hn⟩ : ∃ k, k = los.length := ⟨_, rfl⟩
  obtain ⟨na, hna⟩ : ∃ k, k = am.length := ⟨_, rfl⟩
  rw [← hn, ← hna] at C1 ⊢
  rw [← hn] at hll
  rw [← hna] at hal
  have HN := Lib.hid hn
  have HNA := Lib.hid hna
  clear hn hna
  by_cases hE : chkE los am = 0
  case neg =>
    have q : (chkE los am != 0) = true := by simpa using hE
    have HX : Hid (eptsF los am p = []) := by unfold eptsF; rw [if_neg hE]; rfl
    clear hE
    go_enter Try.func15, Try.ntmps15
    go_wp2_with (go_at_call 39; refine C1.out.mono ?_; rintro e w1 ⟨rfl, hb1⟩)
    go_ret2
    refine ⟨_, rfl, ?_, hb1⟩
    rw [HX.out]; exact own_nil _ _ _ _
  have hG := goodE_of hE
  have hna : na = n := by rw [HNA.out, HN.out]; exact hG.same
  subst hna
  have HX : Hid (eptsF los am p = ptsF los am p) := by unfold eptsF; rw [if_pos hE]; rfl
  have q : (chkE los am != 0) = false := by rw [hE]; rfl
  have hn64 : na ≤ 64 := by rw [HN.out]; exact hG.len
  have HAMB := Lib.hid (fun a ha => (zip_amounts hG.same hG.all a ha).1)
  have HSUM := Lib.hid hG.sum
  have HALL := Lib.hid hG.all
  have HSAME := Lib.hid hG.same
  rw [hE] at C1
  rw [hE]
  clear hE hG
  go_enter Try.func15, Try.ntmps15
  go_wp2_with fail
  refine C1.out.mono ?_
  rintro e w1 ⟨rfl, hb1⟩
  go_wp2_with fail
  go_loopw [9, 10, 11, 26] (fun v _ _ ii wr => ∃ (k : Nat) (B : Option Addr) (d : Nat), k ≤ na ∧ ii = .int .i64 k ∧ v = .slice B (hoursF (los.take k) (am.take k) p).length d ∧ (hoursF (los.take k) (am.take k) p).length ≤ d ∧ d ≤ 9223372036854775807 ∧ (B = none → d = 0) ∧ Flat B ∧ Ints wr 0 B (hoursF (los.take k) (am.take k) p) ∧ Below w.heap.size w wr) (fun _ _ _ ii _ => na - (intOf ii).toNat)
  case atStart => exact ⟨0, none, 0, Nat.zero_le _, rfl, rfl, Nat.le_refl _, by omega, fun _ => rfl, .inl rfl, Sl.none_, hb1⟩
  case round =>
    obtain ⟨k, B, d, hk, rfl, rfl, hd1, hd2, hBn, hBf, hI, hb⟩ := hrel
    have hlen := hoursF_take_len los am p k
    rw [← HN.out] at hlen
    clear C1 hb1
    by_cases hkn : k < na
    · obtain ⟨l, hl, _⟩ := drop_cons (xs := los) (i := k) (by rw [← HN.out]; exact hkn)
      obtain ⟨a, ha, _⟩ := drop_cons (xs := am) (i := k) (by rw [← HNA.out]; exact hkn)
      obtain ⟨b, off, rfl, _, hbl, c0, c1, c2, c3, c4, c5, c6, c7, c8, c9⟩ := (hL.below hb).at_ hl
      obtain ⟨b2, off2, rfl, _, hbm, m0⟩ := (hM.below hb).at_ ha
      have HLX := Lib.hid hl
      have HAX := Lib.hid ha
      clear hl ha
      obtain ⟨wb, hwb⟩ : ∃ wb : World, wb = wr.alloc (.cells #[.int .i64 l.id, .int .i64 l.pol, .int .i64 l.risk, .int .i64 l.hour, .int .i64 l.peril, .int .i64 l.area, .int .i64 l.cur, .int .i64 l.sum, .int .i64 l.amt, .int .i64 l.paid] 55) := ⟨_, rfl⟩
      have hbb : Below wr.heap.size wr wb := by rw [hwb]; exact (Below.refl _ _).alloc (Nat.le_refl _) _
      have hb0b := hb.trans (hbb.mono hb.size)
      have p3 : wb.cell? ⟨wr.heap.size, 3, none⟩ = some (.int .i64 l.hour) := by rw [hwb]; simp
      have p4 : wb.cell? ⟨wr.heap.size, 4, none⟩ = some (.int .i64 l.peril) := by rw [hwb]; simp
      have m0b : wb.cell? ⟨b2, off2 + k, none⟩ = some (.int .i64 a) := (hbb.cell (p := ⟨b2, _, none⟩) hbm).trans m0
      have hIb := hI.below hbb
      go_upto_region 8 with fail
      rw [← hwb]
      clear hwb c0 c1 c2 c3 c4 c5 c6 c7 c8 c9 hbb m0 hI
      by_cases hp : l.peril = p ∧ 0 < a
      · have qp : (l.peril == p) = true := by simpa using hp.1
        have qa : decide (0 < a) = true := by simpa using hp.2
        have CI := Lib.hid (insert_any B d (hoursF (los.take k) (am.take k) p) l.hour wb (by omega) hd1 hd2 hBn hBf hIb)
        rw [hoursF_yes HSAME.out HLX.out HAX.out hp] at CI
        obtain ⟨m, hm⟩ : ∃ m, m = (hoursF (los.take k) (am.take k) p).length := ⟨_, rfl⟩
        rw [← hm] at CI ⊢
        clear hp hm hd1 hd2 hBn hBf hIb hlen
        go_wp2_with fail
        refine CI.out.mono ?_
        rintro e w2 ⟨B2, d2, rfl, h1, h2, h3, h4, h5, hb2⟩
        have hb02 := hb0b.trans (hb2.mono hb0b.size)
        obtain ⟨m2, hm2⟩ : ∃ m, m = (hoursF (los.take (k + 1)) (am.take (k + 1)) p).length := ⟨_, rfl⟩
        rw [← hm2] at h1 ⊢
        have HM2 := Lib.hid hm2
        have H5 := Lib.hid h5
        have H3 := Lib.hid h3
        have H4 := Lib.hid h4
        clear hm2 h5 h3 h4 CI hb2
        go_wp2_with fail
        go_roundw
        case rel => exact ⟨k + 1, B2, d2, by omega, by go_num, by rw [← HM2.out], by rw [← HM2.out]; exact h1, h2, H3.out, H4.out, H5.out, hb02⟩
        case measure => simp [intOf]; omega
      · have hno := hoursF_no HSAME.out HLX.out HAX.out hp
        rw [hno] at hd1 hIb ⊢
        obtain ⟨m, hm⟩ : ∃ m, m = (hoursF (los.take (k + 1)) (am.take (k + 1)) p).length := ⟨_, rfl⟩
        rw [← hm] at hd1 ⊢
        have HM2 := Lib.hid hm
        have H5 := Lib.hid hIb
        have H3 := Lib.hid hBn
        have H4 := Lib.hid hBf
        clear hno hm hIb hBn hBf hlen
        by_cases hpp : l.peril = p
        · have qp : (l.peril == p) = true := by simpa using hpp
          have qa : decide (0 < a) = false := by simp; omega
          clear hp hpp
          go_wp2_with fail
          go_roundw
          case rel => exact ⟨k + 1, B, d, by omega, by go_num, by rw [← HM2.out], by rw [← HM2.out]; exact hd1, hd2, H3.out, H4.out, H5.out, hb0b⟩
          case measure => simp [intOf]; omega
        · have qp : (l.peril == p) = false := by simpa using hpp
          clear hp hpp
          go_wp2_with fail
          go_roundw
          case rel => exact ⟨k + 1, B, d, by omega, by go_num, by rw [← HM2.out], by rw [← HM2.out]; exact hd1, hd2, H3.out, H4.out, H5.out, hb0b⟩
          case measure => simp [intOf]; omega
    · obtain rfl : k = na := by omega
      rw [List.take_of_length_le (by rw [← HN.out]; exact Nat.le_refl _), List.take_of_length_le (by rw [← HNA.out]; exact Nat.le_refl _)] at hI hlen ⊢
      obtain ⟨nh, hnh⟩ : ∃ m, m = (hoursF los am p).length := ⟨_, rfl⟩
      rw [← hnh] at hlen ⊢
      have HNH := Lib.hid hnh
      obtain ⟨w2, hw2⟩ : ∃ w2 : World, w2 = wr := ⟨_, rfl⟩
      rw [← hw2] at hI hb ⊢
      clear hnh hw2 hd1 hd2 hBn hBf
      obtain ⟨i0, hi, hz0, hz1, hz2⟩ := info_parts Try.infoPoint
      go_wp2_with fail
      go_loopw [12, 14, 15, 16, 17, 49] (fun v _ _ _ _ ii wx => ∃ (j : Nat), j ≤ nh ∧ ii = .int .i64 j ∧ wx.ownsRow w2.heap.size 36 2 v j ((((hoursF los am p).take j).map fun t => (⟨t, sumAt los am p t⟩ : P2)).flatMap P2.cells) ∧ Below w2.heap.size w2 wx) (fun _ _ _ _ _ ii _ => nh - (intOf ii).toNat)
      case atStart => exact ⟨0, Nat.zero_le _, rfl, own_nil _ _ _ _, Below.refl _ _⟩
      case round =>
        obtain ⟨j, hj, rfl, hown, hbx⟩ := hrel
        obtain ⟨V, vc, rfl, _⟩ := own_shape hown
        have hb0x := hb.trans (hbx.mono hb.size)
        by_cases hjn : j < nh
        case neg =>
          obtain rfl : j = nh := by omega
          rw [List.take_of_length_le (by rw [← HNH.out]; exact Nat.le_refl _)] at hown
          go_wp2_with fail
          go_ret2
          refine ⟨_, rfl, ?_, hb0x⟩
          rw [HX.out]
          unfold ptsF
          rw [List.length_map, ← HNH.out]
          exact own_base hown hb.size
        obtain ⟨h, hh, _⟩ := drop_cons (xs := hoursF los am p) (i := j) (by rw [← HNH.out]; exact hjn)
        obtain ⟨hbk, hof, rfl, _, hbh, h0⟩ := (hI.below hbx).at_ hh
        have HH := Lib.hid hh
        obtain ⟨bp, hbp⟩ : ∃ bp, bp = wr.heap.size := ⟨_, rfl⟩
        obtain ⟨wp, hwp⟩ : ∃ wp : World, wp = wr.alloc (.cells #[.int .i64 h, .int .i64 0] 36) := ⟨_, rfl⟩
        have hbw : Below wr.heap.size wr wp := by rw [hwp]; exact (Below.refl _ _).alloc (Nat.le_refl _) _
        have hhp : wp.heap[bp]? = some (.cells #[.int .i64 h, .int .i64 0] 36 (0, 0)) := by rw [hwp, hbp]; exact heap_alloc_new _ _
        have hownp := own_below hown hbw
        have hb2p := hbx.trans (hbw.mono hbx.size)
        have HF : Hid (∀ g, (Value.slice V j vc).ownBlock = some g → g < bp) := fun g hg => by have := own_lt hown g hg; omega
        have hbp2 : w2.heap.size ≤ bp := by rw [hbp]; exact hbx.size
        go_upto_region 16 with fail
        rw [← hwp, ← hbp]
        have HBP := Lib.hid hbp
        clear hh hbp hwp hbw hown hbx hb0x h0
        go_wp2_with fail
        go_loopw [16, 17, 57] (fun _ _ ii wy => ∃ (i : Nat), i ≤ k ∧ ii = .int .i64 i ∧ wy.heap[bp]? = some (.cells #[.int .i64 h, .int .i64 (sumAt (los.take i) (am.take i) p h)] 36 (0, 0)) ∧ wy.ownsRow w2.heap.size 36 2 (.slice V j vc) j ((((hoursF los am p).take j).map fun t => (⟨t, sumAt los am p t⟩ : P2)).flatMap P2.cells) ∧ Below w2.heap.size w2 wy) (fun _ _ ii _ => k - (intOf ii).toNat)
        case atStart => exact ⟨0, Nat.zero_le _, rfl, by simpa [sumAt] using hhp, hownp, hb2p⟩
        case round =>
          obtain ⟨i, hik, rfl, hhi, hown, hbx⟩ := hrel
          clear hhp hownp hb2p
          have hb0x := hb.trans (hbx.mono hb.size)
          by_cases hin : i < k
          case neg =>
            obtain rfl : i = k := by omega
            rw [List.take_of_length_le (by rw [← HN.out]; exact Nat.le_refl _), List.take_of_length_le (by rw [← HNA.out]; exact Nat.le_refl _)] at hhi
            obtain ⟨s, hs⟩ : ∃ s, s = sumAt los am p h := ⟨_, rfl⟩
            rw [← hs] at hhi
            have HS := Lib.hid hs
            have d0 : wr.cell? ⟨bp, 0, none⟩ = some (.int .i64 h) := by simp [World.cell?, hhi]
            have d1 : wr.cell? ⟨bp, 1, none⟩ = some (.int .i64 s) := by simp [World.cell?, hhi]
            clear hs
            have hsz := hbx.size
            go_wp2_with (at_builtin; refine wpList_append_own _ rfl (.tmp 81) (.tmp 83) 27 rfl w2.heap.size 36 i0 _ 2 16 Try.underlying27 hi hz0 hz1 hz2 rfl (by decide) _ j _ rfl (own_below hown ((Below.refl _ _).alloc (Nat.le_refl _) _)) ⟨wr.heap.size, 0, none⟩ 1 1 (P2.cells ⟨h, s⟩) rfl rfl ?c1 ?c2 ?c3 ?c4 ?c5 ?_)
            case c1 => exact cell_new wr (P2.cells ⟨h, s⟩) 36
            case c2 => intro u hu; simp [P2.cells] at hu; rcases hu with rfl | rfl <;> rfl
            case c3 => unfold maxLen; omega
            case c4 => omega
            case c5 => simp; omega
            intro v' w8 hown8 hg8 _
            have hb8 : Below w2.heap.size w2 w8 := (hbx.alloc hbx.size _).grown hg8 (by simp; omega) (fun g' hg' => own_low hown g' hg')
            obtain ⟨V', vc', rfl, _⟩ := own_shape hown8
            rw [HS.out, ← List.map_take, pts_next HH.out] at hown8
            clear hg8 hown hhi
            go_wp2_with fail
            go_roundw
            case rel => exact ⟨j + 1, by omega, by go_num, hown8, hb8⟩
            case measure => simp [intOf]; omega
          obtain ⟨l, hl, _⟩ := drop_cons (xs := los) (i := i) (by rw [← HN.out]; exact hin)
          obtain ⟨a, ha, _⟩ := drop_cons (xs := am) (i := i) (by rw [← HNA.out]; exact hin)
          obtain ⟨b, off, rfl, _, hbl, c0, c1, c2, c3, c4, c5, c6, c7, c8, c9⟩ := (hL.below hb0x).at_ hl
          obtain ⟨b2, off2, rfl, _, hbm, m0⟩ := (hM.below hb0x).at_ ha
          have hpo := (pairOk_iff l a).1 (List.all_eq_true.1 HALL.out _ (List.mem_of_getElem? (zip_get hl ha)))
          have hsn := Lib.hid (sumAt_next HSAME.out hl ha p h)
          have hsb := sumAt_bd (los := los) HAMB.out i p h
          obtain ⟨s, hs⟩ : ∃ s, s = sumAt (los.take i) (am.take i) p h := ⟨_, rfl⟩
          rw [← hs] at hsb hhi hsn
          have hsm := HSUM.out
          clear hl ha hs
          obtain ⟨wb, hwb⟩ : ∃ wb : World, wb = wr.alloc (.cells #[.int .i64 l.id, .int .i64 l.pol, .int .i64 l.risk, .int .i64 l.hour, .int .i64 l.peril, .int .i64 l.area, .int .i64 l.cur, .int .i64 l.sum, .int .i64 l.amt, .int .i64 l.paid] 55) := ⟨_, rfl⟩
          have hbb : Below wr.heap.size wr wb := by rw [hwb]; exact (Below.refl _ _).alloc (Nat.le_refl _) _
          have hbxb := hbx.trans (hbb.mono hbx.size)
          have p3 : wb.cell? ⟨wr.heap.size, 3, none⟩ = some (.int .i64 l.hour) := by rw [hwb]; simp
          have p4 : wb.cell? ⟨wr.heap.size, 4, none⟩ = some (.int .i64 l.peril) := by rw [hwb]; simp
          have m0b : wb.cell? ⟨b2, off2 + i, none⟩ = some (.int .i64 a) := (hbb.cell (p := ⟨b2, _, none⟩) hbm).trans m0
          have hhb := (hbb.block bp (lt_of_heap1 hhi)).trans hhi
          have hownb := own_below hown hbb
          have d1 : wb.cell? ⟨bp, 1, none⟩ = some (.int .i64 s) := by simp [World.cell?, hhb]
          have e1 : wb.frozen? ⟨bp, 1, none⟩ = false := by simp [World.frozen?, hhb]
          go_upto_region 19 with fail
          rw [← hwb]
          clear hwb c0 c1 c2 c3 c4 c5 c6 c7 c8 c9 hbb m0 hhi hown hbx hb0x
          by_cases hp : l.peril = p ∧ l.hour = h
          · have qp : (l.peril == p) = true := by simpa using hp.1
            have qh : (l.hour == h) = true := by simpa using hp.2
            have hsn2 : Hid (sumAt (los.take (i + 1)) (am.take (i + 1)) p h = s + a) := by show _ = _; rw [hsn.out, if_pos hp]
            clear hp
            have hwr : IntKind.i64.wrap (s + a) = s + a := IntWalk.i64_in _ (by omega)
            have HWR := Lib.hid hwr
            clear hwr
            go_wp2_with fail
            go_still_tail 8, (by kernel_rfl)
            rw [HWR.out]
            go_wp2_with fail
            go_roundw
            case rel =>
              have k1 : wb.grownBy ((wb.setCell ⟨bp, 1, none⟩ (.int .i64 (s + a))).drew) (some bp) := only_drewN (only_setCell (only_refl _ _) (.inl rfl) _) 1
              refine ⟨i + 1, by omega, by go_num, ?_, ?_, ?_⟩
              · rw [hsn2.out]
                show (wb.setCell ⟨bp, 1, none⟩ (.int .i64 (s + a))).heap[bp]? = _
                simp [World.setCell, Array.getElem?_modify, hhb]
              · exact hownb.kept k1 (.inr fun e => by have := HF.out bp e; omega)
              · exact (hbxb.setCell hbp2 _).drew
            case measure => simp [intOf]; omega
          · have hsn2 : Hid (sumAt (los.take (i + 1)) (am.take (i + 1)) p h = s) := by show _ = _; rw [hsn.out, if_neg hp, Int.add_zero]
            by_cases hpp : l.peril = p
            · have qp : (l.peril == p) = true := by simpa using hpp
              have qh : (l.hour == h) = false := by simp; exact fun e => hp ⟨hpp, e⟩
              clear hp hpp
              go_wp2_with fail
              go_roundw
              case rel => exact ⟨i + 1, by omega, by go_num, by rw [hsn2.out]; exact hhb, hownb, hbxb⟩
              case measure => simp [intOf]; omega
            · have qp : (l.peril == p) = false := by simpa using hpp
              clear hp hpp
              go_wp2_with fail
              go_roundw
              case rel => exact ⟨i + 1, by omega, by go_num, by rw [hsn2.out]; exact hhb, hownb, hbxb⟩
              case measure => simp [intOf]; omega

end Go.Proofs.Ytilkcailpkebdaa
