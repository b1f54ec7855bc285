/-
  restate.Collect: its contract.
-/
import Derived.Test.YtpmiafnccjejnaaColMap
import Derived.Test.YtpmiafnccjejnaaSort3
import Derived.Test.YtpmiafnccjejnaaCollT
import Derived.StillTailTactics
namespace Go.Proofs.Ytpmiafnccjejnaa
open Go.RowKit Go.Maps Go.Sort
set_option linter.unusedVariables false

def valB (a : Int) : Bool := decide (-17592186044416 ≤ a) && decide (a ≤ 17592186044416)
set_option maxHeartbeats 400000 in
theorem validC_any (a : Int) (w : World) :
    Calls Try.prog 27 #[.int .i64 a] w fun e w' => e = .returned (.bool (valB a)) ∧ w = w' := by
  unfold valB
  go_enter Try.func27, Try.ntmps27
  go_wp2
  all_goals go_ret
  all_goals refine ⟨ret_bool ?_, rfl⟩
  all_goals simp [*]
  all_goals omega
theorem validS_val (s : Sh) : validS s = (valB s.amt && valB s.paid) := by
  unfold validS valB; simp only [Bool.and_assoc]
theorem zero2 (w : World) : (zeroValue 52).run Try.prog w = .ok (.agg #[.int .i64 0, .int .i64 0]) w := by kernel_rfl

set_option maxRecDepth 100000 in
set_option maxHeartbeats 4000000 in
theorem collect_any (A : Option Addr) (c : Nat) (l : List Sh) (w : World) (hl : l.length ≤ 70000) (hok : ∀ s ∈ l, s.ok) (hS : Shs w 0 A l) :
    Calls Try.prog 16 #[.slice A l.length c] w fun e w' => ∃ (B : Option Addr) (d : Nat), e = .returned (.tuple #[.slice B (colR l).length d, .int .i64 (colErr l)]) ∧ Shs w' w.heap.size B (colR l) ∧ Below w.heap.size w w' := by
  obtain ⟨n, hn⟩ : ∃ n, n = l.length := ⟨_, rfl⟩
  rw [← hn] at hl ⊢
  have HN := Lib.hid hn
  have HOK := Lib.hid hok
  clear hok
  have hmm := @run_makeMap Try.prog
  by_cases hlen : 65536 < n
  · have q : decide (65536 < (n : Int)) = true := by simp; omega
    have HE : Hid (colErr l = 4) := by show _ = _; unfold colErr; rw [if_pos (by rw [← hn]; exact hlen)]
    have HR : Hid (colR l = []) := by show _ = _; unfold colR; rw [if_neg (by rw [HE.out]; omega)]
    clear hn hlen
    go_enter Try.func16, Try.ntmps16
    go_wp2_with fail
    go_ret2
    exact ⟨none, 0, by rw [HR.out, HE.out]; rfl, by rw [HR.out]; exact Sl.none_, Below.refl _ _⟩
  have q : decide (65536 < (n : Int)) = false := by simp; omega
  have hn16 : n ≤ 65536 := by omega
  clear hn hlen
  go_enter Try.func16, Try.ntmps16
  go_wp2_with fail
  obtain ⟨B, hB⟩ : ∃ B, B = w.heap.size := ⟨_, rfl⟩
  have hown0 := World.ownsMap_made w Try.prog 50 R2
  have hb0 : Below w.heap.size w (w.alloc (.map #[] 0)) := (Below.refl _ _).alloc (Nat.le_refl _) _
  have hBw : w.heap.size ≤ B := by omega
  rw [← hB] at hown0 ⊢
  clear hB
  go_loopw [6, 7, 8, 22] (fun _ _ _ ii wr => ∃ (k : Nat) (D : DataW Unit), k ≤ n ∧ ii = .int .i64 k ∧ wr.ownsMap Try.prog 50 R2 B k D ∧ MapS (l.take k) D ∧ (∀ s ∈ l.take k, validS s = true) ∧ Below w.heap.size w wr) (fun _ _ _ ii _ => n - (intOf ii).toNat)
  case atStart => exact ⟨0, _, Nat.zero_le _, rfl, hown0, MapS.nil, by simp, hb0⟩
  case round =>
    obtain ⟨k, D, hk, rfl, hown, hD, hva, hb⟩ := hrel
    have HD := Lib.hid hD
    have HVA := Lib.hid hva
    clear hown0 hb0 hD hva hmm
    by_cases hkn : k < n
    · obtain ⟨s, hs, _⟩ := drop_cons (xs := l) (i := k) (by rw [← HN.out]; exact hkn)
      obtain ⟨b, off, rfl, _, hbl, c0, c1, c2, c3, c4⟩ := (hS.below hb).at_ hs
      have hso := HOK.out s (List.mem_of_getElem? hs)
      have HS := Lib.hid hs
      have hvv := validS_val s
      obtain ⟨wb, hwb⟩ : ∃ x : World, x = wr.alloc (.cells #[.int .i64 s.loss, .int .i64 s.treaty, .int .i64 s.party, .int .i64 s.amt, .int .i64 s.paid] 41) := ⟨_, rfl⟩
      obtain ⟨g1, hg1⟩ : ∃ x, x = wr.heap.size := ⟨_, rfl⟩
      have hbb : Below wr.heap.size wr wb := by rw [hwb]; exact (Below.refl _ _).alloc (Nat.le_refl _) _
      have hownb : wb.ownsMap Try.prog 50 R2 B k D := by rw [hwb]; exact hown.alloc _
      have hb0b := hb.trans (hbb.mono hb.size)
      have p0 : wb.cell? ⟨g1, 0, none⟩ = some (.int .i64 s.loss) := by rw [hwb, hg1]; simp
      have p1 : wb.cell? ⟨g1, 1, none⟩ = some (.int .i64 s.treaty) := by rw [hwb, hg1]; simp
      have p2 : wb.cell? ⟨g1, 2, none⟩ = some (.int .i64 s.party) := by rw [hwb, hg1]; simp
      have p3 : wb.cell? ⟨g1, 3, none⟩ = some (.int .i64 s.amt) := by rw [hwb, hg1]; simp
      have p4 : wb.cell? ⟨g1, 4, none⟩ = some (.int .i64 s.paid) := by rw [hwb, hg1]; simp
      have hg1l : g1 < wb.heap.size := by rw [hwb, hg1]; simp
      go_upto_region 7 with fail
      rw [← hwb, ← hg1]
      clear hwb hg1 c0 c1 c2 c3 c4 hown hbb hs
      by_cases hv : validS s = true
      case neg =>
        have HE : Hid (colErr l = 1) := by
          show _ = _
          unfold colErr
          rw [if_neg (by rw [← HN.out]; omega), if_pos]
          rw [List.all_eq_false]
          exact ⟨s, List.mem_of_getElem? HS.out, hv⟩
        have HR : Hid (colR l = []) := by show _ = _; unfold colR; rw [if_neg (by rw [HE.out]; omega)]
        rw [hvv] at hv
        cases ha : valB s.amt
        · clear hv hvv
          go_wp2_with (go_at_call 27; refine (validC_any _ _).mono ?_; rintro e w' ⟨rfl, rfl⟩)
          go_ret2
          exact ⟨none, 0, by rw [HR.out, HE.out]; rfl, by rw [HR.out]; exact Sl.none_, hb0b⟩
        · have hp : valB s.paid = false := by rw [ha] at hv; simpa using hv
          clear hv hvv
          go_wp2_with (go_at_call 27; refine (validC_any _ _).mono ?_; rintro e w' ⟨rfl, rfl⟩)
          go_ret2
          exact ⟨none, 0, by rw [HR.out, HE.out]; rfl, by rw [HR.out]; exact Sl.none_, hb0b⟩
      have HVS := Lib.hid hv
      have hvi := (validS_iff s).1 hv
      rw [hvv] at hv
      obtain ⟨ha, hp⟩ : valB s.amt = true ∧ valB s.paid = true := by simpa using hv
      clear hv hvv
      obtain ⟨wh, hwh⟩ : ∃ x : World, x = wb.alloc (.cells #[.int .i64 s.loss, .int .i64 s.treaty, .int .i64 s.party] 50) := ⟨_, rfl⟩
      obtain ⟨g2, hg2⟩ : ∃ x, x = wb.heap.size := ⟨_, rfl⟩
      have hbh : Below wb.heap.size wb wh := by rw [hwh]; exact (Below.refl _ _).alloc (Nat.le_refl _) _
      have hownh : wh.ownsMap Try.prog 50 R2 B k D := by rw [hwh]; exact hownb.alloc _
      have hb0h := hb0b.trans (hbh.mono hb0b.size)
      have r0 : wh.cell? ⟨g2, 0, none⟩ = some (.int .i64 s.loss) := by rw [hwh, hg2]; simp
      have r1 : wh.cell? ⟨g2, 1, none⟩ = some (.int .i64 s.treaty) := by rw [hwh, hg2]; simp
      have r2 : wh.cell? ⟨g2, 2, none⟩ = some (.int .i64 s.party) := by rw [hwh, hg2]; simp
      have s3 : wh.cell? ⟨g1, 3, none⟩ = some (.int .i64 s.amt) := (hbh.cell (p := ⟨g1, 3, none⟩) hg1l).trans p3
      have s4 : wh.cell? ⟨g1, 4, none⟩ = some (.int .i64 s.paid) := (hbh.cell (p := ⟨g1, 4, none⟩) hg1l).trans p4
      have hg1h : g1 < wh.heap.size := Nat.lt_of_lt_of_le hg1l hbh.size
      have hg2h : g2 < wh.heap.size := by rw [hwh, hg2]; simp
      have HKEY := Lib.hid (keyH (hOf s) hso)
      obtain ⟨v, ps, hlk, hRv⟩ := hownh.lookup lawH Try.underlying48 (zero2 wh) (R2_mk 0 0) HKEY.out
      obtain ⟨a0, p00, rfl, hz⟩ := R2_inv hRv
      have hat := HD.out.at_ hso
      have he : D2 (amtH (l.take k) s) (paidH (l.take k) s) = D2 a0 p00 := by
        rw [← hat]
        injection hz with hz1 hz2
      obtain ⟨e1, e2⟩ := D2_inj he
      have hbd := sum_bd (M := 17592186044416) (by omega) (l := l.take k) (fun x hx => by
        have := (validS_iff x).1 (HVA.out x hx)
        unfold BdS; omega) s
      have hlk' : ((l.take k).length : Int) ≤ 65536 := by rw [List.length_take]; omega
      rw [e1, e2] at hbd
      have HE1 := Lib.hid e1
      have HE2 := Lib.hid e2
      have hlk2 : (Instr.lookup 48 (.map (some B)) (.agg #[.int .i64 s.loss, .int .i64 s.treaty, .int .i64 s.party]) false).run Try.prog wh = .ok (.agg #[.int .i64 a0, .int .i64 p00]) wh := hlk
      clear hlk
      have hba : -1152921504606846976 ≤ a0 ∧ a0 ≤ 1152921504606846976 ∧ -1152921504606846976 ≤ p00 ∧ p00 ≤ 1152921504606846976 := by omega
      clear hbd hlk' e1 e2 he hat hz hRv
      obtain ⟨wv, hwv⟩ : ∃ x : World, x = wh.alloc (.cells #[.int .i64 a0, .int .i64 p00] 52) := ⟨_, rfl⟩
      obtain ⟨g3, hg3⟩ : ∃ x, x = wh.heap.size := ⟨_, rfl⟩
      have hbv : Below wh.heap.size wh wv := by rw [hwv]; exact (Below.refl _ _).alloc (Nat.le_refl _) _
      have hownv : wv.ownsMap Try.prog 50 R2 B k D := by rw [hwv]; exact hownh.alloc _
      have hb0v := hb0h.trans (hbv.mono hb0h.size)
      have v0 : wv.cell? ⟨g3, 0, none⟩ = some (.int .i64 a0) := by rw [hwv, hg3]; simp
      have v1 : wv.cell? ⟨g3, 1, none⟩ = some (.int .i64 p00) := by rw [hwv, hg3]; simp
      have t0 : wv.cell? ⟨g2, 0, none⟩ = some (.int .i64 s.loss) := (hbv.cell (p := ⟨g2, 0, none⟩) hg2h).trans r0
      have t1 : wv.cell? ⟨g2, 1, none⟩ = some (.int .i64 s.treaty) := (hbv.cell (p := ⟨g2, 1, none⟩) hg2h).trans r1
      have t2 : wv.cell? ⟨g2, 2, none⟩ = some (.int .i64 s.party) := (hbv.cell (p := ⟨g2, 2, none⟩) hg2h).trans r2
      have t3 : wv.cell? ⟨g1, 3, none⟩ = some (.int .i64 s.amt) := (hbv.cell (p := ⟨g1, 3, none⟩) hg1h).trans s3
      have t4 : wv.cell? ⟨g1, 4, none⟩ = some (.int .i64 s.paid) := (hbv.cell (p := ⟨g1, 4, none⟩) hg1h).trans s4
      have hwa : IntKind.i64.wrap (a0 + s.amt) = a0 + s.amt := IntWalk.i64_in _ (by omega)
      have hwp : IntKind.i64.wrap (p00 + s.paid) = p00 + s.paid := IntWalk.i64_in _ (by omega)
      have hkm : k < maxLen := by unfold maxLen; omega
      go_upto_region 10 with (go_at_call 27; refine (validC_any _ _).mono ?_; rintro e w' ⟨rfl, rfl⟩)
      rw [← hwh, ← hg2]
      clear hwh hg2 p0 p1 p2 p3 p4 hownb hbh
      go_upto_region 11 with fail
      rw [← hwv, ← hg3]
      clear hwv hg3 r0 r1 r2 s3 s4 hownh hbv hlk2
      go_wp2_with (at_mapUpdate; refine wpList_mapUpdate_own _ rfl _ _ _ 48 rfl 50 52 lawH Try.underlying48 _ B k _ rfl hownv hkm _ _ _ rfl rfl HKEY.out _ [] (R2_mk _ _) ?_)
      intro w2 hown2 hgrow2
      have hb2 : Below w.heap.size w w2 := hb0v.grown hgrow2 hb0v.size (fun j hj => by cases hj; exact hBw)
      have HM : Hid (MapS (l.take (k + 1)) (D.put (kL (hOf s)) (D2 (a0 + s.amt) (p00 + s.paid)))) := by
        have := HD.out.next HS.out hso
        rw [HE1.out, HE2.out] at this
        exact this
      have HV2 : Hid (∀ x ∈ l.take (k + 1), validS x = true) := fun x hx => by
        rw [List.take_add_one, HS.out] at hx
        rcases List.mem_append.1 hx with hx | hx
        · exact HVA.out x hx
        · obtain rfl : x = s := by simpa using hx
          exact HVS.out
      go_wp2_with fail
      go_roundw
      case rel => exact ⟨k + 1, _, by omega, by go_num, hown2, HM.out, HV2.out, hb2⟩
      case measure => simp [intOf]; omega
    · obtain rfl : k = n := by omega
      rw [List.take_of_length_le (by rw [← HN.out]; exact Nat.le_refl _)] at HD HVA
      have hszD : Maps.size D ≤ k := hown.size_le
      obtain ⟨i3, hi3, hz30, hz31, hz32⟩ := info_parts Try.infoH
      obtain ⟨bs, hbs⟩ : ∃ x, x = wr.heap.size := ⟨_, rfl⟩
      obtain ⟨w1, hmk, hrow1, hg1⟩ := run_make_own (P := Try.prog) wr wr.heap.size 53 50 i3 _ 3 Try.underlying53 hi3 hz30 hz31 .i64 .i64 (Maps.size D) (by rw [hz32]; omega) (by unfold maxLen; omega) (Nat.le_refl _)
      have hown1 := hown.kept hg1 (by simp)
      have hb1 : Below w.heap.size w w1 := hb.grown hg1 hb.size (fun j hj => by cases hj)
      have hbw : w.heap.size ≤ bs := by rw [hbs]; exact hb.size
      have hb1s : bs ≤ w1.heap.size := by rw [hbs]; exact hg1.size
      rw [← hbs] at hrow1
      go_wp2_with (first | (at_len; refine wpList_len_own _ rfl _ 48 rfl 50 52 Try.underlying48 _ B k D rfl hown ?_) | (at_range; refine wpList_range_own _ rfl _ 48 rfl 50 52 lawH Try.underlying48 _ B k _ rfl hown1 ?_; intro w2 hrg2 hg2 hs2))
      go_frame
      obtain ⟨r, hr⟩ : ∃ r, r = w1.heap.size := ⟨_, rfl⟩
      have hrw : bs ≤ r := by rw [hr]; exact hb1s
      have hb2 : Below w.heap.size w w2 := hb1.grown hg2 hb1.size (fun j hj => by cases hj)
      have hrow2 := hrow1.kept hg2 (by
        cases hv : (Value.slice (some ⟨bs, 0, none⟩) 0 (Maps.size D)).ownBlock with
        | none => exact .inl rfl
        | some g => exact .inr (by simp))
      have h2s : bs ≤ w2.heap.size := Nat.le_trans hb1s hg2.size
      rw [← hr] at hrg2 ⊢
      rw [← hbs]
      clear hr hs2 hg2 hown hmk hrow1 hown1 hb1 hg1 hbs hb1s
      have hst := CollH.start HD.out
      go_loopw [9, 10, 11] (fun v _ _ wx => ∃ (left : Lit → Bool) (cnt g cap : Nat) (hs : List H3), wx.ranges Try.prog 50 R2 B r k D left cnt ∧ CollH l left hs ∧ (∀ h ∈ hs, validS (shAt l h) = true) ∧ v = .slice (some ⟨g, 0, none⟩) hs.length cap ∧ wx.ownsRow bs 50 3 v hs.length (hs.flatMap H3.cells) ∧ hs.length + cnt ≤ k ∧ bs ≤ wx.heap.size ∧ Below w.heap.size w wx) (fun _ _ _ wx => wx.rangeLeft B r)
      case atStart => exact ⟨_, _, bs, Maps.size D, [], hrg2, hst, by simp, rfl, hrow2, by simpa using hszD, h2s, hb2⟩
      case round =>
        obtain ⟨left, cnt, g, cap, hs, hrg, hC, hva2, rfl, hown, hcnt, hx2, hb⟩ := hrel
        have HVA2 := Lib.hid hva2
        clear hst hrg2 hb2 hszD hrow2 hva2
        go_wp2_with (at_next; refine wpList_next_ranges _ rfl _ rfl 50 lawH R2 mkH mk2 invKH inv2 B r k _ _ _ rfl hrg ?_ ?_)
        · intro _ hl0
          have HC := Lib.hid hC
          have HE : Hid (colErr l = 0) := colErr_none (by rw [← HN.out]; exact hn16) HVA.out HOK.out (fun h ho hs' => HVA2.out h (hC.all h ho hs' (hl0 _)))
          have HR : Hid (colR l = colF l) := by show _ = _; unfold colR; rw [if_pos HE.out]
          have HL0 := Lib.hid hl0
          have hmx := hrg.owns
          have hneB := own_ne_map hown hmx
          obtain ⟨m, hm⟩ : ∃ m, m = hs.length := ⟨_, rfl⟩
          rw [← hm] at hown hcnt hneB ⊢
          have HM := Lib.hid hm
          clear hC hl0 hm hrg
          have CS := Lib.hid (sortH g cap bs m hs wr hown HM.out (by omega))
          go_wp2_with fail
          refine CS.out.mono ?_
          rintro e w4 ⟨rfl, qs, hperm, hsort, hown4, hg4⟩
          have HF := Lib.hid (HC.out.done HL0.out HOK.out hperm hsort)
          have HQO : Hid (∀ q ∈ qs, q.ok) := fun q hq => (HC.out.each q (hperm.mem_iff.1 hq)).1
          have hml : Hid (m = qs.length) := by show m = qs.length; rw [hperm.length_eq]; exact HM.out
          have hb4 : Below w.heap.size w w4 := hb.grown hg4 hb.size (fun j hj => by cases hj; have := own_low hown g rfl; omega)
          have hmx4 := hmx.kept hg4 hneB
          have hg4l := own_lt hown4 g rfl
          have hg4b := own_low hown4 g rfl
          clear hperm hsort CS hown hmx hg4
          obtain ⟨i5, hi5, hz50, hz51, hz52⟩ := info_parts Try.infoShare
          obtain ⟨w5, hmk5, hrow5, hg5⟩ := run_make_own (P := Try.prog) w4 w4.heap.size 22 41 i5 _ 5 Try.underlying22 hi5 hz50 hz51 .i64 .i64 m (by rw [hz52]; omega) (by unfold maxLen; omega) (Nat.le_refl _)
          obtain ⟨b4, hb4e⟩ : ∃ x, x = w4.heap.size := ⟨_, rfl⟩
          have hmx5 := hmx4.kept hg5 (by simp)
          have hBl : B < b4 := by rw [hb4e]; exact hmx4.lt
          have hown5 := hown4.kept hg5 (.inr (by simp [Value.ownBlock]))
          have hb5 : Below w.heap.size w w5 := hb4.grown hg5 hb4.size (fun j hj => by cases hj)
          have h45 : b4 ≤ w5.heap.size := by rw [hb4e]; exact hg5.size
          have hwb4 : w.heap.size ≤ b4 := by rw [hb4e]; exact hb4.size
          rw [← hb4e] at hrow5 hg4l
          clear hmx4 hown4 hg5
          go_wp2_with fail
          rw [← hb4e]
          clear hb4e hmk5
          go_loopw [12, 14, 15, 94] (fun v _ _ ii wx => ∃ (j g5 cap5 : Nat), j ≤ m ∧ ii = .int .i64 j ∧ v = .slice (some ⟨g5, 0, none⟩) j cap5 ∧ wx.ownsRow b4 41 5 v j (((qs.map (shAt l)).take j).flatMap Sh.cells) ∧ wx.ownsMap Try.prog 50 R2 B k D ∧ wx.ownsRow bs 50 3 (.slice (some ⟨g, 0, none⟩) m cap) m (qs.flatMap H3.cells) ∧ b4 ≤ wx.heap.size ∧ Below w.heap.size w wx) (fun _ _ _ ii _ => m - (intOf ii).toNat)
          case atStart => exact ⟨0, b4, m, Nat.zero_le _, rfl, rfl, hrow5, hmx5, hown5, h45, hb5⟩
          case round =>
            obtain ⟨j, g5, cap5, hj, rfl, rfl, hrow, hmp, hhd, hx4, hb⟩ := hrel
            clear hrow5 hmx5 hown5 h45 hb5
            by_cases hjm : j < m
            · obtain ⟨x, hx, _⟩ := drop_cons (xs := qs) (i := j) (by rw [← hml.out]; exact hjm)
              have hhd2 := hhd
              rw [hml.out] at hhd2
              obtain ⟨b, off, e, _, hgx, hc⟩ := Sl.at_ (i := j) (x := H3.cells x) (sl_of_own (enc := H3.cells) (k := 3) (fun _ => rfl) hhd2) (by simp [hx])
              obtain ⟨rfl, rfl⟩ : g = b ∧ 0 = off := by simpa using e
              clear hhd2 e
              have c0 : wr.cell? ⟨g, j * 3, none⟩ = some (.int .i64 x.a) := by simpa using hc 0 _ rfl
              have c1 : wr.cell? ⟨g, j * 3 + 1, none⟩ = some (.int .i64 x.b) := by simpa using hc 1 _ rfl
              have c2 : wr.cell? ⟨g, j * 3 + 2, none⟩ = some (.int .i64 x.c) := by simpa using hc 2 _ rfl
              have hxo := HQO.out x (List.mem_of_getElem? hx)
              have HX := Lib.hid hx
              clear hx hc
              obtain ⟨wb, hwb⟩ : ∃ x' : World, x' = wr.alloc (.cells #[.int .i64 x.a, .int .i64 x.b, .int .i64 x.c] 50) := ⟨_, rfl⟩
              obtain ⟨g1, hg1⟩ : ∃ x, x = wr.heap.size := ⟨_, rfl⟩
              have hbb : Below wr.heap.size wr wb := by rw [hwb]; exact (Below.refl _ _).alloc (Nat.le_refl _) _
              have hmpb : wb.ownsMap Try.prog 50 R2 B k D := by rw [hwb]; exact hmp.alloc _
              have hb0b := hb.trans (hbb.mono hb.size)
              have hrowb := own_below hrow hbb
              have hhdb := own_below hhd hbb
              have p0 : wb.cell? ⟨g1, 0, none⟩ = some (.int .i64 x.a) := by rw [hwb, hg1]; simp
              have p1 : wb.cell? ⟨g1, 1, none⟩ = some (.int .i64 x.b) := by rw [hwb, hg1]; simp
              have p2 : wb.cell? ⟨g1, 2, none⟩ = some (.int .i64 x.c) := by rw [hwb, hg1]; simp
              have hg1l : g1 < wb.heap.size := by rw [hwb, hg1]; simp
              have h4b : b4 ≤ wb.heap.size := Nat.le_trans hx4 hbb.size
              go_upto_region 26 with fail
              rw [← hwb, ← hg1]
              clear hwb hg1 c0 c1 c2 hmp hrow hhd hbb hx4
              have HKEY := Lib.hid (keyH x hxo)
              obtain ⟨v, ps, hlk, hRv⟩ := hmpb.lookup lawH Try.underlying48 (zero2 wb) (R2_mk 0 0) HKEY.out
              obtain ⟨a0, p00, rfl, hz⟩ := R2_inv hRv
              have hat := HD.out.2 x hxo
              have he : D2 (amtH l (sOf x)) (paidH l (sOf x)) = D2 a0 p00 := by
                rw [← hat]
                injection hz with hz1 hz2
              obtain ⟨e1, e2⟩ := D2_inj he
              have HE1 : Hid (shAt l x = ⟨x.a, x.b, x.c, a0, p00⟩) := by show _ = _; unfold shAt; rw [e1, e2]
              have hlk2 : (Instr.lookup 48 (.map (some B)) (.agg #[.int .i64 x.a, .int .i64 x.b, .int .i64 x.c]) false).run Try.prog wb = .ok (.agg #[.int .i64 a0, .int .i64 p00]) wb := hlk
              clear hlk e1 e2 he hat hz hRv
              obtain ⟨wv, hwv⟩ : ∃ x : World, x = wb.alloc (.cells #[.int .i64 a0, .int .i64 p00] 52) := ⟨_, rfl⟩
              obtain ⟨g3, hg3⟩ : ∃ x, x = wb.heap.size := ⟨_, rfl⟩
              have hbv : Below wb.heap.size wb wv := by rw [hwv]; exact (Below.refl _ _).alloc (Nat.le_refl _) _
              have hmpv : wv.ownsMap Try.prog 50 R2 B k D := by rw [hwv]; exact hmpb.alloc _
              have hb0v := hb0b.trans (hbv.mono hb0b.size)
              have hrowv := own_below hrowb hbv
              have hhdv := own_below hhdb hbv
              have v0 : wv.cell? ⟨g3, 0, none⟩ = some (.int .i64 a0) := by rw [hwv, hg3]; simp
              have v1 : wv.cell? ⟨g3, 1, none⟩ = some (.int .i64 p00) := by rw [hwv, hg3]; simp
              have t0 : wv.cell? ⟨g1, 0, none⟩ = some (.int .i64 x.a) := (hbv.cell (p := ⟨g1, 0, none⟩) hg1l).trans p0
              have t1 : wv.cell? ⟨g1, 1, none⟩ = some (.int .i64 x.b) := (hbv.cell (p := ⟨g1, 1, none⟩) hg1l).trans p1
              have t2 : wv.cell? ⟨g1, 2, none⟩ = some (.int .i64 x.c) := (hbv.cell (p := ⟨g1, 2, none⟩) hg1l).trans p2
              have h4v : b4 ≤ wv.heap.size := Nat.le_trans h4b hbv.size
              go_upto_region 27 with fail
              rw [← hwv, ← hg3]
              clear hwv hg3 p0 p1 p2 hmpb hrowb hhdb hbv h4b hlk2
              go_wp2_with (at_builtin; refine wpList_append_own _ rfl (.tmp 101) (.tmp 113) 22 rfl b4 41 i5 _ 5 40 Try.underlying22 hi5 hz50 hz51 hz52 rfl (by decide) _ j _ rfl (own_below hrowv ((Below.refl _ _).alloc (Nat.le_refl _) _)) ⟨wv.heap.size, 0, none⟩ 1 1 (Sh.cells ⟨x.a, x.b, x.c, a0, p00⟩) rfl rfl ?c1 ?c2 ?c3 ?c4 ?c5 ?_)
              case c1 => exact cell_new wv (Sh.cells ⟨x.a, x.b, x.c, a0, p00⟩) 41
              case c2 => intro u hu; simp [Sh.cells] at hu; rcases hu with rfl | rfl | rfl | rfl | rfl <;> rfl
              case c3 => unfold maxLen; omega
              case c4 => omega
              case c5 => simp; omega
              intro v' w8 hown8 hg8 _
              rw [← HE1.out, shAt_next HX.out] at hown8
              have hb8 : Below w.heap.size w w8 := (hb0v.alloc hb0v.size _).grown hg8 (by have := hb0v.size; simp; omega) (fun g' hg' => by have := own_low hrowv g' hg'; omega)
              have hmp8 := (hmpv.alloc _).kept hg8 (own_ne_map hrowv hmpv)
              have hhd8 := (own_below hhdv ((Below.refl _ _).alloc (Nat.le_refl _) _)).kept hg8 (by
                right
                intro e
                have hlo := own_low hrowv g (by rw [← e]; rfl)
                omega)
              have hz8 : b4 ≤ w8.heap.size := by have := hg8.size; simp at this; omega
              obtain ⟨g8, cap8, rfl⟩ : ∃ g8 cap8, v' = .slice (some ⟨g8, 0, none⟩) (j + 1) cap8 := by
                rcases hown8.2 with ⟨_, h00⟩ | ⟨g8, cap8, cur8, rfl, _⟩
                · omega
                · exact ⟨_, _, rfl⟩
              clear hg8 hrowv hhdv hmpv
              go_wp2_with fail
              go_roundw
              case rel => exact ⟨j + 1, g8, cap8, by omega, by go_num, rfl, hown8, hmp8, hhd8, hz8, hb8⟩
              case measure => simp [intOf]; omega
            · obtain rfl : j = m := by omega
              rw [List.take_of_length_le (by rw [List.length_map, ← hml.out]; exact Nat.le_refl _), HF.out] at hrow
              have HLN : Hid (j = (colF l).length) := by show _ = _; rw [← HF.out, List.length_map]; exact hml.out
              go_wp2_with fail
              go_ret2
              refine ⟨some ⟨g5, 0, none⟩, cap5, ?_, ?_, hb⟩
              · rw [HR.out, HE.out, ← HLN.out]; rfl
              · rw [HR.out]
                rw [HLN.out] at hrow
                exact (shs_of_own hrow).low hwb4
        · intro x c1 c2 kl y1 y2 w3 cnt3 hkey hlx hR hat hrg3 hlt hg3 hs3 hen
          clear hs3
          obtain ⟨hxo, rfl, hc1, hc2⟩ := next_facts (c := (c1, c2)) (y := (y1, y2)) hkey hR hat HD.out
          have hown3 := hown.kept hg3 (.inr (fun e => own_ne_iter hown hrg e.symm))
          have hle2 : bs ≤ w3.heap.size := Nat.le_trans hx2 hg3.size
          have hb3 : Below w.heap.size w w3 := hb.grown hg3 hb.size (fun j hj => by cases hj; omega)
          have hval := valid_shAt hc1 hc2
          dsimp only at hc1 hc2 hval
          change validS (shAt l x) = (valB c1 && valB c2) at hval
          have hen2 : (Instr.entry (.pointer (some ⟨r, 0, none⟩))).run Try.prog w3 = .ok (.tuple #[.agg #[.int .i64 x.a, .int .i64 x.b, .int .i64 x.c], .agg #[.int .i64 c1, .int .i64 c2]]) w3 := hen
          have HC1 := Lib.hid hc1
          have HC2 := Lib.hid hc2
          have HXO := Lib.hid hxo
          have HLX := Lib.hid hlx
          have HLE := Lib.hid hrg.left_eq
          have HC := Lib.hid hC
          clear hen hc1 hc2 hxo hlx hat hkey hR hrg hown hg3 hC
          obtain ⟨wa, hwa⟩ : ∃ ww : World, ww = (w3.alloc (.cells #[.int .i64 x.a, .int .i64 x.b, .int .i64 x.c] 50)).alloc (.cells #[.int .i64 c1, .int .i64 c2] 52) := ⟨_, rfl⟩
          obtain ⟨g1, hg1⟩ : ∃ x, x = w3.heap.size := ⟨_, rfl⟩
          have hba : Below w3.heap.size w3 wa := by rw [hwa]; exact ((Below.refl _ _).alloc (Nat.le_refl _) _).alloc (by simp) _
          have hrga : wa.ranges Try.prog 50 R2 B r k D (fun z => left z && !z.sameKey (kL x)) cnt3 := by rw [hwa]; exact (hrg3.alloc _).alloc _
          have howna := own_below hown3 hba
          have hb0a := hb3.trans (hba.mono hb3.size)
          have hlea : bs ≤ wa.heap.size := Nat.le_trans hle2 hba.size
          have p0 : wa.cell? ⟨g1, 0, none⟩ = some (.int .i64 x.a) := by rw [hwa, hg1]; simp
          have p1 : wa.cell? ⟨g1, 1, none⟩ = some (.int .i64 x.b) := by rw [hwa, hg1]; simp
          have p2 : wa.cell? ⟨g1, 2, none⟩ = some (.int .i64 x.c) := by rw [hwa, hg1]; simp
          have s0 : wa.cell? ⟨g1 + 1, 0, none⟩ = some (.int .i64 c1) := by rw [hwa, hg1]; simp
          have s1 : wa.cell? ⟨g1 + 1, 1, none⟩ = some (.int .i64 c2) := by rw [hwa, hg1]; simp
          go_upto_region 17 with fail
          rw [← hwa, ← hg1]
          clear hwa hg1 hba hown3 hrg3 hb3 hle2 hen2
          by_cases hv : validS (shAt l x) = true
          case neg =>
            have HE : Hid (colErr l = 3) := colErr_over (h := x) (by rw [← HN.out]; exact hn16) HVA.out (by simpa using hv)
            have HR : Hid (colR l = []) := by show _ = _; unfold colR; rw [if_neg (by rw [HE.out]; omega)]
            rw [hval] at hv
            cases ha : valB c1
            · clear hv hval
              go_wp2_with (go_at_call 27; refine (validC_any _ _).mono ?_; rintro e w' ⟨rfl, rfl⟩)
              go_ret2
              exact ⟨none, 0, by rw [HR.out, HE.out]; rfl, by rw [HR.out]; exact Sl.none_, hb0a⟩
            · have hp : valB c2 = false := by rw [ha] at hv; simpa using hv
              clear hv hval
              go_wp2_with (go_at_call 27; refine (validC_any _ _).mono ?_; rintro e w' ⟨rfl, rfl⟩)
              go_ret2
              exact ⟨none, 0, by rw [HR.out, HE.out]; rfl, by rw [HR.out]; exact Sl.none_, hb0a⟩
          have HVX := Lib.hid hv
          rw [hval] at hv
          obtain ⟨ha, hp⟩ : valB c1 = true ∧ valB c2 = true := by simpa using hv
          clear hv hval
          by_cases h0 : c1 = 0 ∧ c2 = 0
          · obtain ⟨rfl, rfl⟩ := h0
            have HC3 : Hid (CollH l (fun z => left z && !z.sameKey (kL x)) hs) := HC.out.skip HXO.out (by unfold someH; rw [← HC1.out, ← HC2.out]; simp)
            go_wp2_with (go_at_call 27; refine (validC_any _ _).mono ?_; rintro e w' ⟨rfl, rfl⟩)
            go_roundw
            case rel => exact ⟨_, cnt3, g, cap, hs, hrga, HC3.out, HVA2.out, rfl, howna, by omega, hlea, hb0a⟩
            case measure => rw [hrga.left_eq, HLE.out]; exact hlt
          · have HC3 : Hid (CollH l (fun z => left z && !z.sameKey (kL x)) (hs ++ [x])) := HC.out.keep HXO.out HLX.out (by unfold someH; rw [← HC1.out, ← HC2.out]; omega)
            obtain ⟨m, hm⟩ : ∃ m, m = hs.length := ⟨_, rfl⟩
            rw [← hm] at howna hcnt ⊢
            have HM := Lib.hid hm
            clear hm
            by_cases hz : c1 = 0
            · have q1 : (c1 == 0) = true := by simpa using hz
              have q2 : (c2 == 0) = false := by simp; omega
              clear h0 hz
              go_wp2_with (first | (go_at_call 27; refine (validC_any _ _).mono ?_; rintro e w' ⟨rfl, rfl⟩) | (at_builtin; refine wpList_append_own _ rfl (.tmp 83) (.tmp 85) 53 rfl bs 50 i3 _ 3 24 Try.underlying53 hi3 hz30 hz31 hz32 rfl (by decide) _ m _ rfl (own_below howna ((Below.refl _ _).alloc (Nat.le_refl _) _)) ⟨wa.heap.size, 0, none⟩ 1 1 (H3.cells x) rfl rfl ?c1 ?c2 ?c3 ?c4 ?c5 ?_))
              case c1 => exact cell_new wa (H3.cells x) 50
              case c2 => intro u hu; simp [H3.cells] at hu; rcases hu with rfl | rfl | rfl <;> rfl
              case c3 => unfold maxLen; omega
              case c4 => omega
              case c5 => simp; omega
              intro v' w8 hown8 hg8 hnn
              have hb8 : Below w.heap.size w w8 := (hb0a.alloc hb0a.size _).grown hg8 (by have := hb0a.size; simp; omega) (fun g' hg' => by have := own_low howna g' hg'; omega)
              have hrg8 := (hrga.alloc _).kept hg8 (own_ne_map howna hrga.owns) (own_ne_iter howna hrga)
              have hz8 : bs ≤ w8.heap.size := by have := hg8.size; simp at this; omega
              obtain ⟨g8, cap8, rfl⟩ : ∃ g8 cap8, v' = .slice (some ⟨g8, 0, none⟩) (m + 1) cap8 := by
                rcases hown8.2 with ⟨_, h00⟩ | ⟨g8, cap8, cur8, rfl, _⟩
                · omega
                · exact ⟨_, _, rfl⟩
              have hown9 := flat_snoc3 hown8
              clear hown8 hg8 hnn howna
              go_wp2_with fail
              go_roundw
              case rel =>
                refine ⟨_, cnt3, g8, cap8, hs ++ [x], hrg8, HC3.out, fun h hh => ?_, by rw [List.length_append, ← HM.out]; rfl, by rw [List.length_append, ← HM.out]; exact hown9, by rw [List.length_append, ← HM.out]; simp; omega, hz8, hb8⟩
                rcases List.mem_append.1 hh with hh | hh
                · exact HVA2.out h hh
                · obtain rfl : h = x := by simpa using hh
                  exact HVX.out
              case measure => rw [hrg8.left_eq, HLE.out]; exact hlt
            · have q1 : (c1 == 0) = false := by simpa using hz
              clear h0 hz
              go_wp2_with (first | (go_at_call 27; refine (validC_any _ _).mono ?_; rintro e w' ⟨rfl, rfl⟩) | (at_builtin; refine wpList_append_own _ rfl (.tmp 83) (.tmp 85) 53 rfl bs 50 i3 _ 3 24 Try.underlying53 hi3 hz30 hz31 hz32 rfl (by decide) _ m _ rfl (own_below howna ((Below.refl _ _).alloc (Nat.le_refl _) _)) ⟨wa.heap.size, 0, none⟩ 1 1 (H3.cells x) rfl rfl ?c1 ?c2 ?c3 ?c4 ?c5 ?_))
              case c1 => exact cell_new wa (H3.cells x) 50
              case c2 => intro u hu; simp [H3.cells] at hu; rcases hu with rfl | rfl | rfl <;> rfl
              case c3 => unfold maxLen; omega
              case c4 => omega
              case c5 => simp; omega
              intro v' w8 hown8 hg8 hnn
              have hb8 : Below w.heap.size w w8 := (hb0a.alloc hb0a.size _).grown hg8 (by have := hb0a.size; simp; omega) (fun g' hg' => by have := own_low howna g' hg'; omega)
              have hrg8 := (hrga.alloc _).kept hg8 (own_ne_map howna hrga.owns) (own_ne_iter howna hrga)
              have hz8 : bs ≤ w8.heap.size := by have := hg8.size; simp at this; omega
              obtain ⟨g8, cap8, rfl⟩ : ∃ g8 cap8, v' = .slice (some ⟨g8, 0, none⟩) (m + 1) cap8 := by
                rcases hown8.2 with ⟨_, h00⟩ | ⟨g8, cap8, cur8, rfl, _⟩
                · omega
                · exact ⟨_, _, rfl⟩
              have hown9 := flat_snoc3 hown8
              clear hown8 hg8 hnn howna
              go_wp2_with fail
              go_roundw
              case rel =>
                refine ⟨_, cnt3, g8, cap8, hs ++ [x], hrg8, HC3.out, fun h hh => ?_, by rw [List.length_append, ← HM.out]; rfl, by rw [List.length_append, ← HM.out]; exact hown9, by rw [List.length_append, ← HM.out]; simp; omega, hz8, hb8⟩
                rcases List.mem_append.1 hh with hh | hh
                · exact HVA2.out h hh
                · obtain rfl : h = x := by simpa using hh
                  exact HVX.out
              case measure => rw [hrg8.left_eq, HLE.out]; exact hlt

end Go.Proofs.Ytpmiafnccjejnaa
