/-
  treatyref30.Collect: its contract.
-/
import Derived.Test.YtpmiafnccjejnaaRCol
import Derived.Test.YtpmiafnccjejnaaAppB
namespace Go.Proofs.Ytpmiafnccjejnaa
open Go.RowKit
set_option linter.unusedVariables false

theorem own_frozen {w : World} {base g n cap k : Nat} {e : TypeId} {xs : List Value} (h : w.ownsRow base e k (.slice (some ⟨g, 0, none⟩) n cap) n xs) (j : Nat) : w.frozen? ⟨g, j, none⟩ = false := by
  rcases h.2 with ⟨e', _⟩ | ⟨g', cap', cur, hv, hb, hh, _⟩
  · cases e'
  injection hv with hv1
  injection hv1 with hv1
  injection hv1 with hv1
  subst hv1
  simp [World.frozen?, hh]

theorem own_put5 {w : World} {base g n cap : Nat} {e : TypeId} {T : List Sh} (h : w.ownsRow base e 5 (.slice (some ⟨g, 0, none⟩) n cap) n (T.flatMap Sh.cells)) {lo : Nat} (hl : lo < n) {x : Sh} (hx : T[lo]? = some x) (s : Sh) :
    (((((w.setCell ⟨g, lo * 5, none⟩ (.int .i64 s.loss)).setCell ⟨g, lo * 5 + 1, none⟩ (.int .i64 s.treaty)).setCell ⟨g, lo * 5 + 2, none⟩ (.int .i64 s.party)).setCell ⟨g, lo * 5 + 3, none⟩ (.int .i64 s.amt)).setCell ⟨g, lo * 5 + 4, none⟩ (.int .i64 s.paid)).ownsRow base e 5 (.slice (some ⟨g, 0, none⟩) n cap) n ((T.set lo s).flatMap Sh.cells) := by
  have hlt := (List.getElem?_eq_some_iff.1 hx).1
  have h0 := own_setc h (j := lo * 5) (by omega) (.int .i64 s.loss)
  have f0 := flat_set (enc := Sh.cells) (k := 5) (fun _ => rfl) T lo x ⟨s.loss, x.treaty, x.party, x.amt, x.paid⟩ 0 (.int .i64 s.loss) hx rfl (by omega)
  rw [Nat.add_zero] at f0
  rw [f0] at h0
  have h1 := own_setc h0 (j := lo * 5 + 1) (by omega) (.int .i64 s.treaty)
  rw [flat_set (enc := Sh.cells) (k := 5) (fun _ => rfl) (T.set lo ⟨s.loss, x.treaty, x.party, x.amt, x.paid⟩) lo ⟨s.loss, x.treaty, x.party, x.amt, x.paid⟩ ⟨s.loss, s.treaty, x.party, x.amt, x.paid⟩ 1 (.int .i64 s.treaty) (List.getElem?_set_self hlt) rfl (by omega), List.set_set] at h1
  have h2 := own_setc h1 (j := lo * 5 + 2) (by omega) (.int .i64 s.party)
  rw [flat_set (enc := Sh.cells) (k := 5) (fun _ => rfl) (T.set lo ⟨s.loss, s.treaty, x.party, x.amt, x.paid⟩) lo ⟨s.loss, s.treaty, x.party, x.amt, x.paid⟩ ⟨s.loss, s.treaty, s.party, x.amt, x.paid⟩ 2 (.int .i64 s.party) (List.getElem?_set_self hlt) rfl (by omega), List.set_set] at h2
  have h3 := own_setc h2 (j := lo * 5 + 3) (by omega) (.int .i64 s.amt)
  rw [flat_set (enc := Sh.cells) (k := 5) (fun _ => rfl) (T.set lo ⟨s.loss, s.treaty, s.party, x.amt, x.paid⟩) lo ⟨s.loss, s.treaty, s.party, x.amt, x.paid⟩ ⟨s.loss, s.treaty, s.party, s.amt, x.paid⟩ 3 (.int .i64 s.amt) (List.getElem?_set_self hlt) rfl (by omega), List.set_set] at h3
  have h4 := own_setc h3 (j := lo * 5 + 4) (by omega) (.int .i64 s.paid)
  rw [flat_set (enc := Sh.cells) (k := 5) (fun _ => rfl) (T.set lo ⟨s.loss, s.treaty, s.party, s.amt, x.paid⟩) lo ⟨s.loss, s.treaty, s.party, s.amt, x.paid⟩ s 4 (.int .i64 s.paid) (List.getElem?_set_self hlt) rfl (by omega), List.set_set] at h4
  exact h4
theorem below_put5 {B : Nat} {w0 w : World} (hb : Below B w0 w) {g : Nat} (hg : B ≤ g) (o : Nat) (u0 u1 u2 u3 u4 : Value) :
    Below B w0 (((((w.setCell ⟨g, o, none⟩ u0).setCell ⟨g, o + 1, none⟩ u1).setCell ⟨g, o + 2, none⟩ u2).setCell ⟨g, o + 3, none⟩ u3).setCell ⟨g, o + 4, none⟩ u4) :=
  ((((hb.setCell (p := ⟨g, o, none⟩) hg _).setCell (p := ⟨g, o + 1, none⟩) hg _).setCell (p := ⟨g, o + 2, none⟩) hg _).setCell (p := ⟨g, o + 3, none⟩) hg _).setCell (p := ⟨g, o + 4, none⟩) hg _
theorem valid_next {l : List Sh} {k : Nat} {s : Sh} (h : ∀ x ∈ l.take k, validS x = true) (hs : l[k]? = some s) (hv : validS s = true) : ∀ x ∈ l.take (k + 1), validS x = true := fun x hx => by
  rw [List.take_add_one, hs] at hx
  rcases List.mem_append.1 hx with hx | hx
  · exact h x hx
  · obtain rfl : x = s := by simpa using hx
    exact hv

set_option maxRecDepth 100000 in
set_option maxHeartbeats 4000000 in
theorem rcollect_any (A : Option Addr) (c : Nat) (l : List Sh) (w : World) (hl : l.length ≤ 70000) (hS : Shs w 0 A l) :
    Calls Try.prog 17 #[.slice A l.length c] w fun e w' => ∃ (B : Option Addr) (d : Nat), e = .returned (.tuple #[.slice B (colR l).length d, .int .i64 (colErr l)]) ∧ Shs w' w.heap.size B (colR l) ∧ Below w.heap.size w w' := by
  obtain ⟨n, hn⟩ : ∃ n, n = l.length := ⟨_, rfl⟩
  rw [← hn] at hl ⊢
  have HN := Lib.hid hn
  obtain ⟨i0, hi, hz0, hz1, hz2⟩ := info_parts Try.infoShare
  by_cases hlen : 65536 < n
  · have q : decide ((n : Int) > 65536) = true := by simp; omega
    have HE : Hid (colErr l = 4) := by show _ = _; unfold colErr; rw [if_pos (by rw [← hn]; exact hlen)]
    have HR : Hid (colR l = []) := by show _ = _; unfold colR; rw [if_neg (by rw [HE.out]; omega)]
    clear hn hlen
    go_enter Try.func17, Try.ntmps17
    go_wp2_with fail
    go_ret2
    exact ⟨none, 0, by rw [HR.out, HE.out]; rfl, by rw [HR.out]; exact Sl.none_, Below.refl _ _⟩
  have q : decide ((n : Int) > 65536) = false := by simp; omega
  have hn16 : n ≤ 65536 := by omega
  clear hn hlen
  go_enter Try.func17, Try.ntmps17
  go_wp2_with fail
  go_loopw [4, 6, 7, 8, 9, 18] (fun v _ _ _ _ ii wr => ∃ (k m : Nat), k ≤ n ∧ ii = .int .i64 k ∧ m ≤ k ∧ Hid (m = (sumsS (l.take k)).length) ∧ wr.ownsRow w.heap.size 41 5 v m ((sumsS (l.take k)).flatMap Sh.cells) ∧ Hid (∀ s ∈ l.take k, validS s = true) ∧ Below w.heap.size w wr) (fun _ _ _ _ _ ii _ => n - (intOf ii).toNat)
  case atStart => exact ⟨0, 0, Nat.zero_le _, rfl, Nat.le_refl _, rfl, own_nil _ _ _ _, (fun x hx => by simp at hx), Below.refl _ _⟩
  case round =>
    obtain ⟨k, m, hk, rfl, hmk, HM, hown, HVA, hb⟩ := hrel
    by_cases hkn : k < n
    · obtain ⟨s, hs, _⟩ := drop_cons (xs := l) (i := k) (by rw [← HN.out]; exact hkn)
      obtain ⟨b, off, rfl, _, hbl, c0, c1, c2, c3, c4⟩ := (hS.below hb).at_ hs
      have HS := Lib.hid hs
      have hvv := validS_val s
      obtain ⟨wb, hwb⟩ : ∃ x : World, x = wr.alloc (.cells #[.int .i64 s.loss, .int .i64 s.treaty, .int .i64 s.party, .int .i64 s.amt, .int .i64 s.paid] 41) := ⟨_, rfl⟩
      obtain ⟨g1, hg1⟩ : ∃ x, x = wr.heap.size := ⟨_, rfl⟩
      have hbb : Below wr.heap.size wr wb := by rw [hwb]; exact (Below.refl _ _).alloc (Nat.le_refl _) _
      have hownb := own_below hown hbb
      have hb0b := hb.trans (hbb.mono hb.size)
      have p0 : wb.cell? ⟨g1, 0, none⟩ = some (.int .i64 s.loss) := by rw [hwb, hg1]; simp
      have p1 : wb.cell? ⟨g1, 1, none⟩ = some (.int .i64 s.treaty) := by rw [hwb, hg1]; simp
      have p2 : wb.cell? ⟨g1, 2, none⟩ = some (.int .i64 s.party) := by rw [hwb, hg1]; simp
      have p3 : wb.cell? ⟨g1, 3, none⟩ = some (.int .i64 s.amt) := by rw [hwb, hg1]; simp
      have p4 : wb.cell? ⟨g1, 4, none⟩ = some (.int .i64 s.paid) := by rw [hwb, hg1]; simp
      have hg1l : g1 < wb.heap.size := by rw [hwb, hg1]; simp
      have hneg : ∀ g, u4.ownBlock = some g → g < g1 := fun g hg => by rw [hg1]; exact own_lt hown g hg
      go_upto_region 7 with fail
      rw [← hwb, ← hg1]
      clear hwb hg1 c0 c1 c2 c3 c4 hown hbb hs
      by_cases hv : validS s = true
      case neg =>
        have HE : Hid (colErr l = 1) := by
          show _ = _
          unfold colErr
          rw [if_neg (by rw [← HN.out]; omega), if_pos]
          rw [List.all_eq_false]
          exact ⟨s, List.mem_of_getElem? HS.out, hv⟩
        have HR : Hid (colR l = []) := by show _ = _; unfold colR; rw [if_neg (by rw [HE.out]; omega)]
        rw [hvv] at hv
        cases ha : valB s.amt
        · clear hv hvv
          go_wp2_with (go_at_call 31; refine (validR_any _ _).mono ?_; rintro e w' ⟨rfl, rfl⟩)
          go_ret2
          exact ⟨none, 0, by rw [HR.out, HE.out]; rfl, by rw [HR.out]; exact Sl.none_, hb0b⟩
        · have hp : valB s.paid = false := by rw [ha] at hv; simpa using hv
          clear hv hvv
          go_wp2_with (go_at_call 31; refine (validR_any _ _).mono ?_; rintro e w' ⟨rfl, rfl⟩)
          go_ret2
          exact ⟨none, 0, by rw [HR.out, HE.out]; rfl, by rw [HR.out]; exact Sl.none_, hb0b⟩
      have HVS := Lib.hid hv
      have hvi := (validS_iff s).1 hv
      rw [hvv] at hv
      obtain ⟨ha, hp⟩ : valB s.amt = true ∧ valB s.paid = true := by simpa using hv
      clear hv hvv
      have hsb := sums_bd (M := 17592186044416) (by omega) (l := l.take k) (fun x hx => by
        have := (validS_iff x).1 (HVA.out x hx)
        unfold BdS; omega)
      have hlk' : ((l.take k).length : Int) ≤ 65536 := by rw [List.length_take]; omega
      have HBD : Hid (∀ x ∈ sumsS (l.take k), -1152921504606846976 ≤ x.amt ∧ x.amt ≤ 1152921504606846976 ∧ -1152921504606846976 ≤ x.paid ∧ x.paid ≤ 1152921504606846976) := fun x hx => by
        have := hsb x hx
        unfold BdS at this; omega
      have HASC := Lib.hid (sumsS_asc (l.take k))
      have HNX := Lib.hid (sumsS_next HS.out)
      clear hsb hlk'
      obtain ⟨S, hS'⟩ : ∃ S, S = sumsS (l.take k) := ⟨_, rfl⟩
      rw [← hS'] at HM hownb HBD HASC HNX
      clear hS'
      have hlenV : ∃ X vc, u4 = .slice X m vc := by obtain ⟨X, vc, e, _⟩ := own_shape hownb; exact ⟨X, vc, e⟩
      obtain ⟨X, vc, rfl⟩ := hlenV
      have hcell : Hid (∀ (i : Nat) (y : Sh), S[i]? = some y → ∃ g, X = some ⟨g, 0, none⟩ ∧ g < g1 ∧ w.heap.size ≤ g ∧ ∀ W, Below wb.heap.size wb W → W.cell? ⟨g, i * 5, none⟩ = some (.int .i64 y.loss) ∧ W.cell? ⟨g, i * 5 + 1, none⟩ = some (.int .i64 y.treaty) ∧ W.cell? ⟨g, i * 5 + 2, none⟩ = some (.int .i64 y.party) ∧ W.cell? ⟨g, i * 5 + 3, none⟩ = some (.int .i64 y.amt) ∧ W.cell? ⟨g, i * 5 + 4, none⟩ = some (.int .i64 y.paid)) := fun i y hy => by
        have h1 := hownb
        rw [HM.out] at h1
        obtain ⟨g, off, e, h2, h3, h4⟩ := (shs_of_own h1).at_ hy
        have h0 : off = 0 := by
          rcases hownb.2 with ⟨e0, _⟩ | ⟨g', cap', cur, hv, _⟩
          · injection e0 with e0; rw [e0] at e; cases e
          · injection hv with hv; rw [hv] at e; injection e with e; injection e with e e2; exact e2.symm
        subst h0
        refine ⟨g, e, hneg g (by rw [e]; rfl), h2, fun W hW => ?_⟩
        obtain ⟨d0, d1, d2, d3, d4⟩ := h4
        rw [Nat.zero_add] at d0 d1 d2 d3 d4
        exact ⟨(hW.cell (p := ⟨g, _, none⟩) h3).trans d0, (hW.cell (p := ⟨g, _, none⟩) h3).trans d1, (hW.cell (p := ⟨g, _, none⟩) h3).trans d2, (hW.cell (p := ⟨g, _, none⟩) h3).trans d3, (hW.cell (p := ⟨g, _, none⟩) h3).trans d4⟩
      go_upto_region 10 with (go_at_call 31; refine (validR_any _ _).mono ?_; rintro e w' ⟨rfl, rfl⟩)
      obtain ⟨wz, hwz⟩ : ∃ x : World, x = wb := ⟨_, rfl⟩
      have hbz : Below wb.heap.size wb wz := by rw [hwz]; exact Below.refl _ _
      rw [← hwz]
      clear hwz
      go_loopw [7, 8, 9] (fun ll hh _ wr => ∃ (lo hi : Nat), ll = .int .i64 lo ∧ hh = .int .i64 hi ∧ lo ≤ hi ∧ hi ≤ m ∧ Hid (Half S s lo hi) ∧ Below wb.heap.size wb wr) (fun ll hh _ _ => (intOf hh - intOf ll).toNat)
      case atStart => exact ⟨0, m, rfl, rfl, Nat.zero_le _, Nat.le_refl _, (by rw [HM.out]; exact Half.start S s), hbz⟩
      case round =>
        clear hbz
        obtain ⟨lo, hi', rfl, rfl, hlh, hhm, HH, hbr⟩ := hrel
        have P0 := (hbr.cell (p := ⟨g1, 0, none⟩) hg1l).trans p0
        have P1 := (hbr.cell (p := ⟨g1, 1, none⟩) hg1l).trans p1
        have P2 := (hbr.cell (p := ⟨g1, 2, none⟩) hg1l).trans p2
        have P3 := (hbr.cell (p := ⟨g1, 3, none⟩) hg1l).trans p3
        have P4 := (hbr.cell (p := ⟨g1, 4, none⟩) hg1l).trans p4
        by_cases hlt : lo < hi'
        · obtain ⟨mid, hmid⟩ : ∃ mid, mid = (lo + hi') / 2 := ⟨_, rfl⟩
          have hm1 : lo ≤ mid := by omega
          have hm2 : mid < hi' := by omega
          have hm3 : mid < m := by omega
          obtain ⟨y, hy, _⟩ := drop_cons (xs := S) (i := mid) (by rw [← HM.out]; omega)
          obtain ⟨g, rfl, hgg, hgw, hcy⟩ := hcell.out mid y hy
          obtain ⟨y0, y1, y2, y3, y4⟩ := hcy wr hbr
          have e1 : Int.tdiv ((lo : Int) + (hi' : Int)) 2 = (mid : Int) := by rw [Int.tdiv_eq_ediv_of_nonneg (by omega), hmid]; omega
          have HY := Lib.hid hy
          clear hmid hy hcy
          have CB := Lib.hid (before_any y s)
          go_wp2_with fail
          go_still_tail 5, (by kernel_rfl)
          go_wp2_with fail
          refine (CB.out _).mono ?_
          rintro e w3 ⟨rfl, hb3⟩
          have hbr3 : Below wb.heap.size wb w3 := hbr.drew.trans (hb3.mono hbr.size)
          cases hq : hLtB y s
          · have HD : Hid (Half S s lo mid) := HH.out.down HASC.out hm2 hm1 HY.out (of_decide_eq_false hq)
            go_wp2_with fail
            go_roundw
            case rel => exact ⟨lo, mid, rfl, rfl, hm1, by omega, HD, hbr3⟩
            case measure => simp [intOf]; omega
          · have HD : Hid (Half S s (mid + 1) hi') := HH.out.up HASC.out hm2 HY.out (of_decide_eq_true hq)
            go_wp2_with fail
            go_roundw
            case rel => exact ⟨mid + 1, hi', by go_num, rfl, by omega, hhm, HD, hbr3⟩
            case measure => simp [intOf]; omega
        · obtain rfl : lo = hi' := by omega
          clear hlt hlh
          by_cases hlm : lo < m
          · obtain ⟨y, hy, _⟩ := drop_cons (xs := S) (i := lo) (by rw [← HM.out]; omega)
            obtain ⟨g, rfl, hgg, hgw, hcy⟩ := hcell.out lo y hy
            obtain ⟨y0, y1, y2, y3, y4⟩ := hcy wr hbr
            have HY := Lib.hid hy
            clear hy
            have CB := Lib.hid (before_any s y)
            go_wp2_with fail
            go_still_tail 10, (by kernel_rfl)
            go_wp2_with fail
            refine (CB.out _).mono ?_
            rintro e w3 ⟨rfl, hb3⟩
            have hbr3 : Below wb.heap.size wb w3 := hbr.drew.trans (hb3.mono hbr.size)
            have hown3 := own_below hownb hbr3
            obtain ⟨z0, z1, z2, z3, z4⟩ := hcy w3 hbr3
            have R0 := (hbr3.cell (p := ⟨g1, 0, none⟩) hg1l).trans p0
            have R1 := (hbr3.cell (p := ⟨g1, 1, none⟩) hg1l).trans p1
            have R2' := (hbr3.cell (p := ⟨g1, 2, none⟩) hg1l).trans p2
            have R3 := (hbr3.cell (p := ⟨g1, 3, none⟩) hg1l).trans p3
            have R4 := (hbr3.cell (p := ⟨g1, 4, none⟩) hg1l).trans p4
            clear y0 y1 y2 y3 y4 P0 P1 P2 P3 P4 hb3 hbr CB hcy
            cases hq : hLtB s y
            · have HI : Hid (insS S s = S.set lo (addS y s)) := HH.out.same HY.out (of_decide_eq_false hq)
              have hyb := HBD.out y (List.mem_of_getElem? HY.out)
              have hwa : IntKind.i64.wrap (y.amt + s.amt) = y.amt + s.amt := IntWalk.i64_in _ (by omega)
              have hwp : IntKind.i64.wrap (y.paid + s.paid) = y.paid + s.paid := IntWalk.i64_in _ (by omega)
              have f3 : w3.frozen? ⟨g, lo * 5 + 3, none⟩ = false := own_frozen hown3 _
              obtain ⟨w4, hw4⟩ : ∃ x : World, x = (w3.setCell ⟨g, lo * 5 + 3, none⟩ (.int .i64 (y.amt + s.amt))).drew := ⟨_, rfl⟩
              have hneq : g ≠ g1 := by omega
              have hown4 : w4.ownsRow w.heap.size 41 5 (.slice (some ⟨g, 0, none⟩) m vc) m ((S.set lo ⟨y.loss, y.treaty, y.party, y.amt + s.amt, y.paid⟩).flatMap Sh.cells) := by
                rw [hw4]
                have h1 := own_setc hown3 (j := lo * 5 + 3) (by omega) (.int .i64 (y.amt + s.amt))
                rw [flat_set (enc := Sh.cells) (k := 5) (fun _ => rfl) S lo y ⟨y.loss, y.treaty, y.party, y.amt + s.amt, y.paid⟩ 3 _ HY.out rfl (by omega)] at h1
                exact own_below h1 ((Below.refl _ _).drew)
              have hb4 : Below w.heap.size w w4 := by
                rw [hw4]; exact ((hb0b.trans (hbr3.mono hb0b.size)).setCell (p := ⟨g, lo * 5 + 3, none⟩) hgw _).drew
              have t4 : w4.cell? ⟨g, lo * 5 + 4, none⟩ = some (.int .i64 y.paid) := by
                rw [hw4]
                show (w3.setCell ⟨g, lo * 5 + 3, none⟩ (.int .i64 (y.amt + s.amt))).cell? ⟨g, lo * 5 + 4, none⟩ = _
                rw [World.cell?_setCell_other _ _ _ _ (fun e => by injection e with e e2; omega)]; exact z4
              have r4 : w4.cell? ⟨g1, 4, none⟩ = some (.int .i64 s.paid) := by
                rw [hw4]
                show (w3.setCell ⟨g, lo * 5 + 3, none⟩ (.int .i64 (y.amt + s.amt))).cell? ⟨g1, 4, none⟩ = _
                rw [World.cell?_setCell_other _ _ _ _ (fun e => by injection e with e e2; omega)]; exact R4
              have f4 := own_frozen hown4 (lo * 5 + 4)
              have HS4 : Hid ((S.set lo ⟨y.loss, y.treaty, y.party, y.amt + s.amt, y.paid⟩).set lo (addS y s) = sumsS (l.take (k + 1))) := by show _ = _; rw [List.set_set, HNX.out, HI.out]
              have HY4 : Hid ((S.set lo ⟨y.loss, y.treaty, y.party, y.amt + s.amt, y.paid⟩)[lo]? = some ⟨y.loss, y.treaty, y.party, y.amt + s.amt, y.paid⟩) := by show _ = _; rw [List.getElem?_set_self (by rw [← HM.out]; exact hlm)]
              obtain ⟨S4, hS4⟩ : ∃ x, x = S.set lo ⟨y.loss, y.treaty, y.party, y.amt + s.amt, y.paid⟩ := ⟨_, rfl⟩
              rw [← hS4] at hown4 HS4 HY4
              have HML : Hid (m = (sumsS (l.take (k + 1))).length) := by show _ = _; rw [← HS4.out, hS4, List.length_set, List.length_set]; exact HM.out
              clear hS4
              go_upto_region 16 with fail
              go_still_tail 10, (by kernel_rfl)
              go_upto_region 17 with fail
              rw [← hw4]
              clear hw4 z0 z1 z2 z3 z4 R0 R1 R2' R3 R4 f3 hbr3 hown3
              go_wp2_with fail
              go_still_tail 10, (by kernel_rfl)
              go_wp2_with fail
              have HV2 : Hid (∀ x ∈ l.take (k + 1), validS x = true) := fun x hx => by
                rw [List.take_add_one, HS.out] at hx
                rcases List.mem_append.1 hx with hx | hx
                · exact HVA.out x hx
                · obtain rfl : x = s := by simpa using hx
                  exact HVS.out
              go_roundw
              case rel =>
                refine ⟨k + 1, m, by omega, by go_num, by omega, HML, ?_, HV2, (hb4.setCell (p := ⟨g, lo * 5 + 4, none⟩) hgw _).drew⟩
                have h1 := own_setc hown4 (j := lo * 5 + 4) (by omega) (.int .i64 (y.paid + s.paid))
                rw [flat_set (enc := Sh.cells) (k := 5) (fun _ => rfl) S4 lo _ (addS y s) 4 (.int .i64 (y.paid + s.paid)) HY4.out rfl (by omega), HS4.out] at h1
                exact own_below h1 ((Below.refl _ _).drew)
              case measure => simp [intOf]; omega
            · have HI : Hid (insS S s = S.take lo ++ s :: S.drop lo) := HH.out.fresh (fun z hz => by rw [HY.out] at hz; injection hz with hz; rw [← hz]; exact of_decide_eq_true hq)
              obtain ⟨wx, hwx⟩ : ∃ x : World, x = w3 := ⟨_, rfl⟩
              rw [← hwx] at hbr3 hown3 R0 R1 R2' R3 R4 ⊢
              have hbx := hbr3
              have hownx := hown3
              clear hwx hbr3 hown3 z0 z1 z2 z3 z4
              obtain ⟨zs, hzs⟩ : ∃ x : Sh, x = ⟨0, 0, 0, 0, 0⟩ := ⟨_, rfl⟩
              have hsz := hbx.size
              go_wp2_with (at_builtin; refine wpList_append_ownB rfl (.tmp 83) (.tmp 85) 22 rfl w.heap.size 41 i0 _ 5 40 Try.underlying22 hi hz0 hz1 hz2 rfl (by decide) _ m _ rfl (own_below hownx ((Below.refl _ _).alloc (Nat.le_refl _) _)) ⟨wx.heap.size, 0, none⟩ 1 1 (Sh.cells ⟨0, 0, 0, 0, 0⟩) rfl rfl ?c1 ?c2 ?c3 ?c4 ?c5 ?_)
              case c1 => exact cell_new wx (Sh.cells ⟨0, 0, 0, 0, 0⟩) 41
              case c2 => exact sh_one _
              case c3 => unfold maxLen; omega
              case c4 => omega
              case c5 => simp; have := hb0b.size; omega
              intro v' w8 hown8 hg8 hbk8
              have hg1x : g1 < wx.heap.size := Nat.lt_of_lt_of_le hg1l hbx.size
              have hb8 : Below w.heap.size w w8 := ((hb0b.trans (hbx.mono hb0b.size)).alloc (hb0b.trans (hbx.mono hb0b.size)).size _).grown hg8 (by have := (hb0b.trans (hbx.mono hb0b.size)).size; simp; omega) (fun g' hg' => own_low hownx g' hg')
              have hblk : w8.heap[g1]? = wx.heap[g1]? := (hg8.block g1 (by simp; omega) (fun e => by have := hneg g1 e.symm; omega)).trans (Below.heap_alloc wx _ g1 hg1x)
              have T0 : w8.cell? ⟨g1, 0, none⟩ = some (.int .i64 s.loss) := (World.cell?_of_block hblk).trans R0
              have T1 : w8.cell? ⟨g1, 1, none⟩ = some (.int .i64 s.treaty) := (World.cell?_of_block hblk).trans R1
              have T2 : w8.cell? ⟨g1, 2, none⟩ = some (.int .i64 s.party) := (World.cell?_of_block hblk).trans R2'
              have T3 : w8.cell? ⟨g1, 3, none⟩ = some (.int .i64 s.amt) := (World.cell?_of_block hblk).trans R3
              have T4 : w8.cell? ⟨g1, 4, none⟩ = some (.int .i64 s.paid) := (World.cell?_of_block hblk).trans R4
              have hg18 : g1 < w8.heap.size := by have := hg8.size; simp at this; omega
              obtain ⟨g8, cap8, rfl, hgw8, hcap8, hcm8⟩ := own_row8 hown8 (by omega)
              have hne8 : g8 ≠ g1 := by
                rcases hbk8 g8 rfl with h | h
                · have := hneg g8 h; omega
                · first | omega | (simp at h; omega)
              clear R0 R1 R2' R3 R4 hblk hg8 hownx
              have e1 : IntKind.i64.wrap ((lo : Int) + 1) = (lo : Int) + 1 := IntWalk.i64_in _ (by omega)
              have e2 : (0 : Int) ≤ (lo : Int) + 1 := by omega
              have e3 : (lo : Int) + 1 ≤ (m : Int) + 1 := by omega
              have e4 : (lo : Int) ≤ (m : Int) + 1 := by omega
              have e5 : ((lo : Int) + 1).toNat = lo + 1 := by omega
              go_wp2_with fail
              go_still_tail 7, (by kernel_rfl)
              change wpList _ _ _ _ _ w8.drew
              have hown8d := own_below hown8 ((Below.refl w8.heap.size w8).drew)
              refine wpList_copy_ownK rfl (.tmp 90) (.tmp 93) 22 22 rfl 41 5 Try.underlying22 (by rw [hi]; exact congrArg some hz1) _ _ _ _ _ _ rfl rfl w.heap.size g8 (m + 1) cap8 ((lo + 1) * 5) _ hown8d ((S.drop lo).flatMap Sh.cells) ?n (by decide) ?pos ?fit ?one ?_
              case n =>
                rw [flat_len Sh.cells 5 (fun _ => rfl), List.length_drop, ← HM.out]
                congr 1
                exact (Nat.min_eq_right (by omega)).symm
              case pos =>
                intro h0
                rw [flat_len Sh.cells 5 (fun _ => rfl), List.length_drop, ← HM.out] at h0
                refine ⟨if_neg (by omega), ⟨g8, lo * 5, none⟩, if_neg (by omega), fun j u hu => ?_⟩
                have h1 := hown8d.cells (g := g8) rfl (lo * 5 + j) u (by
                  rw [← flat_drop (enc := Sh.cells) (k := 5) (fun _ => rfl), List.getElem?_drop] at hu
                  rw [List.getElem?_append_left (by have := (List.getElem?_eq_some_iff.1 hu).1; exact this)]
                  exact hu)
                rw [addr_at0] at h1 ⊢
                rw [Nat.zero_add] at h1
                exact h1
              case fit =>
                rw [flat_len Sh.cells 5 (fun _ => rfl), List.length_drop, ← HM.out]; omega
              case one =>
                intro u hu
                obtain ⟨y', _, hy'⟩ := List.mem_flatMap.1 hu
                exact sh_one y' u hy'
              intro w9 hown9 hg9
              have HSP : Hid (splice (S.flatMap Sh.cells ++ Sh.cells ⟨0, 0, 0, 0, 0⟩) ((lo + 1) * 5) ((S.drop lo).flatMap Sh.cells) = ((S ++ [(⟨0, 0, 0, 0, 0⟩ : Sh)]).take (lo + 1) ++ S.drop lo).flatMap Sh.cells) := by
                show _ = _
                have e : S.flatMap Sh.cells ++ Sh.cells ⟨0, 0, 0, 0, 0⟩ = (S ++ [(⟨0, 0, 0, 0, 0⟩ : Sh)]).flatMap Sh.cells := by rw [List.flatMap_append]; simp
                unfold splice
                rw [e, flat_take (enc := Sh.cells) (k := 5) (fun _ => rfl), List.drop_of_length_le (i := (lo + 1) * 5 + _) (by
                  rw [flat_len Sh.cells 5 (fun _ => rfl), flat_len Sh.cells 5 (fun _ => rfl), List.length_drop, List.length_append, ← HM.out, List.length_singleton]; omega), List.append_nil, ← List.flatMap_append]
              have hown9' := hown9.out
              rw [HSP.out] at hown9'
              have HPN : Hid (((S ++ [(⟨0, 0, 0, 0, 0⟩ : Sh)]).take (lo + 1) ++ S.drop lo).set lo s = sumsS (l.take (k + 1))) := by show _ = _; rw [put_new (by rw [← HM.out]; omega), HNX.out, HI.out]
              have HLN : Hid (lo < ((S ++ [(⟨0, 0, 0, 0, 0⟩ : Sh)]).take (lo + 1) ++ S.drop lo).length) := by show _ < _; rw [List.length_append, List.length_take, List.length_append, ← HM.out]; simp; omega
              have HML : Hid (m + 1 = (sumsS (l.take (k + 1))).length) := by show _ = _; rw [HNX.out, HI.out, List.length_append, List.length_cons, List.length_take, List.length_drop, ← HM.out]; omega
              obtain ⟨T', hT'⟩ : ∃ x, x = (S ++ [(⟨0, 0, 0, 0, 0⟩ : Sh)]).take (lo + 1) ++ S.drop lo := ⟨_, rfl⟩
              rw [← hT'] at hown9' HPN HLN
              have hb9 : Below w.heap.size w w9 := (hb8.drew).grown hg9 hb8.size (fun g' hg' => by injection hg' with hg'; omega)
              have hblk9 : w9.heap[g1]? = w8.heap[g1]? := hg9.block g1 hg18 (fun e => by injection e with e; exact hne8 e.symm)
              have U0 := (World.cell?_of_block hblk9).trans T0
              have U1 := (World.cell?_of_block hblk9).trans T1
              have U2 := (World.cell?_of_block hblk9).trans T2
              have U3 := (World.cell?_of_block hblk9).trans T3
              have U4 := (World.cell?_of_block hblk9).trans T4
              have ff0 := own_frozen hown9' (lo * 5)
              have ff1 := own_frozen hown9' (lo * 5 + 1)
              have ff2 := own_frozen hown9' (lo * 5 + 2)
              have ff3 := own_frozen hown9' (lo * 5 + 3)
              have ff4 := own_frozen hown9' (lo * 5 + 4)
              obtain ⟨x, hx, _⟩ := drop_cons (xs := T') (i := lo) HLN.out
              have hcx := fun (j : Nat) (hj : j < 5) (u : Value) (hu : (Sh.cells x)[j]? = some u) => hown9'.cells (g := g8) rfl (lo * 5 + j) u ((flat_get Sh.cells 5 (fun _ => rfl) T' lo x hx j hj).trans hu)
              have V0 : w9.cell? ⟨g8, lo * 5, none⟩ = some (.int .i64 x.loss) := by have := hcx 0 (by omega) _ rfl; rw [addr_at0] at this; simpa using this
              have V1' : w9.cell? ⟨g8, lo * 5 + 1, none⟩ = some (.int .i64 x.treaty) := by have := hcx 1 (by omega) _ rfl; rw [addr_at0] at this; simpa using this
              have V2 : w9.cell? ⟨g8, lo * 5 + 2, none⟩ = some (.int .i64 x.party) := by have := hcx 2 (by omega) _ rfl; rw [addr_at0] at this; simpa using this
              have V3 : w9.cell? ⟨g8, lo * 5 + 3, none⟩ = some (.int .i64 x.amt) := by have := hcx 3 (by omega) _ rfl; rw [addr_at0] at this; simpa using this
              have V4 : w9.cell? ⟨g8, lo * 5 + 4, none⟩ = some (.int .i64 x.paid) := by have := hcx 4 (by omega) _ rfl; rw [addr_at0] at this; simpa using this
              have HX := Lib.hid hx
              clear hcx hx
              clear hT' HSP hown9 hown8 hown8d T0 T1 T2 T3 T4 hblk9 hg9
              have hlm1 : lo < m + 1 := by omega
              have HV2 := Lib.hid (valid_next HVA.out HS.out HVS.out)
              go_wp2_with fail
              go_roundw
              case rel =>
                refine ⟨k + 1, m + 1, by omega, by go_num, by omega, HML, ?_, HV2, below_put5 hb9 hgw8 _ _ _ _ _ _⟩
                have h1 := own_put5 hown9' hlm1 HX.out s
                rw [HPN.out] at h1
                exact h1
              case measure => simp [intOf]; omega
          · obtain rfl : lo = m := by omega
            have HI : Hid (insS S s = S.take lo ++ s :: S.drop lo) := HH.out.fresh (fun z hz => by rw [List.getElem?_eq_none (by rw [← HM.out]; exact Nat.le_refl _)] at hz; cases hz)
            go_wp2_with fail
            go_quiet (fail)
            obtain ⟨wx, hwx⟩ : ∃ x : World, x = wr.drewN nq := ⟨_, rfl⟩
            have hbx : Below wb.heap.size wb wx := by rw [hwx]; exact below_drewN hbr _
            have hownx := own_below hownb hbx
            have R0 : wx.cell? ⟨g1, 0, none⟩ = some (.int .i64 s.loss) := by rw [hwx]; exact P0
            have R1 : wx.cell? ⟨g1, 1, none⟩ = some (.int .i64 s.treaty) := by rw [hwx]; exact P1
            have R2' : wx.cell? ⟨g1, 2, none⟩ = some (.int .i64 s.party) := by rw [hwx]; exact P2
            have R3 : wx.cell? ⟨g1, 3, none⟩ = some (.int .i64 s.amt) := by rw [hwx]; exact P3
            have R4 : wx.cell? ⟨g1, 4, none⟩ = some (.int .i64 s.paid) := by rw [hwx]; exact P4
            rw [← hwx]
            clear hwx P0 P1 P2 P3 P4 hbr
            obtain ⟨zs, hzs⟩ : ∃ x : Sh, x = ⟨0, 0, 0, 0, 0⟩ := ⟨_, rfl⟩
            have hsz := hbx.size
            go_wp2_with (at_builtin; refine wpList_append_ownB rfl (.tmp 83) (.tmp 85) 22 rfl w.heap.size 41 i0 _ 5 40 Try.underlying22 hi hz0 hz1 hz2 rfl (by decide) _ lo _ rfl (own_below hownx ((Below.refl _ _).alloc (Nat.le_refl _) _)) ⟨wx.heap.size, 0, none⟩ 1 1 (Sh.cells ⟨0, 0, 0, 0, 0⟩) rfl rfl ?c1 ?c2 ?c3 ?c4 ?c5 ?_)
            case c1 => exact cell_new wx (Sh.cells ⟨0, 0, 0, 0, 0⟩) 41
            case c2 => exact sh_one _
            case c3 => unfold maxLen; omega
            case c4 => omega
            case c5 => simp; have := hb0b.size; omega
            intro v' w8 hown8 hg8 hbk8
            have hg1x : g1 < wx.heap.size := Nat.lt_of_lt_of_le hg1l hbx.size
            have hb8 : Below w.heap.size w w8 := ((hb0b.trans (hbx.mono hb0b.size)).alloc (hb0b.trans (hbx.mono hb0b.size)).size _).grown hg8 (by have := (hb0b.trans (hbx.mono hb0b.size)).size; simp; omega) (fun g' hg' => own_low hownx g' hg')
            have hblk : w8.heap[g1]? = wx.heap[g1]? := (hg8.block g1 (by simp; omega) (fun e => by have := hneg g1 e.symm; omega)).trans (Below.heap_alloc wx _ g1 hg1x)
            have T0 : w8.cell? ⟨g1, 0, none⟩ = some (.int .i64 s.loss) := (World.cell?_of_block hblk).trans R0
            have T1 : w8.cell? ⟨g1, 1, none⟩ = some (.int .i64 s.treaty) := (World.cell?_of_block hblk).trans R1
            have T2 : w8.cell? ⟨g1, 2, none⟩ = some (.int .i64 s.party) := (World.cell?_of_block hblk).trans R2'
            have T3 : w8.cell? ⟨g1, 3, none⟩ = some (.int .i64 s.amt) := (World.cell?_of_block hblk).trans R3
            have T4 : w8.cell? ⟨g1, 4, none⟩ = some (.int .i64 s.paid) := (World.cell?_of_block hblk).trans R4
            have hg18 : g1 < w8.heap.size := by have := hg8.size; simp at this; omega
            obtain ⟨g8, cap8, rfl, hgw8, hcap8, hcm8⟩ := own_row8 hown8 (by omega)
            have hne8 : g8 ≠ g1 := by
              rcases hbk8 g8 rfl with h | h
              · have := hneg g8 h; omega
              · first | omega | (simp at h; omega)
            clear R0 R1 R2' R3 R4 hblk hg8 hownx
            have e1 : IntKind.i64.wrap ((lo : Int) + 1) = (lo : Int) + 1 := IntWalk.i64_in _ (by omega)
            have e2 : (0 : Int) ≤ (lo : Int) + 1 := by omega
            have e3 : (lo : Int) + 1 ≤ (lo : Int) + 1 := by omega
            have e4 : (lo : Int) ≤ (lo : Int) + 1 := by omega
            have e5 : ((lo : Int) + 1).toNat = lo + 1 := by omega
            go_wp2_with fail
            go_still_tail 7, (by kernel_rfl)
            change wpList _ _ _ _ _ w8.drew
            have hown8d := own_below hown8 ((Below.refl w8.heap.size w8).drew)
            refine wpList_copy_ownK rfl (.tmp 90) (.tmp 93) 22 22 rfl 41 5 Try.underlying22 (by rw [hi]; exact congrArg some hz1) _ _ _ _ _ _ rfl rfl w.heap.size g8 (lo + 1) cap8 ((lo + 1) * 5) _ hown8d ((S.drop lo).flatMap Sh.cells) ?n (by decide) ?pos ?fit ?one ?_
            case n =>
              rw [flat_len Sh.cells 5 (fun _ => rfl), List.length_drop, ← HM.out]
              congr 1
              first | exact (Nat.min_eq_right (by omega)).symm | (rw [Nat.sub_self]; rfl)
            case pos =>
              intro h0
              rw [flat_len Sh.cells 5 (fun _ => rfl), List.length_drop, ← HM.out] at h0
              refine ⟨if_neg (by omega), ⟨g8, lo * 5, none⟩, if_neg (by omega), fun j u hu => ?_⟩
              have h1 := hown8d.cells (g := g8) rfl (lo * 5 + j) u (by
                rw [← flat_drop (enc := Sh.cells) (k := 5) (fun _ => rfl), List.getElem?_drop] at hu
                rw [List.getElem?_append_left (by have := (List.getElem?_eq_some_iff.1 hu).1; exact this)]
                exact hu)
              rw [addr_at0] at h1 ⊢
              rw [Nat.zero_add] at h1
              exact h1
            case fit =>
              rw [flat_len Sh.cells 5 (fun _ => rfl), List.length_drop, ← HM.out]; omega
            case one =>
              intro u hu
              obtain ⟨y', _, hy'⟩ := List.mem_flatMap.1 hu
              exact sh_one y' u hy'
            intro w9 hown9 hg9
            have HSP : Hid (splice (S.flatMap Sh.cells ++ Sh.cells ⟨0, 0, 0, 0, 0⟩) ((lo + 1) * 5) ((S.drop lo).flatMap Sh.cells) = ((S ++ [(⟨0, 0, 0, 0, 0⟩ : Sh)]).take (lo + 1) ++ S.drop lo).flatMap Sh.cells) := by
              show _ = _
              have e : S.flatMap Sh.cells ++ Sh.cells ⟨0, 0, 0, 0, 0⟩ = (S ++ [(⟨0, 0, 0, 0, 0⟩ : Sh)]).flatMap Sh.cells := by rw [List.flatMap_append]; simp
              unfold splice
              rw [e, flat_take (enc := Sh.cells) (k := 5) (fun _ => rfl), List.drop_of_length_le (i := (lo + 1) * 5 + _) (by
                rw [flat_len Sh.cells 5 (fun _ => rfl), flat_len Sh.cells 5 (fun _ => rfl), List.length_drop, List.length_append, ← HM.out, List.length_singleton]; omega), List.append_nil, ← List.flatMap_append]
            have hown9' := hown9.out
            rw [HSP.out] at hown9'
            have HPN : Hid (((S ++ [(⟨0, 0, 0, 0, 0⟩ : Sh)]).take (lo + 1) ++ S.drop lo).set lo s = sumsS (l.take (k + 1))) := by show _ = _; rw [put_new (by rw [← HM.out]; omega), HNX.out, HI.out]
            have HLN : Hid (lo < ((S ++ [(⟨0, 0, 0, 0, 0⟩ : Sh)]).take (lo + 1) ++ S.drop lo).length) := by show _ < _; rw [List.length_append, List.length_take, List.length_append, ← HM.out]; simp; omega
            have HML : Hid (lo + 1 = (sumsS (l.take (k + 1))).length) := by show _ = _; rw [HNX.out, HI.out, List.length_append, List.length_cons, List.length_take, List.length_drop, ← HM.out]; omega
            obtain ⟨T', hT'⟩ : ∃ x, x = (S ++ [(⟨0, 0, 0, 0, 0⟩ : Sh)]).take (lo + 1) ++ S.drop lo := ⟨_, rfl⟩
            rw [← hT'] at hown9' HPN HLN
            have hb9 : Below w.heap.size w w9 := (hb8.drew).grown hg9 hb8.size (fun g' hg' => by injection hg' with hg'; omega)
            have hblk9 : w9.heap[g1]? = w8.heap[g1]? := hg9.block g1 hg18 (fun e => by injection e with e; exact hne8 e.symm)
            have U0 := (World.cell?_of_block hblk9).trans T0
            have U1 := (World.cell?_of_block hblk9).trans T1
            have U2 := (World.cell?_of_block hblk9).trans T2
            have U3 := (World.cell?_of_block hblk9).trans T3
            have U4 := (World.cell?_of_block hblk9).trans T4
            have ff0 := own_frozen hown9' (lo * 5)
            have ff1 := own_frozen hown9' (lo * 5 + 1)
            have ff2 := own_frozen hown9' (lo * 5 + 2)
            have ff3 := own_frozen hown9' (lo * 5 + 3)
            have ff4 := own_frozen hown9' (lo * 5 + 4)
            obtain ⟨x, hx, _⟩ := drop_cons (xs := T') (i := lo) HLN.out
            have hcx := fun (j : Nat) (hj : j < 5) (u : Value) (hu : (Sh.cells x)[j]? = some u) => hown9'.cells (g := g8) rfl (lo * 5 + j) u ((flat_get Sh.cells 5 (fun _ => rfl) T' lo x hx j hj).trans hu)
            have V0 : w9.cell? ⟨g8, lo * 5, none⟩ = some (.int .i64 x.loss) := by have := hcx 0 (by omega) _ rfl; rw [addr_at0] at this; simpa using this
            have V1' : w9.cell? ⟨g8, lo * 5 + 1, none⟩ = some (.int .i64 x.treaty) := by have := hcx 1 (by omega) _ rfl; rw [addr_at0] at this; simpa using this
            have V2 : w9.cell? ⟨g8, lo * 5 + 2, none⟩ = some (.int .i64 x.party) := by have := hcx 2 (by omega) _ rfl; rw [addr_at0] at this; simpa using this
            have V3 : w9.cell? ⟨g8, lo * 5 + 3, none⟩ = some (.int .i64 x.amt) := by have := hcx 3 (by omega) _ rfl; rw [addr_at0] at this; simpa using this
            have V4 : w9.cell? ⟨g8, lo * 5 + 4, none⟩ = some (.int .i64 x.paid) := by have := hcx 4 (by omega) _ rfl; rw [addr_at0] at this; simpa using this
            have HX := Lib.hid hx
            clear hcx hx
            clear hT' HSP hown9 hown8 hown8d T0 T1 T2 T3 T4 hblk9 hg9
            have hlm1 : lo < lo + 1 := by omega
            have HV2 := Lib.hid (valid_next HVA.out HS.out HVS.out)
            go_wp2_with fail
            go_roundw
            case rel =>
              refine ⟨k + 1, lo + 1, by omega, by go_num, by omega, HML, ?_, HV2, below_put5 hb9 hgw8 _ _ _ _ _ _⟩
              have h1 := own_put5 hown9' hlm1 HX.out s
              rw [HPN.out] at h1
              exact h1
            case measure => simp [intOf]; omega
    · obtain rfl : k = n := by omega
      rw [List.take_of_length_le (by rw [← HN.out]; exact Nat.le_refl _)] at HM hown HVA
      obtain ⟨X, vc, rfl, _⟩ := own_shape hown
      have hrd : Shs wr 0 X (sumsS l) := by
        have h1 := hown
        rw [HM.out] at h1
        exact (shs_of_own h1).low (Nat.zero_le _)
      have HE1 : Hid (∀ s, s ∈ sumsS l → validS s = false → colErr l = 3) := fun s hs hv => by
        unfold colErr
        rw [if_neg (by rw [← HN.out]; omega), if_neg, if_pos]
        · rw [List.all_eq_false]
          exact ⟨s, hs, by rw [hv]; simp⟩
        · rw [Bool.not_eq_false, List.all_eq_true]; exact HVA.out
      have HE0 : Hid ((∀ s, s ∈ sumsS l → validS s = true) → colErr l = 0) := fun h => by
        unfold colErr
        rw [if_neg (by rw [← HN.out]; omega), if_neg, if_neg]
        · rw [Bool.not_eq_false, List.all_eq_true]; exact h
        · rw [Bool.not_eq_false, List.all_eq_true]; exact HVA.out
      have HF : Hid (colF l = (sumsS l).filter nzS) := rfl
      obtain ⟨S, hS'⟩ : ∃ S, S = sumsS l := ⟨_, rfl⟩
      rw [← hS'] at HM hrd HE1 HE0 HF
      clear hS' hown
      obtain ⟨B0, hB0⟩ : ∃ x, x = wr.heap.size := ⟨_, rfl⟩
      have hwB0 : w.heap.size ≤ B0 := by rw [hB0]; exact hb.size
      obtain ⟨wo, hwo⟩ : ∃ x : World, x = wr := ⟨_, rfl⟩
      rw [← hwo] at hrd hb hB0 ⊢
      have hB1 : wo.heap.size ≤ B0 := by omega
      have hB2 : B0 ≤ wo.heap.size := by omega
      clear hwo hB0
      go_wp2_with fail
      go_loopw [10, 12, 102] (fun v _ ii wr => ∃ (j p : Nat), j ≤ m ∧ ii = .int .i64 j ∧ p ≤ j ∧ Hid (p = ((S.take j).filter nzS).length) ∧ wr.ownsRow B0 41 5 v p (((S.take j).filter nzS).flatMap Sh.cells) ∧ Hid (∀ s ∈ S.take j, validS s = true) ∧ Below wo.heap.size wo wr) (fun _ _ ii _ => m - (intOf ii).toNat)
      case atStart => exact ⟨0, 0, Nat.zero_le _, rfl, Nat.le_refl _, rfl, own_nil _ _ _ _, (fun x hx => by simp at hx), Below.refl _ _⟩
      case round =>
        obtain ⟨j, p, hj, rfl, hpj, HP, hown, HVJ, hbj⟩ := hrel
        by_cases hjm : j < m
        · obtain ⟨s, hs, _⟩ := drop_cons (xs := S) (i := j) (by rw [← HM.out]; exact hjm)
          obtain ⟨b, off, rfl, _, hbl, c0, c1, c2, c3, c4⟩ := (hrd.below hbj).at_ hs
          have HS := Lib.hid hs
          have hvv := validS_val s
          obtain ⟨wb, hwb⟩ : ∃ x : World, x = wr.alloc (.cells #[.int .i64 s.loss, .int .i64 s.treaty, .int .i64 s.party, .int .i64 s.amt, .int .i64 s.paid] 41) := ⟨_, rfl⟩
          obtain ⟨g1, hg1⟩ : ∃ x, x = wr.heap.size := ⟨_, rfl⟩
          have hbb : Below wr.heap.size wr wb := by rw [hwb]; exact (Below.refl _ _).alloc (Nat.le_refl _) _
          have hownb := own_below hown hbb
          have hbjb := hbj.trans (hbb.mono hbj.size)
          have hb0b := hb.trans (hbjb.mono hb.size)
          have p0 : wb.cell? ⟨g1, 0, none⟩ = some (.int .i64 s.loss) := by rw [hwb, hg1]; simp
          have p1 : wb.cell? ⟨g1, 1, none⟩ = some (.int .i64 s.treaty) := by rw [hwb, hg1]; simp
          have p2 : wb.cell? ⟨g1, 2, none⟩ = some (.int .i64 s.party) := by rw [hwb, hg1]; simp
          have p3 : wb.cell? ⟨g1, 3, none⟩ = some (.int .i64 s.amt) := by rw [hwb, hg1]; simp
          have p4 : wb.cell? ⟨g1, 4, none⟩ = some (.int .i64 s.paid) := by rw [hwb, hg1]; simp
          go_upto_region 26 with fail
          rw [← hwb, ← hg1]
          clear hwb hg1 c0 c1 c2 c3 c4 hown hbb hs hbj
          by_cases hv : validS s = true
          case neg =>
            have HE : Hid (colErr l = 3) := HE1.out s (List.mem_of_getElem? HS.out) (by simpa using hv)
            have HR : Hid (colR l = []) := by show _ = _; unfold colR; rw [if_neg (by rw [HE.out]; omega)]
            rw [hvv] at hv
            cases ha : valB s.amt
            · clear hv hvv
              go_wp2_with (go_at_call 31; refine (validR_any _ _).mono ?_; rintro e w' ⟨rfl, rfl⟩)
              go_ret2
              exact ⟨none, 0, by rw [HR.out, HE.out]; rfl, by rw [HR.out]; exact Sl.none_, hb0b⟩
            · have hp : valB s.paid = false := by rw [ha] at hv; simpa using hv
              clear hv hvv
              go_wp2_with (go_at_call 31; refine (validR_any _ _).mono ?_; rintro e w' ⟨rfl, rfl⟩)
              go_ret2
              exact ⟨none, 0, by rw [HR.out, HE.out]; rfl, by rw [HR.out]; exact Sl.none_, hb0b⟩
          have HV2 := Lib.hid (valid_next HVJ.out HS.out hv)
          rw [hvv] at hv
          obtain ⟨ha, hp⟩ : valB s.amt = true ∧ valB s.paid = true := by simpa using hv
          clear hv hvv
          by_cases h0 : s.amt = 0 ∧ s.paid = 0
          · have q1 : (s.amt != 0) = false := by simpa using h0.1
            have q2 : (s.paid != 0) = false := by simpa using h0.2
            have HFN : Hid ((S.take (j + 1)).filter nzS = (S.take j).filter nzS) := by
              show _ = _
              rw [take_next HS.out, List.filter_append, List.filter_cons_of_neg (by simp [nzS, h0.1, h0.2])]; simp
            clear h0
            go_wp2_with (go_at_call 31; refine (validR_any _ _).mono ?_; rintro e w' ⟨rfl, rfl⟩)
            go_roundw
            case rel => exact ⟨j + 1, p, by omega, by go_num, by omega, (by rw [HFN.out]; exact HP), (by rw [HFN.out]; exact hownb), HV2, hbjb⟩
            case measure => simp [intOf]; omega
          · have HFN : Hid ((S.take (j + 1)).filter nzS = (S.take j).filter nzS ++ [s]) := by
              show _ = _
              rw [take_next HS.out, List.filter_append, List.filter_cons_of_pos ((nzS_iff s).2 (by omega))]; simp
            have hsz := hbjb.size
            by_cases hz : s.amt = 0
            · have q1 : (s.amt != 0) = false := by simpa using hz
              have q2 : (s.paid != 0) = true := by simp; omega
              clear h0 hz
              go_wp2_with (first | (go_at_call 31; refine (validR_any _ _).mono ?_; rintro e w' ⟨rfl, rfl⟩) | (at_builtin; refine wpList_append_own _ rfl (.tmp 124) (.tmp 126) 22 rfl B0 41 i0 _ 5 40 Try.underlying22 hi hz0 hz1 hz2 rfl (by decide) _ p _ rfl (own_below hownb ((Below.refl _ _).alloc (Nat.le_refl _) _)) ⟨wb.heap.size, 0, none⟩ 1 1 (Sh.cells s) rfl rfl ?c1 ?c2 ?c3 ?c4 ?c5 ?_))
              case c1 => exact cell_new wb (Sh.cells s) 41
              case c2 => exact sh_one _
              case c3 => unfold maxLen; omega
              case c4 => omega
              case c5 => simp; omega
              intro v' w8 hown8 hg8 _
              have hb8 : Below wo.heap.size wo w8 := (hbjb.alloc hbjb.size _).grown hg8 (by simp; omega) (fun g' hg' => by have := own_low hownb g' hg'; omega)
              clear hg8 hownb
              go_wp2_with fail
              go_roundw
              case rel => exact ⟨j + 1, p + 1, by omega, by go_num, by omega, (by show _ = _; rw [HFN.out, List.length_append, ← HP.out]; rfl), (by rw [HFN.out, List.flatMap_append]; simpa using hown8), HV2, hb8⟩
              case measure => simp [intOf]; omega
            · have q1 : (s.amt != 0) = true := by simpa using hz
              clear h0 hz
              go_wp2_with (first | (go_at_call 31; refine (validR_any _ _).mono ?_; rintro e w' ⟨rfl, rfl⟩) | (at_builtin; refine wpList_append_own _ rfl (.tmp 124) (.tmp 126) 22 rfl B0 41 i0 _ 5 40 Try.underlying22 hi hz0 hz1 hz2 rfl (by decide) _ p _ rfl (own_below hownb ((Below.refl _ _).alloc (Nat.le_refl _) _)) ⟨wb.heap.size, 0, none⟩ 1 1 (Sh.cells s) rfl rfl ?c1 ?c2 ?c3 ?c4 ?c5 ?_))
              case c1 => exact cell_new wb (Sh.cells s) 41
              case c2 => exact sh_one _
              case c3 => unfold maxLen; omega
              case c4 => omega
              case c5 => simp; omega
              intro v' w8 hown8 hg8 _
              have hb8 : Below wo.heap.size wo w8 := (hbjb.alloc hbjb.size _).grown hg8 (by simp; omega) (fun g' hg' => by have := own_low hownb g' hg'; omega)
              clear hg8 hownb
              go_wp2_with fail
              go_roundw
              case rel => exact ⟨j + 1, p + 1, by omega, by go_num, by omega, (by show _ = _; rw [HFN.out, List.length_append, ← HP.out]; rfl), (by rw [HFN.out, List.flatMap_append]; simpa using hown8), HV2, hb8⟩
              case measure => simp [intOf]; omega
        · obtain rfl : j = m := by omega
          rw [List.take_of_length_le (by rw [← HM.out]; exact Nat.le_refl _)] at HP hown HVJ
          have HE : Hid (colErr l = 0) := HE0.out HVJ.out
          have HR : Hid (colR l = S.filter nzS) := by show _ = _; unfold colR; rw [if_pos HE.out, HF.out]
          obtain ⟨V, vc', rfl, _⟩ := own_shape hown
          have hsh : Shs wr B0 V (S.filter nzS) := by
            rw [HP.out] at hown
            exact shs_of_own hown
          have hbw := hb.trans (hbj.mono hb.size)
          go_wp2_with fail
          go_ret2
          exact ⟨V, vc', by rw [HR.out, HE.out, ← HP.out]; rfl, by rw [HR.out]; exact hsh.low hwB0, hbw⟩

end Go.Proofs.Ytpmiafnccjejnaa
