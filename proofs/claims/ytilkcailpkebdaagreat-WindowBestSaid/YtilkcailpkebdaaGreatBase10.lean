/-
  Texts of the proof, one after the other.
-/
import Derived.Test.YtilkcailpkebdaaGreatBase5
import Derived.Test.YtilkcailpkebdaaGreatBase7
import Derived.Test.YtilkcailpkebdaaGreatBase9
import Derived.Laws.AppendOwnNone
import Derived.Test.YtilkcailpkebdaaGreatBase2

/-
  treatyref25.Windows: its contract, at the same plain function as event.Validate's.
-/
namespace Go.Proofs.YtilkcailpkebdaaGreat
open Go.RowKit
set_option linter.unusedVariables false

def ordAt (xs : List Win) (k : Nat) (x : Win) : Bool := (xs.take k).getLast?.any fun l => winOrd l x
theorem ordAt_zero {xs : List Win} {k : Nat} {x : Win} (h : k < 1) : ordAt xs k x = false := by
  obtain rfl : k = 0 := by omega
  simp [ordAt]
theorem ordAt_pos {xs : List Win} {k : Nat} {x l : Win} (hk : k ≤ xs.length) (h0 : 0 < k) (hl : xs[k - 1]? = some l) : ordAt xs k x = winOrd l x := by
  unfold ordAt; rw [last_take hk h0, hl]; simp
theorem one_ordAt {xs : List Win} {k : Nat} {x : Win} {n : Int} (h : winRange x = true) (h2 : x.to - x.fr ≤ n) (h3 : ordAt xs k x = true) : oneE (xs.take k) x n = 13 := by
  unfold oneE; rw [if_neg (by simp [h]), if_neg (by omega), if_pos (by unfold ordAt at h3; exact h3)]
theorem one_restAt {xs : List Win} {k : Nat} {x : Win} {n : Int} (h : winRange x = true) (h2 : x.to - x.fr ≤ n) (h3 : ordAt xs k x = false) : oneE (xs.take k) x n = if ((xs.take k).any fun v => winMeet v x) = true then 8 else 0 := by
  unfold oneE; rw [if_neg (by simp [h]), if_neg (by omega), if_neg (by unfold ordAt at h3; simp [h3])]
theorem any_take_succ {xs : List Win} {k j : Nat} {v x : Win} (hv : xs[j]? = some v) (hj : j < k) (h : winMeet v x = true) : ((xs.take k).any fun v => winMeet v x) = true := by
  rw [List.any_eq_true]
  refine ⟨v, ?_, h⟩
  have : (xs.take k)[j]? = some v := by rw [List.getElem?_take_of_lt hj]; exact hv
  exact List.mem_of_getElem? this
theorem any_take_false {xs : List Win} {k : Nat} {x : Win} (h : ∀ j v, j < k → xs[j]? = some v → winMeet v x = false) : ((xs.take k).any fun v => winMeet v x) = false := by
  rw [List.any_eq_false]
  intro v hv
  obtain ⟨j, hj, he⟩ := List.getElem_of_mem hv
  have hjk : j < k := by simp at hj; omega
  have : xs[j]? = some v := by
    rw [← List.getElem?_take_of_lt hjk, List.getElem?_eq_getElem hj, he]
  simp [h j v hjk this]

set_option maxRecDepth 100000 in
set_option maxHeartbeats 4000000 in
theorem rwindows_any (A : Option Addr) (c : Nat) (xs : List Win) (n : Int) (w : World) (hxl : xs.length ≤ 9223372036854775807) (hxc : xs.length ≤ c) (hX : Wins w 0 A xs) :
    Calls Tryz.prog 67 #[.slice A xs.length c, .int .i64 n] w fun e w' => e = .returned (.int .i64 (winsE xs n)) ∧ Below w.heap.size w w' := by
  obtain ⟨m, hm⟩ : ∃ m, m = xs.length := ⟨_, rfl⟩
  rw [← hm] at hxl hxc ⊢
  have HM := Lib.hid hm
  by_cases h64 : 64 < m
  · have HR : Hid (winsE xs n = 4) := by unfold winsE; rw [if_pos (by omega)]; rfl
    clear hm
    go_enter Tryz.func67, Tryz.ntmps67
    go_wp2_with fail
    go_ret
    exact ⟨ret_int HR.out.symm, Below.refl _ _⟩
  have q : decide (64 < (m : Int)) = false := by simp; omega
  by_cases hn : 1 ≤ n ∧ n ≤ 8784
  case neg =>
    have HR : Hid (winsE xs n = 1) := by unfold winsE; rw [if_neg (by omega), if_pos (by omega)]; rfl
    clear hm
    by_cases h1 : n < 1
    · go_enter Tryz.func67, Tryz.ntmps67
      go_wp2_with fail
      go_ret
      exact ⟨ret_int HR.out.symm, Below.refl _ _⟩
    · have h2 : 8784 < n := by omega
      go_enter Tryz.func67, Tryz.ntmps67
      go_wp2_with fail
      go_ret
      exact ⟨ret_int HR.out.symm, Below.refl _ _⟩
  have HR : Hid (winsE xs n = winsLoop n [] xs) := by unfold winsE; rw [if_neg (by omega), if_neg (by omega)]; rfl
  obtain ⟨hn1, hn2⟩ := hn
  clear hm
  go_enter Tryz.func67, Tryz.ntmps67
  go_wp2_with fail
  go_loopw [5, 6, 8, 20] (fun _ _ _ ii wr => ∃ k : Nat, k ≤ m ∧ ii = .int .i64 k ∧ Below w.heap.size w wr ∧ winsLoop n (xs.take k) (xs.drop k) = winsLoop n [] xs) (fun _ _ _ ii _ => m - (intOf ii).toNat)
  case atStart => exact ⟨0, Nat.zero_le _, rfl, Below.refl _ _, rfl⟩
  case round =>
    obtain ⟨k, hk, rfl, hb, hloop⟩ := hrel
    have HL := Lib.hid hloop
    clear hloop
    by_cases hlt : k < m
    case neg =>
      obtain rfl : k = m := by omega
      have h1 := HL.out
      rw [HM.out] at h1
      have HX := Lib.hid (wins_end h1)
      clear h1
      go_wp2_with fail
      go_ret
      exact ⟨ret_int (HR.out.trans HX.out).symm, hb⟩
    obtain ⟨x, hx, hd⟩ := drop_cons (xs := xs) (i := k) (by rw [← HM.out]; exact hlt)
    obtain ⟨b, off, rfl, _, hbl, c0, c1, c2⟩ := (hX.below hb).at_ hx
    have HD := Lib.hid hd
    have HXK := Lib.hid hx
    clear hx hd
    have hba := hb.alloc hb.size (.cells #[.int .i64 x.peril, .int .i64 x.fr, .int .i64 x.to] 75)
    by_cases hr : winRange x = true
    case neg =>
      have HX := Lib.hid (wins_stop HD.out HL.out (by rw [one_range (Bool.eq_false_iff.2 hr)]; decide))
      rw [one_range (Bool.eq_false_iff.2 hr)] at HX
      have hno : ¬ (0 ≤ x.peril ∧ x.peril ≤ 15 ∧ 0 ≤ x.fr ∧ x.fr < x.to ∧ x.to ≤ 876600) := fun h => hr ((winRange_iff x).2 h)
      clear hr
      go_wp2_with fail
      all_goals first | (exfalso; omega) | (go_ret; exact ⟨ret_int (HR.out.trans HX.out).symm, hba⟩)
    obtain ⟨g1, g2, g3, g4, g5⟩ := (winRange_iff x).1 hr
    by_cases hl : n < x.to - x.fr
    · have HX := Lib.hid (wins_stop HD.out HL.out (by rw [one_limit hr hl]; decide))
      rw [one_limit hr hl] at HX
      clear hr
      go_wp2_with fail
      go_ret
      exact ⟨ret_int (HR.out.trans HX.out).symm, hba⟩
    have hl' : x.to - x.fr ≤ n := by omega
    have HRG := Lib.hid hr
    clear hr hl
    go_upto_region 12 with fail
    obtain ⟨w1, hw1⟩ : ∃ w1 : World, w1 = wr.alloc (.cells #[.int .i64 x.peril, .int .i64 x.fr, .int .i64 x.to] 75) := ⟨_, rfl⟩
    obtain ⟨bx, hbx⟩ : ∃ bx, bx = wr.heap.size := ⟨_, rfl⟩
    have d0 : w1.cell? ⟨bx, 0, none⟩ = some (.int .i64 x.peril) := by rw [hw1, hbx]; simp
    have d1 : w1.cell? ⟨bx, 1, none⟩ = some (.int .i64 x.fr) := by rw [hw1, hbx]; simp
    have d2 : w1.cell? ⟨bx, 2, none⟩ = some (.int .i64 x.to) := by rw [hw1, hbx]; simp
    have dz : bx < w1.heap.size := World.block_lt_of_cell? w1 _ d0
    rw [← hw1] at hba ⊢
    rw [← hbx]
    clear hw1 hbx c0 c1 c2 hb
    obtain ⟨ov, hov⟩ : ∃ ov, ordAt xs k x = ov := ⟨_, rfl⟩
    have HOV := Lib.hid hov
    clear hov
    go_cut [91] (fun s91 wc => s91 = .bool ov ∧ Below w1.heap.size w1 wc)
    case first =>
      by_cases hk0 : k < 1
      · have q0 : decide (0 < k) = false := by simp; omega
        have HO := Lib.hid (ordAt_zero (xs := xs) (x := x) hk0)
        go_quiet (fail)
        go_wp2_with fail
        go_meet
        exact ⟨by rw [← HOV.out, HO.out], below_drewN (Below.refl _ _) _⟩
      · have q0 : decide (0 < k) = true := by simp; omega
        obtain ⟨l, hl⟩ : ∃ l, xs[k - 1]? = some l := ⟨_, List.getElem?_eq_getElem (by rw [← HM.out]; omega)⟩
        have HO := Lib.hid (ordAt_pos (x := x) (by rw [← HM.out]; exact hk) (by omega) hl)
        obtain ⟨b', off', hA, _, _, e0, e1, e2⟩ := (hX.below hba).at_ hl
        obtain ⟨rfl, rfl⟩ : b = b' ∧ off = off' := by simpa using hA
        clear hl hA
        rcases Int.lt_trichotomy x.fr l.fr with hlt' | heq | hgt
        · have HW := Lib.hid ((winOrd_iff l x).2 (.inl hlt'))
          have q1 : decide (x.fr < l.fr) = true := by simpa using hlt'
          go_quiet (fail)
          go_wp2_with fail
          go_meet
          exact ⟨by rw [← HOV.out, HO.out, HW.out], below_drewN (Below.refl _ _) _⟩
        · have q1 : decide (x.fr < l.fr) = false := by simp; omega
          have q2 : (x.fr == l.fr) = true := by simpa using heq
          by_cases hp : x.peril ≤ l.peril
          · have HW := Lib.hid ((winOrd_iff l x).2 (.inr ⟨heq, hp⟩))
            have q3 : decide (x.peril ≤ l.peril) = true := by simpa using hp
            clear heq
            go_quiet (fail)
            go_wp2_with fail
            go_meet
            exact ⟨by rw [← HOV.out, HO.out, HW.out], below_drewN (Below.refl _ _) _⟩
          · have HW : Hid (winOrd l x = false) := by rw [Bool.eq_false_iff]; intro h; have := (winOrd_iff l x).1 h; omega
            have q3 : decide (x.peril ≤ l.peril) = false := by simpa using hp
            clear heq
            go_quiet (fail)
            go_wp2_with fail
            go_meet
            exact ⟨by rw [← HOV.out, HO.out, HW.out], below_drewN (Below.refl _ _) _⟩
        · have HW : Hid (winOrd l x = false) := by rw [Bool.eq_false_iff]; intro h; have := (winOrd_iff l x).1 h; omega
          have q1 : decide (x.fr < l.fr) = false := by simp; omega
          have q2 : (x.fr == l.fr) = false := by simp; omega
          go_quiet (fail)
          go_wp2_with fail
          go_meet
          exact ⟨by rw [← HOV.out, HO.out, HW.out], below_drewN (Below.refl _ _) _⟩
    case rest =>
      obtain ⟨rfl, hbc⟩ := hcut
      cases ov with
      | true =>
        have HX := Lib.hid (wins_stop HD.out HL.out (by rw [one_ordAt HRG.out hl' HOV.out]; decide))
        rw [one_ordAt HRG.out hl' HOV.out] at HX
        go_wp2_with fail
        go_ret
        exact ⟨ret_int (HR.out.trans HX.out).symm, hba.trans (hbc.mono hba.size)⟩
      | false =>
        have HRR := Lib.hid (one_restAt HRG.out hl' HOV.out)
        have hk0 : (0 : Int) ≤ (k : Int) := by omega
        have hkc : (k : Int) ≤ (c : Int) := by omega
        have hkc' : k ≤ c := by omega
        go_wp2_with fail
        go_loopw [8, 96] (fun _ ii wq => ∃ j : Nat, j ≤ k ∧ ii = .int .i64 j ∧ Below w1.heap.size w1 wq ∧ ∀ i v, i < j → xs[i]? = some v → winMeet v x = false) (fun _ ii _ => k - (intOf ii).toNat)
        case atStart => exact ⟨0, Nat.zero_le _, rfl, hbc, fun i v hi => absurd hi (by omega)⟩
        case round =>
          obtain ⟨j, hj, rfl, hbq, hno⟩ := hrel
          have HNO := Lib.hid hno
          clear hno
          by_cases hjk : j < k
          · obtain ⟨v, hv, _⟩ := drop_cons (xs := xs) (i := j) (by rw [← HM.out]; omega)
            obtain ⟨b', off', hA, _, _, e0, e1, e2⟩ := (hX.below (hba.trans (hbq.mono hba.size))).at_ hv
            obtain ⟨rfl, rfl⟩ : b = b' ∧ off = off' := by simpa using hA
            have j0 : wr.cell? ⟨bx, 0, none⟩ = some (.int .i64 x.peril) := (hbq.cell (p := ⟨bx, 0, none⟩) dz).trans d0
            have j1 : wr.cell? ⟨bx, 1, none⟩ = some (.int .i64 x.fr) := (hbq.cell (p := ⟨bx, 1, none⟩) dz).trans d1
            have j2 : wr.cell? ⟨bx, 2, none⟩ = some (.int .i64 x.to) := (hbq.cell (p := ⟨bx, 2, none⟩) dz).trans d2
            have jz : bx < wr.heap.size := Nat.lt_of_lt_of_le dz hbq.size
            have HV := Lib.hid hv
            clear hv hA
            by_cases hmt : winMeet v x = true
            · obtain ⟨f1, f2, f3⟩ := (winMeet_iff v x).1 hmt
              have he8 : oneE (xs.take k) x n = 8 := by rw [HRR.out, if_pos (any_take_succ HV.out hjk hmt)]
              have HX := Lib.hid (wins_stop HD.out HL.out (by rw [he8]; decide))
              rw [he8] at HX
              have q1 : (v.peril == x.peril) = true := by simpa using f1
              clear hmt f1 he8
              go_wp2_with fail
              go_ret
              exact ⟨ret_int (HR.out.trans HX.out).symm, hba.trans ((hbq.alloc hbq.size _).mono hba.size)⟩
            · have HX : Hid (∀ i u, i < j + 1 → xs[i]? = some u → winMeet u x = false) := by
                intro i u hi hu
                by_cases hij : i = j
                · rw [hij, HV.out] at hu; injection hu with hu; rw [← hu]; exact Bool.eq_false_iff.2 hmt
                · exact HNO.out i u (by omega) hu
              have hno : ¬ (v.peril = x.peril ∧ v.fr < x.to ∧ x.fr < v.to) := fun h => hmt ((winMeet_iff v x).2 h)
              clear hmt
              by_cases f1 : v.peril = x.peril
              · have q1 : (v.peril == x.peril) = true := by simpa using f1
                have hno' : ¬ (v.fr < x.to ∧ x.fr < v.to) := fun h => hno ⟨f1, h⟩
                clear hno f1
                by_cases f2 : v.fr < x.to
                · have f3 : ¬ x.fr < v.to := by omega
                  go_wp2_with fail
                  go_roundw
                  case rel => exact ⟨j + 1, by omega, by go_num, hbq.alloc hbq.size _, HX.out⟩
                  case measure => simp [intOf]; omega
                · go_wp2_with fail
                  go_roundw
                  case rel => exact ⟨j + 1, by omega, by go_num, hbq.alloc hbq.size _, HX.out⟩
                  case measure => simp [intOf]; omega
              · have q1 : (v.peril == x.peril) = false := by simpa using f1
                clear hno f1
                go_wp2_with fail
                go_roundw
                case rel => exact ⟨j + 1, by omega, by go_num, hbq.alloc hbq.size _, HX.out⟩
                case measure => simp [intOf]; omega
          · obtain rfl : j = k := by omega
            have he0 : oneE (xs.take j) x n = 0 := by rw [HRR.out, if_neg (by rw [any_take_false HNO.out]; simp)]
            have HX := Lib.hid (wins_next HXK.out HD.out HL.out he0)
            clear he0
            go_wp2_with fail
            go_roundw
            case rel => exact ⟨j + 1, by omega, by go_num, hba.trans (hbq.mono hba.size), HX.out⟩
            case measure => simp [intOf]; omega

end Go.Proofs.YtilkcailpkebdaaGreat

/-
  treatyref25.Evaluate: its contract.
-/
namespace Go.Proofs.YtilkcailpkebdaaGreat
open Go.RowKit
set_option linter.unusedVariables false

theorem ints_of_ownN {w : World} {base n c : Nat} {e : TypeId} {A : Option Addr} {xs : List Int} (h : w.ownsRow base e 1 (.slice A n c) n (xs.flatMap V1)) (hn : n = xs.length) : Ints w base A xs := by
  subst hn
  exact ints_of_own h
theorem recs_next {ts : List Int} {ls : List P2} {k : Nat} {t : Int} (h : ts[k]? = some t) : (recsF (ts.take k) ls).flatMap V1 ++ V1 (recVal t ls) = (recsF (ts.take (k + 1)) ls).flatMap V1 := by
  rw [List.take_add_one, h]; simp [recsF]
theorem heap_al2 (w : World) (r o : Obj) : ((w.alloc r).alloc o).heap[w.heap.size + 1]? = some o := by
  have h := heap_alloc_new (w.alloc r) o
  have e : (w.alloc r).heap.size = w.heap.size + 1 := by simp
  rw [e] at h; exact h

set_option maxRecDepth 100000 in
set_option maxHeartbeats 4000000 in
theorem revaluate_any (A : Option Addr) (c : Nat) (los : List Los) (M : Option Addr) (mc : Nat) (am : List Int) (B : Option Addr) (d : Nat) (ws : List Win) (n : Int) (E : Option Addr) (ec : Nat) (ls : List P2) (w : World)
    (hll : los.length ≤ 9223372036854775807) (hal : am.length ≤ 9223372036854775807) (hwl : ws.length ≤ 1000) (hwc : ws.length ≤ d) (hBn : B = none → d = 0) (hel : ls.length ≤ 1000) (hL : Losses w 0 A los) (hM : Ints w 0 M am) (hW : Wins w 0 B ws) (hE : Pairs w 0 E ls) :
    Calls Tryz.prog 41 #[.slice A los.length c, .slice M am.length mc, .slice B ws.length d, .int .i64 n, .slice E ls.length ec] w fun e w' => ∃ (W : Option Addr) (wc : Nat) (T : Option Addr) (tc : Nat) (R : Option Addr) (rc : Nat),
      e = .returned (.tuple #[.agg #[.slice W (evW los am ws n ls).length wc, .slice T (evT los am ws n ls).length tc, .slice R (evR los am ws n ls).length rc, .int .i64 (sumI (evR los am ws n ls))], .int .i64 (evalErr los am ws n ls)]) ∧
      Wins w' w.heap.size W (evW los am ws n ls) ∧ Ints w' w.heap.size T (evT los am ws n ls) ∧ Ints w' w.heap.size R (evR los am ws n ls) ∧ Below w.heap.size w w' := by
  have C1 : Hid (∀ W, Losses W 0 A los → Ints W 0 M am → _) := fun W h h' => rcheckE_any A c los M mc am W hll hal h h'
  have C2 : Hid (∀ (t : Int) W, Pairs W 0 E ls → _) := fun t W h => rrecovery_any t E ec ls W hel h
  have C3 : Hid (∀ W, Wins W 0 B ws → _) := fun W h => rwindows_any B d ws n W (by omega) hwc h
  have C4 : Hid (∀ W, Losses W 0 A los → Ints W 0 M am → Wins W 0 B ws → _) := fun W h h' h'' => rtotals_any A c los M mc am B d ws W hll hal hwl h h' h''
  obtain ⟨nl, hnl⟩ : ∃ k, k = los.length := ⟨_, rfl⟩
  obtain ⟨na, hna⟩ : ∃ k, k = am.length := ⟨_, rfl⟩
  obtain ⟨nw, hnw⟩ : ∃ k, k = ws.length := ⟨_, rfl⟩
  obtain ⟨ne, hne⟩ : ∃ k, k = ls.length := ⟨_, rfl⟩
  rw [← hnl, ← hna] at C1 C4
  rw [← hne] at C2
  rw [← hnw] at C3 C4
  rw [← hnl, ← hna, ← hnw, ← hne]
  have HNW := Lib.hid hnw
  clear hnl hna hnw hne hll hal hel
  obtain ⟨w0, hw0⟩ : ∃ w0 : World, w0 = w.alloc (.cells #[.slice none 0 0, .slice none 0 0, .slice none 0 0, .int .i64 0] 32) := ⟨_, rfl⟩
  have hb0 : Below w.heap.size w w0 := by rw [hw0]; exact below_alloc1 _ _
  have hh0 : w0.heap[w.heap.size]? = some (.cells #[.slice none 0 0, .slice none 0 0, .slice none 0 0, .int .i64 0] 32 (0, 0)) := by rw [hw0]; exact heap_alloc_new w _
  obtain ⟨br, hbr⟩ : ∃ br, br = w.heap.size := ⟨_, rfl⟩
  go_enter Tryz.func41, Tryz.ntmps41
  go_wp2_with fail
  rw [← hw0, ← hbr]
  rw [← hbr] at hh0
  have HBR := Lib.hid hbr
  have hz0 := lt_of_heap0 hh0
  clear hw0 hbr
  refine (C1.out _ (hL.below hb0) (hM.below hb0)).mono ?_
  rintro e w1 ⟨rfl, hb1⟩
  have hb01 := hb0.trans (hb1.mono hb0.size)
  have hh1 : w1.heap[br]? = some (.cells #[.slice none 0 0, .slice none 0 0, .slice none 0 0, .int .i64 0] 32 (0, 0)) := (hb1.block br hz0).trans hh0
  have hbrw : w.heap.size ≤ br := by rw [HBR.out]; exact Nat.le_refl _
  by_cases he1 : chkE los am = 0
  case neg =>
    have HE : Hid (evalErr los am ws n ls = chkE los am) := by unfold evalErr; rw [if_pos he1]; rfl
    have q : (chkE los am != 0) = true := by simpa using he1
    have HB := Lib.hid (ev_bad (los := los) (am := am) (ws := ws) (n := n) (ls := ls) (by rw [HE.out]; exact he1))
    clear he1
    have r0 : w1.cell? ⟨br, 0, none⟩ = some (.slice none 0 0) := by simp [World.cell?, hh1]
    have r1 : w1.cell? ⟨br, 1, none⟩ = some (.slice none 0 0) := by simp [World.cell?, hh1]
    have r2 : w1.cell? ⟨br, 2, none⟩ = some (.slice none 0 0) := by simp [World.cell?, hh1]
    have r3 : w1.cell? ⟨br, 3, none⟩ = some (.int .i64 0) := by simp [World.cell?, hh1]
    have s0 : w1.frozen? ⟨br, 0, none⟩ = false := by simp [World.frozen?, hh1]
    have s1 : w1.frozen? ⟨br, 1, none⟩ = false := by simp [World.frozen?, hh1]
    have s2 : w1.frozen? ⟨br, 2, none⟩ = false := by simp [World.frozen?, hh1]
    have s3 : w1.frozen? ⟨br, 3, none⟩ = false := by simp [World.frozen?, hh1]
    go_wp2_with fail
    refine bodyPost_ret (v := .tuple #[.agg #[.slice none 0 0, .slice none 0 0, .slice none 0 0, .int .i64 0], .int .i64 (chkE los am)]) (by simp [results, Tryz.results41, go_sem, r0, r1, r2, r3]) rfl ?_
    refine ⟨none, 0, none, 0, none, 0, by rw [HB.out.1, HB.out.2.1, HB.out.2.2, HE.out]; rfl, by rw [HB.out.1]; exact Sl.none_, by rw [HB.out.2.1]; exact Sl.none_, by rw [HB.out.2.2]; exact Sl.none_, ?_⟩
    exact (((hb01.setCell hbrw _).setCell hbrw _).setCell hbrw _).setCell hbrw _
  have HE1 := Lib.hid he1
  have q1 : (chkE los am != 0) = false := by rw [he1]; rfl
  have hT : totalsF los am ws = totF los am ws := by unfold totalsF; rw [if_pos he1]
  rw [hT, he1] at C4
  have hGE := goodE_of he1
  have HAMB := Lib.hid (fun a ha => (zip_amounts hGE.same hGE.all a ha).1)
  have HTB : Hid (∀ t ∈ totF los am ws, 0 ≤ t ∧ t ≤ 17592186044416) := by
    intro t ht
    have h1 := totF_bd (los := los) (ws := ws) HAMB.out t ht
    have h2 := hGE.sum
    omega
  clear he1 hT hGE hb0 hh0 hz0 hb1
  go_wp2_with fail
  refine (C2.out 0 _ (hE.below hb01)).mono ?_
  rintro e w2 ⟨rfl, hb2⟩
  have hb02 := hb01.trans (hb2.mono hb01.size)
  have hh2 : w2.heap[br]? = some (.cells #[.slice none 0 0, .slice none 0 0, .slice none 0 0, .int .i64 0] 32 (0, 0)) := (hb2.block br (lt_of_heap0 hh1)).trans hh1
  by_cases he2 : recErr 0 ls = 0
  case neg =>
    have HE : Hid (evalErr los am ws n ls = recErr 0 ls) := by unfold evalErr; rw [if_neg (by simpa using HE1.out), if_pos he2]; rfl
    have q : (recErr 0 ls != 0) = true := by simpa using he2
    have HB := Lib.hid (ev_bad (los := los) (am := am) (ws := ws) (n := n) (ls := ls) (by rw [HE.out]; exact he2))
    clear he2
    have r0 : w2.cell? ⟨br, 0, none⟩ = some (.slice none 0 0) := by simp [World.cell?, hh2]
    have r1 : w2.cell? ⟨br, 1, none⟩ = some (.slice none 0 0) := by simp [World.cell?, hh2]
    have r2 : w2.cell? ⟨br, 2, none⟩ = some (.slice none 0 0) := by simp [World.cell?, hh2]
    have r3 : w2.cell? ⟨br, 3, none⟩ = some (.int .i64 0) := by simp [World.cell?, hh2]
    have s0 : w2.frozen? ⟨br, 0, none⟩ = false := by simp [World.frozen?, hh2]
    have s1 : w2.frozen? ⟨br, 1, none⟩ = false := by simp [World.frozen?, hh2]
    have s2 : w2.frozen? ⟨br, 2, none⟩ = false := by simp [World.frozen?, hh2]
    have s3 : w2.frozen? ⟨br, 3, none⟩ = false := by simp [World.frozen?, hh2]
    go_wp2_with fail
    refine bodyPost_ret (v := .tuple #[.agg #[.slice none 0 0, .slice none 0 0, .slice none 0 0, .int .i64 0], .int .i64 (recErr 0 ls)]) (by simp [results, Tryz.results41, go_sem, r0, r1, r2, r3]) rfl ?_
    refine ⟨none, 0, none, 0, none, 0, by rw [HB.out.1, HB.out.2.1, HB.out.2.2, HE.out]; rfl, by rw [HB.out.1]; exact Sl.none_, by rw [HB.out.2.1]; exact Sl.none_, by rw [HB.out.2.2]; exact Sl.none_, ?_⟩
    exact (((hb02.setCell hbrw _).setCell hbrw _).setCell hbrw _).setCell hbrw _
  have HE2 := Lib.hid he2
  have q2 : (recErr 0 ls != 0) = false := by rw [he2]; rfl
  clear he2 hb2 hh1 hb01
  go_wp2_with fail
  refine (C3.out _ (hW.below hb02)).mono ?_
  rintro e w3 ⟨rfl, hb3⟩
  have hb03 := hb02.trans (hb3.mono hb02.size)
  have hh3 : w3.heap[br]? = some (.cells #[.slice none 0 0, .slice none 0 0, .slice none 0 0, .int .i64 0] 32 (0, 0)) := (hb3.block br (lt_of_heap0 hh2)).trans hh2
  by_cases he3 : winsE ws n = 0
  case neg =>
    have HE : Hid (evalErr los am ws n ls = winsE ws n) := by unfold evalErr; rw [if_neg (by simpa using HE1.out), if_neg (by simpa using HE2.out)]; rfl
    have q : (winsE ws n != 0) = true := by simpa using he3
    have HB := Lib.hid (ev_bad (los := los) (am := am) (ws := ws) (n := n) (ls := ls) (by rw [HE.out]; exact he3))
    clear he3
    have r0 : w3.cell? ⟨br, 0, none⟩ = some (.slice none 0 0) := by simp [World.cell?, hh3]
    have r1 : w3.cell? ⟨br, 1, none⟩ = some (.slice none 0 0) := by simp [World.cell?, hh3]
    have r2 : w3.cell? ⟨br, 2, none⟩ = some (.slice none 0 0) := by simp [World.cell?, hh3]
    have r3 : w3.cell? ⟨br, 3, none⟩ = some (.int .i64 0) := by simp [World.cell?, hh3]
    have s0 : w3.frozen? ⟨br, 0, none⟩ = false := by simp [World.frozen?, hh3]
    have s1 : w3.frozen? ⟨br, 1, none⟩ = false := by simp [World.frozen?, hh3]
    have s2 : w3.frozen? ⟨br, 2, none⟩ = false := by simp [World.frozen?, hh3]
    have s3 : w3.frozen? ⟨br, 3, none⟩ = false := by simp [World.frozen?, hh3]
    go_wp2_with fail
    refine bodyPost_ret (v := .tuple #[.agg #[.slice none 0 0, .slice none 0 0, .slice none 0 0, .int .i64 0], .int .i64 (winsE ws n)]) (by simp [results, Tryz.results41, go_sem, r0, r1, r2, r3]) rfl ?_
    refine ⟨none, 0, none, 0, none, 0, by rw [HB.out.1, HB.out.2.1, HB.out.2.2, HE.out]; rfl, by rw [HB.out.1]; exact Sl.none_, by rw [HB.out.2.1]; exact Sl.none_, by rw [HB.out.2.2]; exact Sl.none_, ?_⟩
    exact (((hb03.setCell hbrw _).setCell hbrw _).setCell hbrw _).setCell hbrw _
  have HEV := Lib.hid (ev_parts HE1.out HE2.out he3)
  have HOK := Lib.hid (ev_ok (los := los) (am := am) (ws := ws) (n := n) (ls := ls) HEV.out)
  have q3 : (winsE ws n != 0) = false := by rw [he3]; rfl
  have hw64 := winsE_len he3
  rw [← HNW.out] at hw64
  clear he3 hb3 hh2 hb02
  rw [totF_len, ← HNW.out] at C4
  have hbr3 := lt_of_heap0 hh3
  obtain ⟨i0, hi, hz0, hz1, hz2⟩ := info_parts Tryz.infoWindow
  have HW3 : Wins w3 0 B ws := hW.below hb03
  go_upto_region 10 with fail
  go_cut [16] (fun s16 wc => ∃ (bc : Nat) (v1 : Value), s16 = .pointer (some ⟨bc, 0, none⟩) ∧ wc.heap[bc]? = some (.cells #[v1, .slice none 0 0, .slice none 0 0, .int .i64 0] 32 (0, 0)) ∧ wc.ownsRow w3.heap.size 75 3 v1 nw (ws.flatMap Win.cells) ∧ Below w3.heap.size w3 wc ∧ w3.heap.size ≤ bc)
  case first =>
    rcases B with _ | ad
    · have hw : ws = [] := by
        cases hws : ws with
        | nil => rfl
        | cons x xs => rw [hws] at HW3; obtain ⟨b, off, e, _⟩ := HW3 (by simp); cases e
      obtain rfl : d = 0 := hBn rfl
      obtain rfl : nw = 0 := by rw [HNW.out, hw]; rfl
      have HWS := Lib.hid hw
      clear hw hBn
      go_wp2_with (at_builtin; refine wpList_append_own_none rfl (.tmp 44) (.tmp 45) 30 rfl w3.heap.size 75 i0 3 Tryz.underlying30 hi _ 0 [] rfl (own_void w3 75 3) rfl ?_)
      go_meet
      refine ⟨_, _, rfl, heap_al2 _ _ _, ?_, ?_, ?_⟩
      · rw [HWS.out]; exact own_below (own_void w3 75 3) (below_alloc1 _ _)
      · exact (below_alloc1 w3 _).alloc (by simp) _
      · simp
    · have hnews : ∀ (j : Nat) (u : Value), (ws.flatMap Win.cells)[j]? = some u → (w3.alloc (.cells #[] 75)).cell? (ad.add j) = some u := by
        intro j u hu
        have h0 : 0 < (ws.map Win.cells).length := by
          have := (List.getElem?_eq_some_iff.1 hu).1
          rw [flat_len Win.cells 3 (fun _ => rfl)] at this
          simp; omega
        obtain ⟨b, off, e, _⟩ := HW3 h0
        obtain rfl : ad = ⟨b, off, none⟩ := Option.some.inj e
        have hs : Sl (w3.alloc (.cells #[] 75)) 0 3 (some ⟨b, off, none⟩) (ws.map Win.cells) := Wins.below HW3 (below_alloc1 _ _)
        exact sl_cells (enc := Win.cells) (k := 3) (fun _ => rfl) (by omega) hs j u hu
      go_wp2_with (at_builtin; refine wpList_append_own _ rfl (.tmp 44) (.tmp 45) 30 rfl w3.heap.size 75 i0 _ 3 24 Tryz.underlying30 hi hz0 hz1 hz2 rfl (by decide) _ 0 [] rfl (own_void w3 75 3) ad nw d (ws.flatMap Win.cells) rfl ?c0 hnews ?c2 ?c3 ?c4 ?c5 ?_)
      case c0 => rw [flat_len Win.cells 3 (fun _ => rfl), ← HNW.out]
      case c2 =>
        intro u hu
        obtain ⟨x, _, hx⟩ := List.mem_flatMap.1 hu
        simp [Win.cells] at hx
        rcases hx with rfl | rfl | rfl <;> rfl
      case c3 => unfold maxLen; omega
      case c4 => omega
      case c5 => simp
      intro v' w5 hown5 hg5 _
      have hb45 : Below w3.heap.size w3 w5 := (below_alloc1 w3 _).grown hg5 (by simp) (fun g hg => by simp [Value.ownBlock] at hg; omega)
      clear hnews
      obtain ⟨V1, cV, rfl, _⟩ := own_shape hown5
      go_wp2_with fail
      go_meet
      exact ⟨_, _, rfl, heap_alloc_new _ _, own_below hown5 (below_alloc1 _ _), hb45.alloc (by have := hb45.size; omega) _, hb45.size⟩
  case rest =>
    obtain ⟨bc, v1, rfl, hhc, hownc, hb4, hbc⟩ := hcut
    have hb04 := hb03.trans (hb4.mono hb03.size)
    have hh4 := (hb4.block br hbr3).trans hh3
    have hs34 := hb4.size
    obtain ⟨W1, c1, rfl, _⟩ := own_shape hownc
    clear hb4 hh3 hb03 HW3 hi hz0 hz1 hz2
    go_wp2_with fail
    refine (C4.out _ (hL.below hb04) (hM.below hb04) (hW.below hb04)).mono ?_
    rintro e w5 ⟨G, g, rfl, hG, hb5⟩
    have hh5 := (hb5.block bc (lt_of_heap0 hhc)).trans hhc
    have hown5 := own_below hownc hb5
    have hb05 := hb04.trans (hb5.mono hb04.size)
    have hhr5 := (hb5.block br (lt_of_heap0 hh4)).trans hh4
    have hbrc : br < bc := by omega
    have hGlo : bc < wc.heap.size := lt_of_heap0 hhc
    have b1 : w5.cell? ⟨bc, 1, none⟩ = some (.slice none 0 0) := by simp [World.cell?, hh5]
    have f1 : w5.frozen? ⟨bc, 1, none⟩ = false := by simp [World.frozen?, hh5]
    obtain ⟨w6, hw6⟩ : ∃ w6 : World, w6 = w5.setCell ⟨bc, 1, none⟩ (.slice G nw g) := ⟨_, rfl⟩
    have hh6 : w6.heap[bc]? = some (.cells #[.slice W1 nw c1, .slice G nw g, .slice none 0 0, .int .i64 0] 32 (0, 0)) := by
      rw [hw6]; simp [World.setCell, Array.getElem?_modify, hh5]
    have k6 : w5.grownBy w6 (some bc) := by rw [hw6]; exact only_setCell (only_refl _ _) (.inl rfl) _
    have hown6 : w6.ownsRow w3.heap.size 75 3 (.slice W1 nw c1) nw (ws.flatMap Win.cells) := hown5.kept k6 (own_ne hown5 hh5 (by decide))
    have hG6 : Ints w6 wc.heap.size G (totF los am ws) := hG.grown k6 (fun g' e => by injection e with e; omega)
    have hb06 : Below w.heap.size w w6 := hb05.grown k6 hb05.size (fun g' e => by injection e with e; omega)
    have hhr6 := (k6.block br (lt_of_heap0 hhr5) (by intro e; injection e with e; omega)).trans hhr5
    have a1 : w6.cell? ⟨bc, 1, none⟩ = some (.slice G nw g) := by simp [World.cell?, hh6]
    clear hhc hownc hb04 hh4 hb5 hG hown5 hb05 hhr5 k6
    have HH5 := Lib.hid hh5
    clear hh5 C1 C3 C4
    have hLT : Hid ((totF los am ws).length = nw) := by rw [totF_len]; exact HNW.out.symm
    go_upto_region 12 with fail
    rw [← hw6]
    clear hw6
    go_wp2_with fail
    obtain ⟨j0, ji, jz0, jz1, jz2⟩ := info_parts Tryz.infoInt
    have hbc6 : bc < w6.heap.size := lt_of_heap0 hh6
    go_loopw [18, 19, 20, 59] (fun _ _ _ ii wr => ∃ (i : Nat) (v : Value) (acc : Int), i ≤ nw ∧ ii = .int .i64 i ∧ wr.heap[bc]? = some (.cells #[.slice W1 nw c1, .slice G nw g, v, .int .i64 acc] 32 (0, 0)) ∧ wr.ownsRow w6.heap.size 3 1 v i ((recsF ((totF los am ws).take i) ls).flatMap V1) ∧ w6.grownBy wr (some bc) ∧ 0 ≤ acc ∧ acc ≤ 281474976710656 * i ∧ acc + sumI (recsF ((totF los am ws).drop i) ls) = sumI (recsF (totF los am ws) ls)) (fun _ _ _ ii _ => nw - (intOf ii).toNat)
    case atStart => exact ⟨0, _, 0, Nat.zero_le _, rfl, hh6, own_nil _ _ _ _, only_refl _ _, by omega, by omega, by simp⟩
    case round =>
      obtain ⟨i, v, acc, hi, rfl, hh, hown, hgr, ha0, ha1, hS⟩ := hrel
      have HS := Lib.hid hS
      have HH6 := Lib.hid hh6
      clear hS hh6
      obtain ⟨V, vc, rfl, _⟩ := own_shape hown
      have hb0r : Below w.heap.size w wr := hb06.grown hgr hb06.size (fun g' e => by injection e with e; omega)
      by_cases hin : i < nw
      case neg =>
        obtain rfl : i = nw := by omega
        have hhr : wr.heap[br]? = some (.cells #[.slice none 0 0, .slice none 0 0, .slice none 0 0, .int .i64 0] 32 (0, 0)) := (hgr.block br (lt_of_heap0 hhr6) (by intro e; injection e with e; omega)).trans hhr6
        have b0 : wr.cell? ⟨bc, 0, none⟩ = some (.slice W1 i c1) := by simp [World.cell?, hh]
        have b1 : wr.cell? ⟨bc, 1, none⟩ = some (.slice G i g) := by simp [World.cell?, hh]
        have b2 : wr.cell? ⟨bc, 2, none⟩ = some (.slice V i vc) := by simp [World.cell?, hh]
        have b3 : wr.cell? ⟨bc, 3, none⟩ = some (.int .i64 acc) := by simp [World.cell?, hh]
        have r0 : wr.cell? ⟨br, 0, none⟩ = some (.slice none 0 0) := by simp [World.cell?, hhr]
        have r1 : wr.cell? ⟨br, 1, none⟩ = some (.slice none 0 0) := by simp [World.cell?, hhr]
        have r2 : wr.cell? ⟨br, 2, none⟩ = some (.slice none 0 0) := by simp [World.cell?, hhr]
        have r3 : wr.cell? ⟨br, 3, none⟩ = some (.int .i64 0) := by simp [World.cell?, hhr]
        have s0 : wr.frozen? ⟨br, 0, none⟩ = false := by simp [World.frozen?, hhr]
        have s1 : wr.frozen? ⟨br, 1, none⟩ = false := by simp [World.frozen?, hhr]
        have s2 : wr.frozen? ⟨br, 2, none⟩ = false := by simp [World.frozen?, hhr]
        have s3 : wr.frozen? ⟨br, 3, none⟩ = false := by simp [World.frozen?, hhr]
        have HACC : Hid (acc = sumI (recsF (totF los am ws) ls)) := by
          have h := HS.out
          rw [List.drop_of_length_le (by rw [hLT.out]; exact Nat.le_refl _)] at h
          simp [recsF, sumI] at h
          show acc = _
          rw [h]; rfl
        have hWr : wr.ownsRow w3.heap.size 75 3 (.slice W1 i c1) i (ws.flatMap Win.cells) := hown6.kept hgr (own_ne hown6 HH6.out (by decide))
        have hGr : Ints wr wc.heap.size G (totF los am ws) := hG6.grown hgr (fun g' e => by injection e with e; omega)
        rw [List.take_of_length_le (by rw [hLT.out]; exact Nat.le_refl _)] at hown
        clear hhr6 hown6 hG6
        go_wp2_with fail
        refine bodyPost_ret (v := .tuple #[.agg #[.slice W1 i c1, .slice G i g, .slice V i vc, .int .i64 acc], .int .i64 0]) (by simp [results, Tryz.results41, go_sem, r0, r1, r2, r3]) rfl ?_
        have k1 : wr.grownBy (wr.setCell ⟨br, 0, none⟩ (.slice W1 i c1)) (some br) := only_setCell (only_refl _ _) (.inl rfl) _
        have k2 := only_setCell k1 (p := ⟨br, 1, none⟩) (.inl rfl) (.slice G i g)
        have k3 := only_setCell k2 (p := ⟨br, 2, none⟩) (.inl rfl) (.slice V i vc)
        have k4 := only_setCell k3 (p := ⟨br, 3, none⟩) (.inl rfl) (.int .i64 acc)
        have hLR : (recsF (totF los am ws) ls).length = i := by unfold recsF; rw [List.length_map]; exact hLT.out
        refine ⟨W1, c1, G, g, V, vc, ?_, ?_, ?_, ?_, ?_⟩
        · rw [HOK.out.1, HOK.out.2.1, HOK.out.2.2, HEV.out, ← HACC.out]
          rw [hLR, hLT.out, ← HNW.out]
        · rw [HOK.out.1]
          have ho := hWr.kept k4 (own_far hWr hbr3)
          exact Sl.low (wins_of_ownE ho HNW.out) (by omega)
        · rw [HOK.out.2.1]
          exact (hGr.grown k4 (fun g' e => by injection e with e; omega)).low (by omega)
        · rw [HOK.out.2.2]
          have ho := hown.kept k4 (own_far hown (by omega))
          exact (ints_of_ownN ho hLR.symm).low hb06.size
        · exact (((hb0r.setCell hbrw _).setCell hbrw _).setCell hbrw _).setCell hbrw _
      obtain ⟨t, ht, hdt⟩ := drop_cons (xs := totF los am ws) (i := i) (by rw [hLT.out]; exact hin)
      have htb := HTB.out t (List.mem_of_getElem? ht)
      have hrk := recErr_ok HE2.out
      have hrv := recVal_bd t ls
      obtain ⟨gb, goff, rfl, hglo, hgl, t0⟩ := (hG6.grown hgr (fun g' e => by injection e with e; omega)).at_ ht
      have HDT := Lib.hid hdt
      have HT := Lib.hid ht
      clear ht hdt hrk
      go_wp2_with fail
      refine (C2.out t _ (hE.below hb0r)).mono ?_
      rintro e w7 ⟨rfl, hb7⟩
      have hh7 := (hb7.block bc (lt_of_heap0 hh)).trans hh
      have hown7 := own_below hown hb7
      have hgr7 := only_below hgr hb7
      have b2 : w7.cell? ⟨bc, 2, none⟩ = some (.slice V i vc) := by simp [World.cell?, hh7]
      have b3 : w7.cell? ⟨bc, 3, none⟩ = some (.int .i64 acc) := by simp [World.cell?, hh7]
      have f2 : w7.frozen? ⟨bc, 2, none⟩ = false := by simp [World.frozen?, hh7]
      have f3 : w7.frozen? ⟨bc, 3, none⟩ = false := by simp [World.frozen?, hh7]
      clear hh hown hgr hb7 hb0r
      have hn0 := own_far hown7 hbc6
      go_wp2_with (at_builtin; refine wpList_append_own _ rfl (.tmp 70) (.tmp 72) 23 rfl w6.heap.size 3 j0 _ 1 8 Tryz.underlying23 ji jz0 jz1 jz2 rfl (by decide) _ i _ rfl (own_below hown7 (below_alloc1 w7 _)) ⟨w7.heap.size, 0, none⟩ 1 1 (V1 (recVal t ls)) rfl rfl ?c1 ?c2 ?c3 ?c4 ?c5 ?_)
      case c1 => exact cell_new w7 (V1 (recVal t ls)) 3
      case c2 => intro u hu; simp [V1] at hu; rw [hu]; rfl
      case c3 => unfold maxLen; omega
      case c4 => omega
      case c5 => have := hgr7.size; simp; omega
      intro v' w8 hown8 hg8 _
      rw [recs_next HT.out] at hown8
      have hh8 : w8.heap[bc]? = some (.cells #[.slice W1 nw c1, .slice (some ⟨gb, goff, none⟩) nw g, .slice V i vc, .int .i64 acc] 32 (0, 0)) :=
        (hg8.block bc (by have := lt_of_heap0 hh7; simp; omega) (by rcases hn0 with h | h <;> intro e <;> simp_all)).trans ((Below.heap_alloc _ _ _ (lt_of_heap0 hh7)).trans hh7)
      have hgr8 : w6.grownBy w8 (some bc) := only_grown (only_alloc hgr7 _) hg8 (fun g' e => own_low hown7 g' e)
      obtain ⟨V', vc', rfl, _⟩ := own_shape hown8
      have b2' : w8.cell? ⟨bc, 2, none⟩ = some (.slice V i vc) := by simp [World.cell?, hh8]
      have b3' : w8.cell? ⟨bc, 3, none⟩ = some (.int .i64 acc) := by simp [World.cell?, hh8]
      have f2' : w8.frozen? ⟨bc, 2, none⟩ = false := by simp [World.frozen?, hh8]
      have f3' : w8.frozen? ⟨bc, 3, none⟩ = false := by simp [World.frozen?, hh8]
      clear hown7 hgr7 hg8 hh7 b2 b3 f2 f3 hn0
      go_wp2_with fail
      go_roundw
      case rel =>
        refine ⟨i + 1, .slice V' (i + 1) vc', acc + recVal t ls, by omega, by go_num, ?_, ?_, ?_, by omega, by omega, sumR_next HDT.out HS.out⟩
        · simp [World.setCell, Array.getElem?_modify, hh8]
        · have k1 : w8.grownBy (w8.setCell ⟨bc, 2, none⟩ (.slice V' (i + 1) vc')) (some bc) := only_setCell (only_refl _ _) (.inl rfl) _
          exact hown8.kept (only_setCell k1 (p := ⟨bc, 3, none⟩) (.inl rfl) (.int .i64 (acc + recVal t ls))) (own_far hown8 hbc6)
        · exact only_setCell (only_setCell hgr8 (.inl rfl) _) (.inl rfl) _
      case measure => simp [intOf]; omega

end Go.Proofs.YtilkcailpkebdaaGreat

/-
  The reference's search for the end of a span, in plain Lean.
-/
namespace Go.Proofs.YtilkcailpkebdaaGreat
open Go.RowKit

def Hit (L : Int) (ls ps : List P2) (i : Nat) (h0 : Int) (y : Nat) : Prop :=
  ∃ q, ps[y]? = some q ∧ q.a - h0 < L ∧ recVal (sumT ps i (y - i + 1)) ls + valAt L ls ps (y + 1) = valAt L ls ps i

theorem findJ_hits {L : Int} {ls ps : List P2} {i : Nat} {h0 : Int} {j0 : Nat} : ∀ (k j : Nat), k = ps.length - j → i ≤ j →
    findJ L ls h0 (valAt L ls ps i) (ps.drop j) (valsF L ls (ps.drop (j + 1))) (sumT ps i (j - i)) j = some j0 → Hit L ls ps i h0 j0 ∧ j ≤ j0 ∧ ∀ y, j ≤ y → y < j0 → ¬ Hit L ls ps i h0 y := by
  intro k
  induction k with
  | zero =>
    intro j hk hij h
    rw [List.drop_eq_nil_of_le (by omega), findJ_nil] at h
    cases h
  | succ k ih =>
    intro j hk hij h
    obtain ⟨q, hq, hd⟩ := drop_cons (xs := ps) (i := j) (by omega)
    have hs := sumT_snoc hij hq
    by_cases hle : L ≤ q.a - h0
    · have := findJ_far hd h hle; cases this
    by_cases he : recVal (sumT ps i (j - i) + q.b) ls + valAt L ls ps (j + 1) = valAt L ls ps i
    · have := findJ_hit hd h (by omega) he
      injection this with hj
      subst hj
      exact ⟨⟨q, hq, by omega, by rw [hs]; exact he⟩, Nat.le_refl _, fun y h1 h2 => absurd h2 (by omega)⟩
    · have hst := findJ_step hd h (by omega) he
      have hs' : sumT ps i (j + 1 - i) = sumT ps i (j - i) + q.b := by rw [show j + 1 - i = j - i + 1 by omega]; exact hs
      rw [← hs'] at hst
      obtain ⟨g1, g2, g3⟩ := ih (j + 1) (by omega) (by omega) hst
      refine ⟨g1, by omega, fun y h1 h2 hy => ?_⟩
      by_cases hyj : y = j
      · subst hyj
        obtain ⟨q', hq', _, hr⟩ := hy
        rw [hq] at hq'
        injection hq' with hq'
        subst hq'
        rw [hs] at hr
        exact he hr
      · exact g3 y (by omega) h2 hy
theorem findAt_hits {L : Int} {ls ps : List P2} {i j0 : Nat} {h0 : Int} (h : findAt L ls ps i h0 = some j0) : Hit L ls ps i h0 j0 ∧ i ≤ j0 ∧ ∀ y, i ≤ y → y < j0 → ¬ Hit L ls ps i h0 y :=
  findJ_hits (ps.length - i) i rfl (Nat.le_refl _) (by rw [Nat.sub_self, sumT_zero]; exact h)

/-- Behind the indexes from k on: the end of the first hit among them, or the length. -/
def NextIs (L : Int) (ls ps : List P2) (i : Nat) (h0 : Int) (k nx : Nat) : Prop :=
  (nx = ps.length ∧ ∀ y, k ≤ y → ¬ Hit L ls ps i h0 y) ∨ ∃ x, nx = x + 1 ∧ k ≤ x ∧ Hit L ls ps i h0 x ∧ ∀ y, k ≤ y → y < x → ¬ Hit L ls ps i h0 y
theorem NextIs.start {L : Int} {ls ps : List P2} {i : Nat} {h0 : Int} : NextIs L ls ps i h0 ps.length ps.length :=
  .inl ⟨rfl, fun y hy h => by obtain ⟨q, hq, _⟩ := h; have := (List.getElem?_eq_some_iff.1 hq).1; omega⟩
theorem NextIs.yes {L : Int} {ls ps : List P2} {i k : Nat} {h0 : Int} (h : Hit L ls ps i h0 k) : NextIs L ls ps i h0 k (k + 1) :=
  .inr ⟨k, rfl, Nat.le_refl _, h, fun y h1 h2 => absurd h2 (by omega)⟩
theorem NextIs.no {L : Int} {ls ps : List P2} {i k nx : Nat} {h0 : Int} (hn : NextIs L ls ps i h0 (k + 1) nx) (h : ¬ Hit L ls ps i h0 k) : NextIs L ls ps i h0 k nx := by
  rcases hn with ⟨e, hn⟩ | ⟨x, e, hx, hh, hn⟩
  · refine .inl ⟨e, fun y hy => ?_⟩
    by_cases hyk : y = k
    · rw [hyk]; exact h
    · exact hn y (by omega)
  · refine .inr ⟨x, e, by omega, hh, fun y hy hyx => ?_⟩
    by_cases hyk : y = k
    · rw [hyk]; exact h
    · exact hn y (by omega) hyx
theorem NextIs.find {L : Int} {ls ps : List P2} {i nx j0 : Nat} {h0 : Int} (hn : NextIs L ls ps i h0 i nx) (h : findAt L ls ps i h0 = some j0) : nx = j0 + 1 := by
  obtain ⟨g1, g2, g3⟩ := findAt_hits h
  rcases hn with ⟨_, hn⟩ | ⟨x, e, hx, hh, hn⟩
  · exact absurd g1 (hn j0 g2)
  · rcases Nat.lt_trichotomy x j0 with hlt | heq | hgt
    · exact absurd hh (g3 x hx hlt)
    · rw [e, heq]
    · exact absurd g1 (hn j0 g2 hgt)
theorem hit_iff {L : Int} {ls ps : List P2} {i j : Nat} {h0 : Int} {q : P2} (hq : ps[j]? = some q) : Hit L ls ps i h0 j ↔ q.a - h0 < L ∧ recVal (sumT ps i (j - i + 1)) ls + valAt L ls ps (j + 1) = valAt L ls ps i := by
  constructor
  · rintro ⟨q', hq', h1, h2⟩
    rw [hq] at hq'
    injection hq' with hq'
    subst hq'
    exact ⟨h1, h2⟩
  · rintro ⟨h1, h2⟩
    exact ⟨q, hq, h1, h2⟩

end Go.Proofs.YtilkcailpkebdaaGreat

/-
  treatyref25.checked: its contract.
-/
namespace Go.Proofs.YtilkcailpkebdaaGreat
open Go.RowKit

set_option maxHeartbeats 1000000 in
theorem rcheck_any (A : Option Addr) (c : Nat) (ps : List P2) (L : Int) (B : Option Addr) (d : Nat) (ls : List P2) (w : World) (hps : ps.length ≤ 1000) (hls : ls.length ≤ 1000) (hp : Pairs w 0 A ps) (hl : Pairs w 0 B ls) :
    Calls Tryz.prog 69 #[.slice A ps.length c, .int .i64 L, .slice B ls.length d] w fun e w' => e = .returned (.int .i64 (chkErr ps L ls)) ∧ Below w.heap.size w w' := by
  have CR := Lib.hid (rrecovery_any 0 B d ls)
  obtain ⟨n, hn⟩ : ∃ n, n = ps.length := ⟨_, rfl⟩
  obtain ⟨m, hm⟩ : ∃ m, m = ls.length := ⟨_, rfl⟩
  rw [← hm] at CR
  rw [← hn, ← hm]
  have HN := Lib.hid hn
  have HM := Lib.hid hm
  by_cases he : recErr 0 ls = 0
  · have HE := Lib.hid he
    have q0 : (recErr 0 ls != 0) = false := by rw [he]; rfl
    clear he
    by_cases hL : L < 1 ∨ 8784 < L
    · have HR : Hid (chkErr ps L ls = 1) := by
        unfold chkErr; rw [if_neg (by rw [HE.out]; simp), if_pos hL]; rfl
      clear hn hm
      by_cases h1 : L < 1
      · go_enter Tryz.func69, Tryz.ntmps69
        go_wp2_with (go_at_call 64; refine (CR.out _ (by rw [← HM.out] at hls; exact hls) hl).mono ?_; rintro e w1 ⟨rfl, hb1⟩)
        go_ret
        exact ⟨ret_int HR.out.symm, hb1⟩
      · have h2 : 8784 < L := by omega
        clear hL
        go_enter Tryz.func69, Tryz.ntmps69
        go_wp2_with (go_at_call 64; refine (CR.out _ (by rw [← HM.out] at hls; exact hls) hl).mono ?_; rintro e w1 ⟨rfl, hb1⟩)
        go_ret
        exact ⟨ret_int HR.out.symm, hb1⟩
    have HL := Lib.hid hL
    have hL1 : 1 ≤ L := by omega
    have hL2 : L ≤ 8784 := by omega
    clear hL
    by_cases h64 : 64 < ps.length
    · have HR : Hid (chkErr ps L ls = 4) := by
        unfold chkErr; rw [if_neg (by rw [HE.out]; simp), if_neg HL.out, if_pos h64]; rfl
      have h64' : 64 < n := by omega
      clear hn hm h64
      go_enter Tryz.func69, Tryz.ntmps69
      go_wp2_with (go_at_call 64; refine (CR.out _ (by rw [← HM.out] at hls; exact hls) hl).mono ?_; rintro e w1 ⟨rfl, hb1⟩)
      go_ret
      exact ⟨ret_int HR.out.symm, hb1⟩
    have HR : Hid (chkErr ps L ls = chkLoop none ps 0) := by
      unfold chkErr; rw [if_neg (by rw [HE.out]; simp), if_neg HL.out, if_neg h64]; rfl
    have h64' : n ≤ 64 := by omega
    have g64 : decide (64 < (n : Int)) = false := by simp; omega
    clear hn hm h64
    go_enter Tryz.func69, Tryz.ntmps69
    go_wp2_with (go_at_call 64; refine (CR.out _ (by rw [← HM.out] at hls; exact hls) hl).mono ?_; rintro e w1 ⟨rfl, hb1⟩)
    go_loopw [9, 10, 11, 31] (fun s _ _ i wr => ∃ (k : Nat) (acc : Int), k ≤ n ∧ i = .int .i64 k ∧ s = .int .i64 acc ∧ 0 ≤ acc ∧ acc ≤ 17592186044416 * k ∧ Below w.heap.size w wr ∧ chkLoop (hourBefore ps k) (ps.drop k) acc = chkLoop none ps 0) (fun _ _ _ i _ => n - (intOf i).toNat)
    case atStart => exact ⟨0, 0, Nat.zero_le _, rfl, rfl, by omega, by omega, hb1, rfl⟩
    case round =>
      obtain ⟨k, acc, hk, rfl, rfl, ha0, ha1, hb, hck⟩ := hrel
      have HC := Lib.hid hck
      clear hck
      by_cases hlt : k < n
      · obtain ⟨p, hpk, hd⟩ := drop_cons (xs := ps) (i := k) (by rw [← HN.out]; exact hlt)
        obtain ⟨b, off, rfl, _, hbl, c0, c1⟩ := (hp.below hb).at_ hpk
        have HD := Lib.hid hd
        clear hd hpk
        by_cases hok : ptOk p = true
        · obtain ⟨g1, g2, g3, g4⟩ := (ptOk_iff p).1 hok
          have HO := Lib.hid hok
          have hv : inHoursB p.a = true := by simp [inHoursB]; omega
          clear hok
          by_cases hk0 : k < 1
          · have hd0 : decide (0 < k) = false := by simp; omega
            go_wp2_with (go_at_call 87; refine (inHours_any _ _).mono ?_; rintro e w' ⟨rfl, rfl⟩)
            go_quiet (fail)
            go_wp2_with fail
            go_roundw
            case rel => exact ⟨k + 1, acc + p.b, by omega, by go_num, rfl, by omega, by omega, below_drewN (hb.alloc hb.size _) _, chk_next0 HD.out HC.out HO.out hk0⟩
            case measure => simp [intOf]; omega
          · have hd0 : decide (0 < k) = true := by simp; omega
            obtain ⟨q, hq⟩ : ∃ q, ps[k - 1]? = some q := ⟨_, List.getElem?_eq_getElem (by rw [← HN.out]; omega)⟩
            obtain ⟨b', off', hA, _, _, x0, _⟩ := (hp.below hb).at_ hq
            obtain ⟨rfl, rfl⟩ : b = b' ∧ off = off' := by simpa using hA
            have HQ := Lib.hid hq
            clear hq hA
            by_cases hle : p.a ≤ q.a
            · have HF := Lib.hid (chk_order HD.out HC.out HO.out (by omega) HQ.out hle)
              go_wp2_with (go_at_call 87; refine (inHours_any _ _).mono ?_; rintro e w' ⟨rfl, rfl⟩)
              go_quiet (fail)
              go_wp2_with fail
              go_ret
              exact ⟨ret_int (HR.out.trans HF.out).symm, below_drewN (hb.alloc hb.size _) _⟩
            · have hle' : decide (p.a ≤ q.a) = false := by simpa using hle
              go_wp2_with (go_at_call 87; refine (inHours_any _ _).mono ?_; rintro e w' ⟨rfl, rfl⟩)
              go_quiet (fail)
              go_wp2_with fail
              go_roundw
              case rel => exact ⟨k + 1, acc + p.b, by omega, by go_num, rfl, by omega, by omega, below_drewN (hb.alloc hb.size _) _, chk_next HD.out HC.out HO.out (by omega) HQ.out (by omega)⟩
              case measure => simp [intOf]; omega
        · have HF := Lib.hid (chk_bad HD.out HC.out (Bool.eq_false_iff.2 hok))
          have hno : ¬ (0 ≤ p.a ∧ p.a ≤ 876599 ∧ 0 ≤ p.b ∧ p.b ≤ 17592186044416) := fun h => hok ((ptOk_iff p).2 h)
          clear hok
          by_cases h3 : 0 ≤ p.a ∧ p.a ≤ 876599
          · have hv : inHoursB p.a = true := by simp [inHoursB]; omega
            have hno' : ¬ (0 ≤ p.b ∧ p.b ≤ 17592186044416) := by omega
            clear hno h3
            go_wp2_with (go_at_call 87; refine (inHours_any _ _).mono ?_; rintro e w' ⟨rfl, rfl⟩)
            all_goals first | (exfalso; omega) | (go_ret; exact ⟨ret_int (HR.out.trans HF.out).symm, hb.alloc hb.size _⟩)
          · have hv : inHoursB p.a = false := by simp [inHoursB]; omega
            clear hno h3
            go_wp2_with (go_at_call 87; refine (inHours_any _ _).mono ?_; rintro e w' ⟨rfl, rfl⟩)
            go_ret
            exact ⟨ret_int (HR.out.trans HF.out).symm, hb.alloc hb.size _⟩
      · obtain rfl : k = n := by omega
        have HC' := HC.out
        rw [HN.out] at HC'
        have HF := Lib.hid (chk_end HC')
        clear HC' HC
        by_cases hov : 17592186044416 < acc
        · go_wp2_with fail
          go_ret
          exact ⟨ret_int (by rw [HR.out, HF.out, if_pos hov]), hb⟩
        · go_wp2_with fail
          go_ret
          exact ⟨ret_int (by rw [HR.out, HF.out, if_neg (by omega)]), hb⟩
  · have HR : Hid (chkErr ps L ls = recErr 0 ls) := by
      unfold chkErr; rw [if_pos he]; rfl
    have q0 : (recErr 0 ls != 0) = true := by simpa using he
    clear hn hm he
    go_enter Tryz.func69, Tryz.ntmps69
    go_wp2_with (go_at_call 64; refine (CR.out _ (by rw [← HM.out] at hls; exact hls) hl).mono ?_; rintro e w1 ⟨rfl, hb1⟩)
    go_ret
    exact ⟨ret_int HR.out.symm, hb1⟩

end Go.Proofs.YtilkcailpkebdaaGreat

/-
  treatyref25.Span: its contract, for two indexes in range and in order, of points that are accepted.
-/
namespace Go.Proofs.YtilkcailpkebdaaGreat
open Go.RowKit
set_option linter.unusedVariables false

set_option maxHeartbeats 1000000 in
theorem span_no (A : Option Addr) (c : Nat) (ps : List P2) (L : Int) (B : Option Addr) (d : Nat) (ls : List P2) (w : World) (hp : Pairs w 0 A ps) (hlen : ps.length ≤ 1000) (hok : ∀ p ∈ ps, ptOk p = true)
    (i j : Nat) (p q : P2) (hi : ps[i]? = some p) (hj : ps[j]? = some q) (hij : i ≤ j) (hL : L ≤ q.a - p.a) :
    Calls Tryz.prog 66 #[.slice A ps.length c, .int .i64 L, .slice B ls.length d, .int .i64 i, .int .i64 j] w fun e w' => e = .returned (.tuple #[.int .i64 0, .bool false]) ∧ Below w.heap.size w w' := by
  obtain ⟨n, hn⟩ : ∃ n, n = ps.length := ⟨_, rfl⟩
  have hjn : j < n := by rw [hn]; exact (List.getElem?_eq_some_iff.1 hj).1
  have h1 := (ptOk_iff p).1 (hok p (List.mem_of_getElem? hi))
  have h2 := (ptOk_iff q).1 (hok q (List.mem_of_getElem? hj))
  obtain ⟨b, off, rfl, _, _, x0, _⟩ := hp.at_ hi
  obtain ⟨b', off', hA, _, _, y0, _⟩ := hp.at_ hj
  obtain ⟨rfl, rfl⟩ : b = b' ∧ off = off' := by simpa using hA
  rw [← hn] at hlen ⊢
  clear hn hi hj hp hok hA
  have e1 : decide ((i : Int) < 0) = false := by simp
  have e2 : decide (j < i) = false := by simp; omega
  have e3 : decide (n ≤ j) = false := by simp; omega
  go_enter Tryz.func66, Tryz.ntmps66
  go_wp2_with fail
  go_quiet (fail)
  go_wp2_with fail
  go_ret2
  exact ⟨rfl, below_drewN (Below.refl _ _) _⟩

set_option maxHeartbeats 1000000 in
theorem span_yes (A : Option Addr) (c : Nat) (ps : List P2) (L : Int) (B : Option Addr) (d : Nat) (ls : List P2) (w : World) (hp : Pairs w 0 A ps) (hl : Pairs w 0 B ls) (hlen : ps.length ≤ 1000) (hls : ls.length ≤ 1000) (hok : ∀ p ∈ ps, ptOk p = true) (hsum : sumB ps ≤ 17592186044416)
    (i j : Nat) (p q : P2) (hi : ps[i]? = some p) (hj : ps[j]? = some q) (hij : i ≤ j) (hL : q.a - p.a < L) :
    Calls Tryz.prog 66 #[.slice A ps.length c, .int .i64 L, .slice B ls.length d, .int .i64 i, .int .i64 j] w fun e w' => e = .returned (.tuple #[.int .i64 (recVal (sumT ps i (j - i + 1)) ls), .bool true]) ∧ Below w.heap.size w w' := by
  obtain ⟨n, hn⟩ : ∃ n, n = ps.length := ⟨_, rfl⟩
  obtain ⟨m, hm⟩ : ∃ m, m = ls.length := ⟨_, rfl⟩
  have CR : Hid (∀ (t : Int) (W : World), Pairs W 0 B ls → Calls Tryz.prog 64 #[.int .i64 t, .slice B m d] W fun e w' => e = .returned (.tuple #[.int .i64 (recVal t ls), .int .i64 (recErr t ls)]) ∧ Below W.heap.size W w') := by
    intro t W h; rw [hm]; exact rrecovery_any t B d ls W hls h
  have hjn : j < n := by rw [hn]; exact (List.getElem?_eq_some_iff.1 hj).1
  have h1 := (ptOk_iff p).1 (hok p (List.mem_of_getElem? hi))
  have h2 := (ptOk_iff q).1 (hok q (List.mem_of_getElem? hj))
  obtain ⟨b, off, rfl, _, _, x0, _⟩ := hp.at_ hi
  obtain ⟨b', off', hA, _, _, y0, _⟩ := hp.at_ hj
  obtain ⟨rfl, rfl⟩ : b = b' ∧ off = off' := by simpa using hA
  have HN := Lib.hid hn
  have HS := Lib.hid hsum
  rw [← hn] at hlen ⊢
  rw [← hm]
  clear hn hm hi hj hA hls hsum
  have HOK := Lib.hid hok
  clear hok
  have e1 : decide ((i : Int) < 0) = false := by simp
  have e2 : decide (j < i) = false := by simp; omega
  have e3 : decide (n ≤ j) = false := by simp; omega
  have e4 : decide (L ≤ q.a - p.a) = false := by simp; omega
  go_enter Tryz.func66, Tryz.ntmps66
  go_wp2_with fail
  go_quiet (fail)
  go_wp2_with fail
  clear x0 y0
  go_loop [12, 13] (fun s kk => ∃ (k : Nat) (acc : Int), i ≤ k ∧ k ≤ j + 1 ∧ kk = .int .i64 k ∧ s = .int .i64 acc ∧ acc = sumT ps i (k - i)) (fun _ kk => j + 1 - (intOf kk).toNat)
  case atStart => exact ⟨i, 0, Nat.le_refl _, by omega, rfl, rfl, by rw [Nat.sub_self, sumT_zero]⟩
  case round =>
    obtain ⟨k, acc, hk1, hk2, rfl, rfl, hacc⟩ := hrel
    have HA := Lib.hid hacc
    have hab := sumT_bd HOK.out i (k - i)
    rw [← hacc] at hab
    have hs := HS.out
    clear hacc
    by_cases hkj : k ≤ j
    · obtain ⟨u, hu, hd⟩ := drop_cons (xs := ps) (i := k) (by rw [← HN.out]; omega)
      obtain ⟨b', off', hA', _, _, _, z1⟩ := hp.at_ hu
      obtain ⟨rfl, rfl⟩ : b = b' ∧ off = off' := by simpa using hA'
      have huo := (ptOk_iff u).1 (HOK.out u (List.mem_of_getElem? hu))
      have HU := Lib.hid (sumT_snoc hk1 hu)
      clear hA' hu hd hs
      have hab2 : acc ≤ 17592186044416 := by have := HS.out; omega
      obtain ⟨hab0, _⟩ := hab
      go_wp2_with fail
      go_round
      case rel => exact ⟨k + 1, acc + u.b, by omega, by omega, by go_num, rfl, by rw [show k + 1 - i = k - i + 1 by omega, HU.out, ← HA.out]⟩
      case measure => simp [intOf]; omega
    · obtain rfl : k = j + 1 := by omega
      go_wp2_with (go_at_call 64; refine (CR.out _ _ (Sl.drewN hl _)).mono ?_; rintro e w2 ⟨rfl, hb2⟩)
      go_ret2
      refine ⟨ret_intb ?_ rfl, ?_⟩
      · rw [show j - i + 1 = j + 1 - i by omega, ← HA.out]
      · exact (below_drewN (Below.refl _ _) _).trans hb2

end Go.Proofs.YtilkcailpkebdaaGreat
