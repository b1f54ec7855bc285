/-
  treatyref25.Windows: its contract, at the same plain function as event.Validate's.
-/
import Derived.Test.YtjbaildaifdgiaaVald
namespace Go.Proofs.Ytjbaildaifdgiaa
open Go.RowKit
set_option linter.unusedVariables false

def ordAt (xs : List Win) (k : Nat) (x : Win) : Bool := (xs.take k).getLast?.any fun l => winOrd l x
theorem ordAt_zero {xs : List Win} {k : Nat} {x : Win} (h : k < 1) : ordAt xs k x = false := by
  obtain rfl : k = 0 := by omega
  simp [ordAt]
theorem ordAt_pos {xs : List Win} {k : Nat} {x l : Win} (hk : k ≤ xs.length) (h0 : 0 < k) (hl : xs[k - 1]? = some l) : ordAt xs k x = winOrd l x := by
  unfold ordAt; rw [last_take hk h0, hl]; simp
theorem one_ordAt {xs : List Win} {k : Nat} {x : Win} {n : Int} (h : winRange x = true) (h2 : x.to - x.fr ≤ n) (h3 : ordAt xs k x = true) : oneE (xs.take k) x n = 13 := by
  unfold oneE; rw [if_neg (by simp [h]), if_neg (by omega), if_pos (by unfold ordAt at h3; exact h3)]
theorem one_restAt {xs : List Win} {k : Nat} {x : Win} {n : Int} (h : winRange x = true) (h2 : x.to - x.fr ≤ n) (h3 : ordAt xs k x = false) : oneE (xs.take k) x n = if ((xs.take k).any fun v => winMeet v x) = true then 8 else 0 := by
  unfold oneE; rw [if_neg (by simp [h]), if_neg (by omega), if_neg (by unfold ordAt at h3; simp [h3])]
theorem any_take_succ {xs : List Win} {k j : Nat} {v x : Win} (hv : xs[j]? = some v) (hj : j < k) (h : winMeet v x = true) : ((xs.take k).any fun v => winMeet v x) = true := by
  rw [List.any_eq_true]
  refine ⟨v, ?_, h⟩
  have : (xs.take k)[j]? = some v := by rw [List.getElem?_take_of_lt hj]; exact hv
  exact List.mem_of_getElem? this
theorem any_take_false {xs : List Win} {k : Nat} {x : Win} (h : ∀ j v, j < k → xs[j]? = some v → winMeet v x = false) : ((xs.take k).any fun v => winMeet v x) = false := by
  rw [List.any_eq_false]
  intro v hv
  obtain ⟨j, hj, he⟩ := List.getElem_of_mem hv
  have hjk : j < k := by simp at hj; omega
  have : xs[j]? = some v := by
    rw [← List.getElem?_take_of_lt hjk, List.getElem?_eq_getElem hj, he]
  simp [h j v hjk this]

set_option maxRecDepth 100000 in
set_option maxHeartbeats 4000000 in
theorem rwindows_any (A : Option Addr) (c : Nat) (xs : List Win) (n : Int) (w : World) (hxl : xs.length ≤ 9223372036854775807) (hxc : xs.length ≤ c) (hX : Wins w 0 A xs) :
    Calls Try.prog 39 #[.slice A xs.length c, .int .i64 n] w fun e w' => e = .returned (.int .i64 (winsE xs n)) ∧ Below w.heap.size w w' := by
  obtain ⟨m, hm⟩ : ∃ m, m = xs.length := ⟨_, rfl⟩
  rw [← hm] at hxl hxc ⊢
  have HM := Lib.hid hm
  by_cases h64 : 64 < m
  · have HR : Hid (winsE xs n = 4) := by unfold winsE; rw [if_pos (by omega)]; rfl
    clear hm
    go_enter Try.func39, Try.ntmps39
    go_wp2_with fail
    go_ret
    exact ⟨ret_int HR.out.symm, Below.refl _ _⟩
  have q : decide (64 < (m : Int)) = false := by simp; omega
  by_cases hn : 1 ≤ n ∧ n ≤ 8784
  case neg =>
    have HR : Hid (winsE xs n = 1) := by unfold winsE; rw [if_neg (by omega), if_pos (by omega)]; rfl
    clear hm
    by_cases h1 : n < 1
    · go_enter Try.func39, Try.ntmps39
      go_wp2_with fail
      go_ret
      exact ⟨ret_int HR.out.symm, Below.refl _ _⟩
    · have h2 : 8784 < n := by omega
      go_enter Try.func39, Try.ntmps39
      go_wp2_with fail
      go_ret
      exact ⟨ret_int HR.out.symm, Below.refl _ _⟩
  have HR : Hid (winsE xs n = winsLoop n [] xs) := by unfold winsE; rw [if_neg (by omega), if_neg (by omega)]; rfl
  obtain ⟨hn1, hn2⟩ := hn
  clear hm
  go_enter Try.func39, Try.ntmps39
  go_wp2_with fail
  go_loopw [5, 6, 8, 20] (fun _ _ _ ii wr => ∃ k : Nat, k ≤ m ∧ ii = .int .i64 k ∧ Below w.heap.size w wr ∧ winsLoop n (xs.take k) (xs.drop k) = winsLoop n [] xs) (fun _ _ _ ii _ => m - (intOf ii).toNat)
  case atStart => exact ⟨0, Nat.zero_le _, rfl, Below.refl _ _, rfl⟩
  case round =>
    obtain ⟨k, hk, rfl, hb, hloop⟩ := hrel
    have HL := Lib.hid hloop
    clear hloop
    by_cases hlt : k < m
    case neg =>
      obtain rfl : k = m := by omega
      have h1 := HL.out
      rw [HM.out] at h1
      have HX := Lib.hid (wins_end h1)
      clear h1
      go_wp2_with fail
      go_ret
      exact ⟨ret_int (HR.out.trans HX.out).symm, hb⟩
    obtain ⟨x, hx, hd⟩ := drop_cons (xs := xs) (i := k) (by rw [← HM.out]; exact hlt)
    obtain ⟨b, off, rfl, _, hbl, c0, c1, c2⟩ := (hX.below hb).at_ hx
    have HD := Lib.hid hd
    have HXK := Lib.hid hx
    clear hx hd
    have hba := hb.alloc hb.size (.cells #[.int .i64 x.peril, .int .i64 x.fr, .int .i64 x.to] 69)
    by_cases hr : winRange x = true
    case neg =>
      have HX := Lib.hid (wins_stop HD.out HL.out (by rw [one_range (Bool.eq_false_iff.2 hr)]; decide))
      rw [one_range (Bool.eq_false_iff.2 hr)] at HX
      have hno : ¬ (0 ≤ x.peril ∧ x.peril ≤ 15 ∧ 0 ≤ x.fr ∧ x.fr < x.to ∧ x.to ≤ 876600) := fun h => hr ((winRange_iff x).2 h)
      clear hr
      go_wp2_with fail
      all_goals first | (exfalso; omega) | (go_ret; exact ⟨ret_int (HR.out.trans HX.out).symm, hba⟩)
    obtain ⟨g1, g2, g3, g4, g5⟩ := (winRange_iff x).1 hr
    by_cases hl : n < x.to - x.fr
    · have HX := Lib.hid (wins_stop HD.out HL.out (by rw [one_limit hr hl]; decide))
      rw [one_limit hr hl] at HX
      clear hr
      go_wp2_with fail
      go_ret
      exact ⟨ret_int (HR.out.trans HX.out).symm, hba⟩
    have hl' : x.to - x.fr ≤ n := by omega
    have HRG := Lib.hid hr
    clear hr hl
    go_upto_region 12 with fail
    obtain ⟨w1, hw1⟩ : ∃ w1 : World, w1 = wr.alloc (.cells #[.int .i64 x.peril, .int .i64 x.fr, .int .i64 x.to] 69) := ⟨_, rfl⟩
    obtain ⟨bx, hbx⟩ : ∃ bx, bx = wr.heap.size := ⟨_, rfl⟩
    have d0 : w1.cell? ⟨bx, 0, none⟩ = some (.int .i64 x.peril) := by rw [hw1, hbx]; simp
    have d1 : w1.cell? ⟨bx, 1, none⟩ = some (.int .i64 x.fr) := by rw [hw1, hbx]; simp
    have d2 : w1.cell? ⟨bx, 2, none⟩ = some (.int .i64 x.to) := by rw [hw1, hbx]; simp
    have dz : bx < w1.heap.size := World.block_lt_of_cell? w1 _ d0
    rw [← hw1] at hba ⊢
    rw [← hbx]
    clear hw1 hbx c0 c1 c2 hb
    obtain ⟨ov, hov⟩ : ∃ ov, ordAt xs k x = ov := ⟨_, rfl⟩
    have HOV := Lib.hid hov
    clear hov
    go_cut [91] (fun s91 wc => s91 = .bool ov ∧ Below w1.heap.size w1 wc)
    case first =>
      by_cases hk0 : k < 1
      · have q0 : decide (0 < k) = false := by simp; omega
        have HO := Lib.hid (ordAt_zero (xs := xs) (x := x) hk0)
        go_quiet (fail)
        go_wp2_with fail
        go_meet
        exact ⟨by rw [← HOV.out, HO.out], below_drewN (Below.refl _ _) _⟩
      · have q0 : decide (0 < k) = true := by simp; omega
        obtain ⟨l, hl⟩ : ∃ l, xs[k - 1]? = some l := ⟨_, List.getElem?_eq_getElem (by rw [← HM.out]; omega)⟩
        have HO := Lib.hid (ordAt_pos (x := x) (by rw [← HM.out]; exact hk) (by omega) hl)
        obtain ⟨b', off', hA, _, _, e0, e1, e2⟩ := (hX.below hba).at_ hl
        obtain ⟨rfl, rfl⟩ : b = b' ∧ off = off' := by simpa using hA
        clear hl hA
        rcases Int.lt_trichotomy x.fr l.fr with hlt' | heq | hgt
        · have HW := Lib.hid ((winOrd_iff l x).2 (.inl hlt'))
          have q1 : decide (x.fr < l.fr) = true := by simpa using hlt'
          go_quiet (fail)
          go_wp2_with fail
          go_meet
          exact ⟨by rw [← HOV.out, HO.out, HW.out], below_drewN (Below.refl _ _) _⟩
        · have q1 : decide (x.fr < l.fr) = false := by simp; omega
          have q2 : (x.fr == l.fr) = true := by simpa using heq
          by_cases hp : x.peril ≤ l.peril
          · have HW := Lib.hid ((winOrd_iff l x).2 (.inr ⟨heq, hp⟩))
            have q3 : decide (x.peril ≤ l.peril) = true := by simpa using hp
            clear heq
            go_quiet (fail)
            go_wp2_with fail
            go_meet
            exact ⟨by rw [← HOV.out, HO.out, HW.out], below_drewN (Below.refl _ _) _⟩
          · have HW : Hid (winOrd l x = false) := by rw [Bool.eq_false_iff]; intro h; have := (winOrd_iff l x).1 h; omega
            have q3 : decide (x.peril ≤ l.peril) = false := by simpa using hp
            clear heq
            go_quiet (fail)
            go_wp2_with fail
            go_meet
            exact ⟨by rw [← HOV.out, HO.out, HW.out], below_drewN (Below.refl _ _) _⟩
        · have HW : Hid (winOrd l x = false) := by rw [Bool.eq_false_iff]; intro h; have := (winOrd_iff l x).1 h; omega
          have q1 : decide (x.fr < l.fr) = false := by simp; omega
          have q2 : (x.fr == l.fr) = false := by simp; omega
          go_quiet (fail)
          go_wp2_with fail
          go_meet
          exact ⟨by rw [← HOV.out, HO.out, HW.out], below_drewN (Below.refl _ _) _⟩
    case rest =>
      obtain ⟨rfl, hbc⟩ := hcut
      cases ov with
      | true =>
        have HX := Lib.hid (wins_stop HD.out HL.out (by rw [one_ordAt HRG.out hl' HOV.out]; decide))
        rw [one_ordAt HRG.out hl' HOV.out] at HX
        go_wp2_with fail
        go_ret
        exact ⟨ret_int (HR.out.trans HX.out).symm, hba.trans (hbc.mono hba.size)⟩
      | false =>
        have HRR := Lib.hid (one_restAt HRG.out hl' HOV.out)
        have hk0 : (0 : Int) ≤ (k : Int) := by omega
        have hkc : (k : Int) ≤ (c : Int) := by omega
        have hkc' : k ≤ c := by omega
        go_wp2_with fail
        go_loopw [8, 96] (fun _ ii wq => ∃ j : Nat, j ≤ k ∧ ii = .int .i64 j ∧ Below w1.heap.size w1 wq ∧ ∀ i v, i < j → xs[i]? = some v → winMeet v x = false) (fun _ ii _ => k - (intOf ii).toNat)
        case atStart => exact ⟨0, Nat.zero_le _, rfl, hbc, fun i v hi => absurd hi (by omega)⟩
        case round =>
          obtain ⟨j, hj, rfl, hbq, hno⟩ := hrel
          have HNO := Lib.hid hno
          clear hno
          by_cases hjk : j < k
          · obtain ⟨v, hv, _⟩ := drop_cons (xs := xs) (i := j) (by rw [← HM.out]; omega)
            obtain ⟨b', off', hA, _, _, e0, e1, e2⟩ := (hX.below (hba.trans (hbq.mono hba.size))).at_ hv
            obtain ⟨rfl, rfl⟩ : b = b' ∧ off = off' := by simpa using hA
            have j0 : wr.cell? ⟨bx, 0, none⟩ = some (.int .i64 x.peril) := (hbq.cell (p := ⟨bx, 0, none⟩) dz).trans d0
            have j1 : wr.cell? ⟨bx, 1, none⟩ = some (.int .i64 x.fr) := (hbq.cell (p := ⟨bx, 1, none⟩) dz).trans d1
            have j2 : wr.cell? ⟨bx, 2, none⟩ = some (.int .i64 x.to) := (hbq.cell (p := ⟨bx, 2, none⟩) dz).trans d2
            have jz : bx < wr.heap.size := Nat.lt_of_lt_of_le dz hbq.size
            have HV := Lib.hid hv
            clear hv hA
            by_cases hmt : winMeet v x = true
            · obtain ⟨f1, f2, f3⟩ := (winMeet_iff v x).1 hmt
              have he8 : oneE (xs.take k) x n = 8 := by rw [HRR.out, if_pos (any_take_succ HV.out hjk hmt)]
              have HX := Lib.hid (wins_stop HD.out HL.out (by rw [he8]; decide))
              rw [he8] at HX
              have q1 : (v.peril == x.peril) = true := by simpa using f1
              clear hmt f1 he8
              go_wp2_with fail
              go_ret
              exact ⟨ret_int (HR.out.trans HX.out).symm, hba.trans ((hbq.alloc hbq.size _).mono hba.size)⟩
            · have HX : Hid (∀ i u, i < j + 1 → xs[i]? = some u → winMeet u x = false) := by
                intro i u hi hu
                by_cases hij : i = j
                · rw [hij, HV.out] at hu; injection hu with hu; rw [← hu]; exact Bool.eq_false_iff.2 hmt
                · exact HNO.out i u (by omega) hu
              have hno : ¬ (v.peril = x.peril ∧ v.fr < x.to ∧ x.fr < v.to) := fun h => hmt ((winMeet_iff v x).2 h)
              clear hmt
              by_cases f1 : v.peril = x.peril
              · have q1 : (v.peril == x.peril) = true := by simpa using f1
                have hno' : ¬ (v.fr < x.to ∧ x.fr < v.to) := fun h => hno ⟨f1, h⟩
                clear hno f1
                by_cases f2 : v.fr < x.to
                · have f3 : ¬ x.fr < v.to := by omega
                  go_wp2_with fail
                  go_roundw
                  case rel => exact ⟨j + 1, by omega, by go_num, hbq.alloc hbq.size _, HX.out⟩
                  case measure => simp [intOf]; omega
                · go_wp2_with fail
                  go_roundw
                  case rel => exact ⟨j + 1, by omega, by go_num, hbq.alloc hbq.size _, HX.out⟩
                  case measure => simp [intOf]; omega
              · have q1 : (v.peril == x.peril) = false := by simpa using f1
                clear hno f1
                go_wp2_with fail
                go_roundw
                case rel => exact ⟨j + 1, by omega, by go_num, hbq.alloc hbq.size _, HX.out⟩
                case measure => simp [intOf]; omega
          · obtain rfl : j = k := by omega
            have he0 : oneE (xs.take j) x n = 0 := by rw [HRR.out, if_neg (by rw [any_take_false HNO.out]; simp)]
            have HX := Lib.hid (wins_next HXK.out HD.out HL.out he0)
            clear he0
            go_wp2_with fail
            go_roundw
            case rel => exact ⟨j + 1, by omega, by go_num, hba.trans (hbq.mono hba.size), HX.out⟩
            case measure => simp [intOf]; omega

end Go.Proofs.Ytjbaildaifdgiaa
