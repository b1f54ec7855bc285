/-
  Texts of the proof, one after the other.
-/
import Derived.Test.YtilkcailpkebdaaBase1
import Derived.Test.YtilkcailpkebdaaBase2
import Derived.Deep.DeepCutAuto
import Derived.Deep.RegionHeld3
import Derived.Test.YtilkcailpkebdaaBase3
import Derived.Deep.LoopGhost
import Derived.RegionTactic
import Derived.Lib.SliceRun

/-
  The window of a loss, and the totals of the windows, in plain Lean.
-/
namespace Go.Proofs.Ytilkcailpkebdaa
open Go.RowKit
set_option linter.unusedVariables false

def covers (x : Win) (l : Los) : Bool := decide (x.peril = l.peril) && decide (x.fr ≤ l.hour) && decide (l.hour < x.to)
theorem covers_iff (x : Win) (l : Los) : covers x l = true ↔ x.peril = l.peril ∧ x.fr ≤ l.hour ∧ l.hour < x.to := by simp [covers]; omega
def findW (l : Los) : List Win → Nat → Int
  | [], _ => -1
  | x :: xs, k => if covers x l = true then k else findW l xs (k + 1)
def asgAt (ws : List Win) (l : Los) : Int := findW l ws 0
def asgF (los : List Los) (ws : List Win) : List Int := los.map (asgAt ws)

theorem findW_hit {l : Los} {ws : List Win} {k : Nat} {x : Win} {r : Int} (hd : ws.drop k = x :: ws.drop (k + 1)) (h : findW l (ws.drop k) k = r) (hc : covers x l = true) : r = k := by
  rw [hd, findW, if_pos hc] at h; exact h.symm
theorem findW_next {l : Los} {ws : List Win} {k : Nat} {x : Win} {r : Int} (hd : ws.drop k = x :: ws.drop (k + 1)) (h : findW l (ws.drop k) k = r) (hc : ¬ covers x l = true) : findW l (ws.drop (k + 1)) (k + 1) = r := by
  rw [hd, findW, if_neg hc] at h; exact h
theorem findW_end {l : Los} {ws : List Win} {k : Nat} {r : Int} (h : findW l (ws.drop ws.length) k = r) : r = -1 := by
  rw [List.drop_length, findW] at h; exact h.symm
theorem findW_bd (l : Los) : ∀ (ws : List Win) (k : Nat), findW l ws k = -1 ∨ (k : Int) ≤ findW l ws k ∧ findW l ws k < k + ws.length := by
  intro ws
  induction ws with
  | nil => intro k; left; rfl
  | cons x ws ih =>
    intro k
    simp only [findW]
    split
    · right; simp only [List.length_cons]; omega
    · rcases ih (k + 1) with h | h
      · left; exact h
      · right; simp only [List.length_cons]; omega
theorem asgAt_bd (ws : List Win) (l : Los) : asgAt ws l = -1 ∨ 0 ≤ asgAt ws l ∧ asgAt ws l < ws.length := by
  have := findW_bd l ws 0
  unfold asgAt; omega
/-- The last index below k that covers, seen from above: what the reference's downward search holds. -/
theorem findW_down (l : Los) (ws : List Win) : ∀ (k : Nat), k ≤ ws.length → (∀ i x, i < k → ws[i]? = some x → covers x l = false) → findW l ws 0 = findW l (ws.drop k) k := by
  intro k
  induction k with
  | zero => intro _ _; simp
  | succ k ih =>
    intro hk hno
    obtain ⟨x, hx, hd⟩ := drop_cons (xs := ws) (i := k) (by omega)
    rw [ih (by omega) (fun i x hi hx => hno i x (by omega) hx), hd, findW, if_neg (by rw [hno k x (by omega) hx]; simp)]

/-- out after the losses from index k on were added. -/
def addTo (f : Nat → Int) (i : Int) (a : Int) : Nat → Int := fun j => if (j : Int) = i then f j + a else f j
def totLoop : List Int → List Int → (Nat → Int) → (Nat → Int)
  | i :: is, a :: l, f => totLoop is l (if 0 ≤ i then addTo f i a else f)
  | _, _, f => f
def totF (los : List Los) (am : List Int) (ws : List Win) : List Int := (List.range ws.length).map (totLoop (asgF los ws) am fun _ => 0)
def totalsF (los : List Los) (am : List Int) (ws : List Win) : List Int := if chkE los am = 0 then totF los am ws else []
theorem tot_yes {is am : List Int} {k : Nat} {i a : Int} {f r : Nat → Int} (hi : is.drop k = i :: is.drop (k + 1)) (ha : am.drop k = a :: am.drop (k + 1)) (h : totLoop (is.drop k) (am.drop k) f = r) (h0 : 0 ≤ i) : totLoop (is.drop (k + 1)) (am.drop (k + 1)) (addTo f i a) = r := by
  rw [hi, ha, totLoop, if_pos h0] at h; exact h
theorem tot_no {is am : List Int} {k : Nat} {i a : Int} {f r : Nat → Int} (hi : is.drop k = i :: is.drop (k + 1)) (ha : am.drop k = a :: am.drop (k + 1)) (h : totLoop (is.drop k) (am.drop k) f = r) (h0 : ¬ 0 ≤ i) : totLoop (is.drop (k + 1)) (am.drop (k + 1)) f = r := by
  rw [hi, ha, totLoop, if_neg h0] at h; exact h
theorem tot_end {is am : List Int} {f r : Nat → Int} (h : totLoop (is.drop is.length) (am.drop is.length) f = r) : r = f := by
  rw [List.drop_length] at h; simp [totLoop] at h; exact h.symm

end Go.Proofs.Ytilkcailpkebdaa

/-
  event.within, event.Check, treatyref25.Check: their contracts.
-/
namespace Go.Proofs.Ytilkcailpkebdaa
open Go.RowKit
set_option linter.unusedVariables false

def withinB (n lo hi : Int) : Bool := decide (lo ≤ n) && decide (n ≤ hi)
theorem withinB_true {n lo hi : Int} (h1 : lo ≤ n) (h2 : n ≤ hi) : withinB n lo hi = true := by simp [withinB, h1, h2]
theorem withinB_false {n lo hi : Int} (h : ¬ (lo ≤ n ∧ n ≤ hi)) : withinB n lo hi = false := by simp [withinB]; omega
set_option maxHeartbeats 400000 in
theorem within_any (n lo hi : Int) (w : World) :
    Calls Try.prog 54 #[.int .i64 n, .int .i64 lo, .int .i64 hi] w fun e w' => e = .returned (.bool (withinB n lo hi)) ∧ w = w' := by
  unfold withinB
  by_cases h : lo ≤ n
  · go_enter Try.func54, Try.ntmps54
    go_wp2
    go_ret
    exact ⟨ret_bool (by simp [h]), rfl⟩
  · go_enter Try.func54, Try.ntmps54
    go_wp2
    go_ret
    exact ⟨ret_bool (by simp; omega), rfl⟩

set_option maxHeartbeats 1000000 in
theorem checkE_any (A : Option Addr) (c : Nat) (los : List Los) (B : Option Addr) (d : Nat) (am : List Int) (w : World) (hll : los.length ≤ 9223372036854775807) (hal : am.length ≤ 9223372036854775807) (hL : Losses w 0 A los) (hM : Ints w 0 B am) :
    Calls Try.prog 36 #[.slice A los.length c, .slice B am.length d] w fun e w' => e = .returned (.int .i64 (chkE los am)) ∧ Below w.heap.size w w' := by
  obtain ⟨n, hn⟩ : ∃ n, n = los.length := ⟨_, rfl⟩
  obtain ⟨m, hm⟩ : ∃ m, m = am.length := ⟨_, rfl⟩
  rw [← hn] at hll ⊢
  rw [← hm] at hal ⊢
  have HN := Lib.hid hn
  have HM := Lib.hid hm
  by_cases hlim : 64 < los.length ∨ am.length ≠ los.length
  · have HR := Lib.hid (chkE_lim hlim)
    rw [← hn, ← hm] at hlim
    clear hn hm
    by_cases h1 : 64 < n
    · have q : decide (64 < (n : Int)) = true := by simp; omega
      go_enter Try.func36, Try.ntmps36
      go_wp2_with fail
      go_ret
      exact ⟨ret_int HR.out.symm, Below.refl _ _⟩
    · have q : decide (64 < (n : Int)) = false := by simp; omega
      have q2 : (m != n) = true := by simp; omega
      have q3 : ((m : Int) != (n : Int)) = true := by simp; omega
      clear hlim
      go_enter Try.func36, Try.ntmps36
      go_wp2_with fail
      go_ret
      exact ⟨ret_int HR.out.symm, Below.refl _ _⟩
  have HL := Lib.hid hlim
  have hn64 : n ≤ 64 := by omega
  obtain rfl : m = n := by omega
  have q : decide (64 < (m : Int)) = false := by simp; omega
  clear hlim hn hm
  go_enter Try.func36, Try.ntmps36
  go_wp2_with fail
  go_loopw [5, 6, 22] (fun _ _ ii wr => ∃ k : Nat, k ≤ m ∧ ii = .int .i64 k ∧ Below w.heap.size w wr ∧ ((los.zip am).drop k).all pairOk = (los.zip am).all pairOk) (fun _ _ ii _ => m - (intOf ii).toNat)
  case atStart => exact ⟨0, Nat.zero_le _, rfl, Below.refl _ _, rfl⟩
  case round =>
    obtain ⟨k, hk, rfl, hb, hall⟩ := hrel
    have HA := Lib.hid hall
    clear hall
    by_cases hlt : k < m
    · obtain ⟨l, hl, _⟩ := drop_cons (xs := los) (i := k) (by rw [← HN.out]; exact hlt)
      obtain ⟨a, ha, _⟩ := drop_cons (xs := am) (i := k) (by rw [← HM.out]; exact hlt)
      have HZ := Lib.hid (zip_get hl ha)
      obtain ⟨b, off, rfl, _, _, c0, c1, c2, c3, c4, c5, c6, c7, c8, c9⟩ := (hL.below hb).at_ hl
      obtain ⟨b2, off2, rfl, _, _, m0⟩ := (hM.below hb).at_ ha
      clear hl ha
      by_cases hok : pairOk (l, a) = true
      · obtain ⟨g1, g2, g3, g4, g5, g6⟩ := (pairOk_iff l a).1 hok
        have v1 := withinB_true g1 g2
        have v2 := withinB_true g3 g4
        have v3 : validB a = true := by simp [validB]; omega
        have HO := Lib.hid hok
        clear hok
        go_wp2_with (first | (go_at_call 54; refine (within_any _ _ _ _).mono ?_; rintro e w' ⟨rfl, rfl⟩) | (go_at_call 66; refine (valid_any _ _).mono ?_; rintro e w' ⟨rfl, rfl⟩))
        go_roundw
        case rel => exact ⟨k + 1, by omega, by go_num, hb.alloc hb.size _, zall_next HZ.out HA.out HO.out⟩
        case measure => simp [intOf]; omega
      · have HR := Lib.hid (chkE_bad HL.out (zall_bad HZ.out (Bool.eq_false_iff.2 hok)))
        have hno : ¬ (0 ≤ l.hour ∧ l.hour ≤ 876599 ∧ 0 ≤ l.peril ∧ l.peril ≤ 15 ∧ 0 ≤ a ∧ a ≤ 17592186044416) := fun h => hok ((pairOk_iff l a).2 h)
        clear hok
        by_cases h1 : 0 ≤ l.hour ∧ l.hour ≤ 876599
        · have v1 := withinB_true h1.1 h1.2
          by_cases h2 : 0 ≤ l.peril ∧ l.peril ≤ 15
          · have v2 := withinB_true h2.1 h2.2
            by_cases h3 : 0 ≤ a
            · have v3 : validB a = false := by simp [validB]; omega
              clear hno h1 h2
              go_wp2_with (first | (go_at_call 54; refine (within_any _ _ _ _).mono ?_; rintro e w' ⟨rfl, rfl⟩) | (go_at_call 66; refine (valid_any _ _).mono ?_; rintro e w' ⟨rfl, rfl⟩))
              go_ret
              exact ⟨ret_int HR.out.symm, hb.alloc hb.size _⟩
            · clear hno h1 h2
              go_wp2_with (go_at_call 54; refine (within_any _ _ _ _).mono ?_; rintro e w' ⟨rfl, rfl⟩)
              go_ret
              exact ⟨ret_int HR.out.symm, hb.alloc hb.size _⟩
          · have v2 := withinB_false h2
            clear hno h1 h2
            go_wp2_with (go_at_call 54; refine (within_any _ _ _ _).mono ?_; rintro e w' ⟨rfl, rfl⟩)
            go_ret
            exact ⟨ret_int HR.out.symm, hb.alloc hb.size _⟩
        · have v1 := withinB_false h1
          clear hno h1
          go_wp2_with (go_at_call 54; refine (within_any _ _ _ _).mono ?_; rintro e w' ⟨rfl, rfl⟩)
          go_ret
          exact ⟨ret_int HR.out.symm, hb.alloc hb.size _⟩
    obtain rfl : k = m := by omega
    have hall : (los.zip am).all pairOk = true := by
      have := HA.out
      rw [List.drop_eq_nil_of_le (by rw [List.length_zip]; have := HN.out; omega)] at this
      exact this.symm
    have HR := Lib.hid (chkE_sum HL.out hall)
    have HAM := Lib.hid (zip_amounts (by rw [← HN.out, ← HM.out]) hall)
    clear hall HA
    go_wp2_with fail
    go_loopw [7, 9, 53] (fun s _ ii wr => ∃ (i : Nat) (acc : Int), i ≤ k ∧ ii = .int .i64 i ∧ s = .int .i64 acc ∧ 0 ≤ acc ∧ acc ≤ 17592186044416 * i ∧ Below w.heap.size w wr ∧ acc + sumI (am.drop i) = sumI am) (fun _ _ ii _ => k - (intOf ii).toNat)
    case atStart => exact ⟨0, 0, Nat.zero_le _, rfl, rfl, by omega, by omega, hb, by simp⟩
    case round =>
      obtain ⟨i, acc, hi, rfl, rfl, h0, h1, hb2, hs⟩ := hrel
      have HS := Lib.hid hs
      clear hs
      by_cases hik : i < k
      · obtain ⟨a, ha, hd⟩ := drop_cons (xs := am) (i := i) (by rw [← HM.out]; exact hik)
        obtain ⟨b2, off2, rfl, _, _, m0⟩ := (hM.below hb2).at_ ha
        have hab := HAM.out a (List.mem_of_getElem? ha)
        have HD := Lib.hid hd
        clear ha hd
        go_wp2_with fail
        go_roundw
        case rel => exact ⟨i + 1, acc + a, by omega, by go_num, rfl, by omega, by omega, hb2, sumI_next HD.out HS.out⟩
        case measure => simp [intOf]; omega
      · obtain rfl : i = k := by omega
        have hs := HS.out
        rw [HM.out, List.drop_length, sumI, Int.add_zero] at hs
        have HSS := Lib.hid hs
        clear hs HS
        by_cases hov : 17592186044416 < acc
        · have v : validB acc = false := by simp [validB]; omega
          go_wp2_with (go_at_call 66; refine (valid_any _ _).mono ?_; rintro e w' ⟨rfl, rfl⟩)
          go_ret
          exact ⟨ret_int (by rw [HR.out, ← HSS.out, if_pos (by omega)]), hb2⟩
        · have v : validB acc = true := by simp [validB]; omega
          go_wp2_with (go_at_call 66; refine (valid_any _ _).mono ?_; rintro e w' ⟨rfl, rfl⟩)
          go_ret
          exact ⟨ret_int (by rw [HR.out, ← HSS.out, if_neg (by omega)]), hb2⟩

end Go.Proofs.Ytilkcailpkebdaa

/-
  event.one: its contract.
-/
namespace Go.Proofs.Ytilkcailpkebdaa
open Go.RowKit
set_option linter.unusedVariables false

theorem below_alloc1 (w : World) (o : Obj) : Below w.heap.size w (w.alloc o) := (Below.refl _ _).alloc (Nat.le_refl _) _

set_option maxRecDepth 100000 in
set_option maxHeartbeats 2000000 in
theorem one_any (A : Option Addr) (c : Nat) (bs : List Win) (x : Win) (n : Int) (w : World) (hbl : bs.length ≤ 1000) (hB : Wins w 0 A bs) :
    Calls Try.prog 55 #[.slice A bs.length c, .agg #[.int .i64 x.peril, .int .i64 x.fr, .int .i64 x.to], .int .i64 n] w fun e w' => e = .returned (.int .i64 (oneE bs x n)) ∧ Below w.heap.size w w' := by
  obtain ⟨m, hm⟩ : ∃ m, m = bs.length := ⟨_, rfl⟩
  rw [← hm] at hbl ⊢
  have HM := Lib.hid hm
  clear hm
  by_cases hr : winRange x = true
  case neg =>
    have HR := Lib.hid (one_range (before := bs) (n := n) (Bool.eq_false_iff.2 hr))
    have hno : ¬ (0 ≤ x.peril ∧ x.peril ≤ 15 ∧ 0 ≤ x.fr ∧ x.fr < x.to ∧ x.to ≤ 876600) := fun h => hr ((winRange_iff x).2 h)
    clear hr
    by_cases h1 : 0 ≤ x.peril ∧ x.peril ≤ 15
    · have v1 := withinB_true h1.1 h1.2
      have hno' : ¬ (0 ≤ x.fr ∧ x.fr < x.to ∧ x.to ≤ 876600) := by omega
      clear hno h1
      go_enter Try.func55, Try.ntmps55
      go_wp2_with (go_at_call 54; refine (within_any _ _ _ _).mono ?_; rintro e w' ⟨rfl, rfl⟩)
      all_goals first | (exfalso; omega) | (go_ret; exact ⟨ret_int HR.out.symm, (Below.refl _ _).alloc (Nat.le_refl _) _⟩)
    · have v1 := withinB_false h1
      clear hno h1
      go_enter Try.func55, Try.ntmps55
      go_wp2_with (go_at_call 54; refine (within_any _ _ _ _).mono ?_; rintro e w' ⟨rfl, rfl⟩)
      go_ret
      exact ⟨ret_int HR.out.symm, (Below.refl _ _).alloc (Nat.le_refl _) _⟩
  obtain ⟨g1, g2, g3, g4, g5⟩ := (winRange_iff x).1 hr
  have v1 := withinB_true g1 g2
  by_cases hl : n < x.to - x.fr
  · have HR := Lib.hid (one_limit (before := bs) hr hl)
    clear hr
    go_enter Try.func55, Try.ntmps55
    go_wp2_with (go_at_call 54; refine (within_any _ _ _ _).mono ?_; rintro e w' ⟨rfl, rfl⟩)
    go_ret
    exact ⟨ret_int HR.out.symm, (Below.refl _ _).alloc (Nat.le_refl _) _⟩
  have HRG := Lib.hid hr
  have HLM := Lib.hid hl
  have hl' : x.to - x.fr ≤ n := by omega
  clear hr hl
  have hb0 := (Below.refl w.heap.size w).alloc (Nat.le_refl _) (.cells #[.int .i64 x.peril, .int .i64 x.fr, .int .i64 x.to] 53)
  have hB0 := hB.below hb0
  have k0 : (w.alloc (.cells #[.int .i64 x.peril, .int .i64 x.fr, .int .i64 x.to] 53)).cell? ⟨w.heap.size, 0, none⟩ = some (.int .i64 x.peril) := by simp
  have k1 : (w.alloc (.cells #[.int .i64 x.peril, .int .i64 x.fr, .int .i64 x.to] 53)).cell? ⟨w.heap.size, 1, none⟩ = some (.int .i64 x.fr) := by simp
  have k2 : (w.alloc (.cells #[.int .i64 x.peril, .int .i64 x.fr, .int .i64 x.to] 53)).cell? ⟨w.heap.size, 2, none⟩ = some (.int .i64 x.to) := by simp
  have kz : w.heap.size < (w.alloc (.cells #[.int .i64 x.peril, .int .i64 x.fr, .int .i64 x.to] 53)).heap.size := by simp
  go_enter Try.func55, Try.ntmps55
  go_upto_if 42 with (go_at_call 54; refine (within_any _ _ _ _).mono ?_; rintro e w' ⟨rfl, rfl⟩)
  obtain ⟨w1, hw1⟩ : ∃ w1 : World, w1 = w.alloc (.cells #[.int .i64 x.peril, .int .i64 x.fr, .int .i64 x.to] 53) := ⟨_, rfl⟩
  rw [← hw1] at hb0 hB0 k0 k1 k2 kz ⊢
  clear hw1 hB
  go_cut [4, 8] (fun s4 _ wc => s4 = .pointer (some ⟨w.heap.size, 0, none⟩) ∧ Below w1.heap.size w1 wc ∧ ∀ l, bs.getLast? = some l → winOrd l x = false)
  case first =>
    by_cases h0 : 0 < m
    · obtain ⟨l, hl, _⟩ := drop_cons (xs := bs) (i := m - 1) (by rw [← HM.out]; omega)
      have HLL : Hid (bs.getLast? = some l) := by rw [List.getLast?_eq_getElem?, ← HM.out, hl]; rfl
      obtain ⟨b, off, rfl, _, _, c0, c1, c2⟩ := hB0.at_ hl
      have q : decide (0 < m) = true := by simpa using h0
      clear hl
      rcases Int.lt_trichotomy x.fr l.fr with hlt | heq | hgt
      · have HR := Lib.hid (one_order (n := n) HRG.out (by omega) HLL.out ((winOrd_iff l x).2 (.inl hlt)))
        go_wp2_with fail
        go_ret
        exact ⟨ret_int HR.out.symm, hb0.trans ((below_alloc1 w1 _).mono hb0.size)⟩
      · have qe : (x.fr == l.fr) = true := by simpa using heq
        have hnl : ¬ x.fr < l.fr := by omega
        by_cases hp : x.peril ≤ l.peril
        · have HR := Lib.hid (one_order (n := n) HRG.out (by omega) HLL.out ((winOrd_iff l x).2 (.inr ⟨heq, hp⟩)))
          clear heq
          go_wp2_with fail
          go_ret
          exact ⟨ret_int HR.out.symm, hb0.trans ((below_alloc1 w1 _).mono hb0.size)⟩
        · have HO : Hid (winOrd l x = false) := by rw [Bool.eq_false_iff]; intro h; have := (winOrd_iff l x).1 h; omega
          clear heq
          go_wp2_with fail
          go_meet
          exact ⟨rfl, below_alloc1 w1 _, fun l' hl' => by rw [HLL.out] at hl'; injection hl' with hl'; rw [← hl']; exact HO.out⟩
      · have qe : (x.fr == l.fr) = false := by simp; omega
        have hnl : ¬ x.fr < l.fr := by omega
        have HO : Hid (winOrd l x = false) := by rw [Bool.eq_false_iff]; intro h; have := (winOrd_iff l x).1 h; omega
        go_wp2_with fail
        go_meet
        exact ⟨rfl, below_alloc1 w1 _, fun l' hl' => by rw [HLL.out] at hl'; injection hl' with hl'; rw [← hl']; exact HO.out⟩
    · have q : decide (0 < m) = false := by simp; omega
      go_wp2_with fail
      go_meet
      refine ⟨rfl, Below.refl _ _, fun l hl => ?_⟩
      have : bs = [] := List.eq_nil_of_length_eq_zero (by have := HM.out; omega)
      rw [this] at hl; simp at hl
  case rest =>
    obtain ⟨rfl, hbc, hord⟩ := hcut
    have HR := Lib.hid (one_rest (n := n) HRG.out (by omega) hord)
    clear hord
    go_wp2_with fail
    go_loopw [10, 69] (fun _ ii wr => ∃ k : Nat, k ≤ m ∧ ii = .int .i64 k ∧ Below w1.heap.size w1 wr ∧ ((bs.drop k).any fun v => winMeet v x) = (bs.any fun v => winMeet v x)) (fun _ ii _ => m - (intOf ii).toNat)
    case atStart => exact ⟨0, Nat.zero_le _, rfl, hbc, rfl⟩
    case round =>
      obtain ⟨k, hk, rfl, hbr, hany⟩ := hrel
      have HA := Lib.hid hany
      clear hany
      by_cases hlt : k < m
      · obtain ⟨v, hv, hd⟩ := drop_cons (xs := bs) (i := k) (by rw [← HM.out]; exact hlt)
        obtain ⟨b, off, rfl, _, _, c0, c1, c2⟩ := (hB0.below hbr).at_ hv
        have j0 : wr.cell? ⟨w.heap.size, 0, none⟩ = some (.int .i64 x.peril) := (hbr.cell (p := ⟨w.heap.size, 0, none⟩) kz).trans k0
        have j1 : wr.cell? ⟨w.heap.size, 1, none⟩ = some (.int .i64 x.fr) := (hbr.cell (p := ⟨w.heap.size, 1, none⟩) kz).trans k1
        have j2 : wr.cell? ⟨w.heap.size, 2, none⟩ = some (.int .i64 x.to) := (hbr.cell (p := ⟨w.heap.size, 2, none⟩) kz).trans k2
        have jz : w.heap.size < wr.heap.size := Nat.lt_of_lt_of_le kz hbr.size
        have HV := Lib.hid (List.mem_of_getElem? hv)
        have HD := Lib.hid hd
        clear hv hd
        by_cases hmt : winMeet v x = true
        · obtain ⟨e1, e2, e3⟩ := (winMeet_iff v x).1 hmt
          have HX : Hid (oneE bs x n = 8) := by
            rw [HR.out, if_pos (List.any_eq_true.2 ⟨v, HV.out, hmt⟩)]; rfl
          have q1 : (v.peril == x.peril) = true := by simpa using e1
          clear hmt e1
          go_wp2_with fail
          go_ret
          exact ⟨ret_int HX.out.symm, hb0.trans ((hbr.alloc hbr.size _).mono hb0.size)⟩
        · have HX : Hid (((bs.drop (k + 1)).any fun v => winMeet v x) = (bs.any fun v => winMeet v x)) := by
            have := HA.out
            rw [HD.out, List.any_cons, Bool.eq_false_iff.2 hmt, Bool.false_or] at this
            exact this
          have hno : ¬ (v.peril = x.peril ∧ v.fr < x.to ∧ x.fr < v.to) := fun h => hmt ((winMeet_iff v x).2 h)
          clear hmt
          by_cases e1 : v.peril = x.peril
          · have q1 : (v.peril == x.peril) = true := by simpa using e1
            have hno' : ¬ (v.fr < x.to ∧ x.fr < v.to) := fun h => hno ⟨e1, h⟩
            clear hno e1
            by_cases e2 : v.fr < x.to
            · have e3 : ¬ x.fr < v.to := by omega
              go_wp2_with fail
              go_roundw
              case rel => exact ⟨k + 1, by omega, by go_num, hbr.alloc hbr.size _, HX.out⟩
              case measure => simp [intOf]; omega
            · go_wp2_with fail
              go_roundw
              case rel => exact ⟨k + 1, by omega, by go_num, hbr.alloc hbr.size _, HX.out⟩
              case measure => simp [intOf]; omega
          · have q1 : (v.peril == x.peril) = false := by simpa using e1
            clear hno e1
            go_wp2_with fail
            go_roundw
            case rel => exact ⟨k + 1, by omega, by go_num, hbr.alloc hbr.size _, HX.out⟩
            case measure => simp [intOf]; omega
      · obtain rfl : k = m := by omega
        have HX : Hid (oneE bs x n = 0) := by
          have h1 := HA.out
          rw [HM.out, List.drop_length, List.any_nil] at h1
          rw [HR.out, if_neg (by rw [← h1]; simp)]; rfl
        go_wp2_with fail
        go_ret
        exact ⟨ret_int HX.out.symm, hb0.trans (hbr.mono hb0.size)⟩

end Go.Proofs.Ytilkcailpkebdaa

/-
  event.Validate: its contract.
-/
namespace Go.Proofs.Ytilkcailpkebdaa
open Go.RowKit
set_option linter.unusedVariables false

theorem Wins.take {w : World} {lo : Nat} {A : Option Addr} {xs : List Win} (h : Wins w lo A xs) (k : Nat) : Wins w lo A (xs.take k) := by
  intro hp
  have hp' : 0 < (xs.map Win.cells).length := by simp at hp ⊢; omega
  obtain ⟨b, off, e, h1, h2, hc⟩ := h hp'
  refine ⟨b, off, e, h1, h2, fun i x hx => hc i x ?_⟩
  rw [List.map_take, List.getElem?_take] at hx
  split at hx
  · exact hx
  · cases hx

set_option maxHeartbeats 1000000 in
theorem validate_any (A : Option Addr) (c : Nat) (xs : List Win) (n : Int) (w : World) (hxl : xs.length ≤ 9223372036854775807) (hxc : xs.length ≤ c) (hX : Wins w 0 A xs) :
    Calls Try.prog 26 #[.slice A xs.length c, .int .i64 n] w fun e w' => e = .returned (.int .i64 (winsE xs n)) ∧ Below w.heap.size w w' := by
  obtain ⟨m, hm⟩ : ∃ m, m = xs.length := ⟨_, rfl⟩
  rw [← hm] at hxl hxc ⊢
  have HM := Lib.hid hm
  by_cases h64 : 64 < m
  · have HR : Hid (winsE xs n = 4) := by unfold winsE; rw [if_pos (by omega)]; rfl
    clear hm
    go_enter Try.func26, Try.ntmps26
    go_wp2_with fail
    go_ret
    exact ⟨ret_int HR.out.symm, Below.refl _ _⟩
  have q : decide (64 < (m : Int)) = false := by simp; omega
  by_cases hn : 1 ≤ n ∧ n ≤ 8784
  case neg =>
    have HR : Hid (winsE xs n = 1) := by unfold winsE; rw [if_neg (by omega), if_pos (by omega)]; rfl
    have v1 := withinB_false hn
    clear hm
    go_enter Try.func26, Try.ntmps26
    go_wp2_with (go_at_call 54; refine (within_any _ _ _ _).mono ?_; rintro e w' ⟨rfl, rfl⟩)
    go_ret
    exact ⟨ret_int HR.out.symm, Below.refl _ _⟩
  have HR : Hid (winsE xs n = winsLoop n [] xs) := by unfold winsE; rw [if_neg (by omega), if_neg (by omega)]; rfl
  have v1 := withinB_true hn.1 hn.2
  have CO : Hid (∀ (k : Nat) (x : Win) (W : World), k ≤ m → Wins W 0 A xs → Calls Try.prog 55 #[.slice A k c, .agg #[.int .i64 x.peril, .int .i64 x.fr, .int .i64 x.to], .int .i64 n] W fun e w' => e = .returned (.int .i64 (oneE (xs.take k) x n)) ∧ Below W.heap.size W w') := by
    intro k x W hk h
    have := one_any A c (xs.take k) x n W (by simp; omega) (h.take k)
    rw [List.length_take, Nat.min_eq_left (by omega)] at this
    exact this
  clear hm hn
  go_enter Try.func26, Try.ntmps26
  go_wp2_with (go_at_call 54; refine (within_any _ _ _ _).mono ?_; rintro e w' ⟨rfl, rfl⟩)
  go_loopw [5, 6, 7, 16] (fun _ _ _ ii wr => ∃ k : Nat, k ≤ m ∧ ii = .int .i64 k ∧ Below w.heap.size w wr ∧ winsLoop n (xs.take k) (xs.drop k) = winsLoop n [] xs) (fun _ _ _ ii _ => m - (intOf ii).toNat)
  case atStart => exact ⟨0, Nat.zero_le _, rfl, Below.refl _ _, rfl⟩
  case round =>
    obtain ⟨k, hk, rfl, hb, hloop⟩ := hrel
    have HL := Lib.hid hloop
    clear hloop
    by_cases hlt : k < m
    · obtain ⟨x, hx, hd⟩ := drop_cons (xs := xs) (i := k) (by rw [← HM.out]; exact hlt)
      obtain ⟨b, off, rfl, _, hbl, c0, c1, c2⟩ := (hX.below hb).at_ hx
      have HD := Lib.hid hd
      have HXK := Lib.hid hx
      clear hx hd
      go_wp2_with fail
      obtain ⟨w1, hw1⟩ : ∃ w1 : World, w1 = wr.alloc (.cells #[.int .i64 x.peril, .int .i64 x.fr, .int .i64 x.to] 53) := ⟨_, rfl⟩
      have d0 : w1.cell? ⟨wr.heap.size, 0, none⟩ = some (.int .i64 x.peril) := by rw [hw1]; simp
      have d1 : w1.cell? ⟨wr.heap.size, 1, none⟩ = some (.int .i64 x.fr) := by rw [hw1]; simp
      have d2 : w1.cell? ⟨wr.heap.size, 2, none⟩ = some (.int .i64 x.to) := by rw [hw1]; simp
      have hb1 : Below w.heap.size w w1 := by rw [hw1]; exact hb.alloc hb.size _
      have hX1 : Wins w1.drew 0 (some ⟨b, off, none⟩) xs := hX.below (w' := w1.drew) hb1.drew
      rw [← hw1]
      clear hw1 c0 c1 c2 hb
      have hk0 : (0 : Int) ≤ (k : Int) := by omega
      have hkc : (k : Int) ≤ (c : Int) := by omega
      have hkm : (k : Int) ≤ (m : Int) := by omega
      have hkc' : k ≤ c := by omega
      go_region_held3 (fun W => W.cell? ⟨wr.heap.size, 0, none⟩ = some (.int .i64 x.peril) ∧ W.cell? ⟨wr.heap.size, 1, none⟩ = some (.int .i64 x.fr) ∧ W.cell? ⟨wr.heap.size, 2, none⟩ = some (.int .i64 x.to))
        (first | go_keep | exact keep2)
        (first | (go_at_call 55; refine (CO.out k x _ hk hX1).mono ?_; rintro e w2 ⟨rfl, hb2⟩; have keep2 : w2.cell? ⟨wr.heap.size, 0, none⟩ = some (.int .i64 x.peril) ∧ w2.cell? ⟨wr.heap.size, 1, none⟩ = some (.int .i64 x.fr) ∧ w2.cell? ⟨wr.heap.size, 2, none⟩ = some (.int .i64 x.to) := ⟨(hb2.cell (p := ⟨wr.heap.size, 0, none⟩) (World.block_lt_of_cell? w1 _ d0)).trans d0, (hb2.cell (p := ⟨wr.heap.size, 1, none⟩) (World.block_lt_of_cell? w1 _ d1)).trans d1, (hb2.cell (p := ⟨wr.heap.size, 2, none⟩) (World.block_lt_of_cell? w1 _ d2)).trans d2⟩))
      have hbw : Below w.heap.size w w2 := hb1.drew.trans (hb2.mono hb1.size)
      by_cases he : oneE (xs.take k) x n = 0
      · have q3 : (oneE (xs.take k) x n != 0) = false := by rw [he]; rfl
        have HX := Lib.hid (wins_next HXK.out HD.out HL.out he)
        clear he
        go_wp2_with fail
        go_roundw
        case rel => exact ⟨k + 1, by omega, by go_num, hbw, HX.out⟩
        case measure => simp [intOf]; omega
      · have q3 : (oneE (xs.take k) x n != 0) = true := by simpa using he
        have HX := Lib.hid (wins_stop HD.out HL.out he)
        clear he
        go_wp2_with fail
        go_ret
        exact ⟨ret_int (HR.out.trans HX.out).symm, hbw⟩
    · obtain rfl : k = m := by omega
      have h1 := HL.out
      rw [HM.out] at h1
      have HX := Lib.hid (wins_end h1)
      clear h1
      go_wp2_with fail
      go_ret
      exact ⟨ret_int (HR.out.trans HX.out).symm, hb⟩

end Go.Proofs.Ytilkcailpkebdaa

/-
  event.Assign (with slices.IndexFunc and its closure), treatyref25.Assign: their contracts.
-/
namespace Go.Proofs.Ytilkcailpkebdaa
open Go.RowKit
set_option linter.unusedVariables false

set_option maxHeartbeats 1000000 in
theorem closure_any (x : Win) (l : Los) (bx : Nat) (w : World) (d3 : w.cell? ⟨bx, 3, none⟩ = some (.int .i64 l.hour)) (d4 : w.cell? ⟨bx, 4, none⟩ = some (.int .i64 l.peril)) :
    Calls Try.prog 64 #[.agg #[.int .i64 x.peril, .int .i64 x.fr, .int .i64 x.to], .pointer (some ⟨bx, 0, none⟩)] w fun e w' => e = .returned (.bool (covers x l)) ∧ Below w.heap.size w w' := by
  have hne : bx < w.heap.size := World.block_lt_of_cell? w _ d3
  by_cases h1 : x.peril = l.peril
  · have q1 : (x.peril == l.peril) = true := by simpa using h1
    by_cases h2 : x.fr ≤ l.hour
    · have q2 : decide (x.fr ≤ l.hour) = true := by simpa using h2
      by_cases h3 : l.hour < x.to
      · have HR := Lib.hid ((covers_iff x l).2 ⟨h1, h2, h3⟩)
        clear h1
        go_enter Try.func64, Try.ntmps64
        go_wp2_with fail
        go_ret
        exact ⟨ret_bool HR.out.symm, below_alloc1 _ _⟩
      · have HR : Hid (covers x l = false) := by rw [Bool.eq_false_iff]; intro h; have := (covers_iff x l).1 h; omega
        clear h1
        go_enter Try.func64, Try.ntmps64
        go_wp2_with fail
        go_ret
        exact ⟨ret_bool HR.out.symm, below_alloc1 _ _⟩
    · have HR : Hid (covers x l = false) := by rw [Bool.eq_false_iff]; intro h; have := (covers_iff x l).1 h; omega
      clear h1
      go_enter Try.func64, Try.ntmps64
      go_wp2_with fail
      go_ret
      exact ⟨ret_bool HR.out.symm, below_alloc1 _ _⟩
  · have q1 : (x.peril == l.peril) = false := by simpa using h1
    have HR : Hid (covers x l = false) := by rw [Bool.eq_false_iff]; intro h; have := (covers_iff x l).1 h; omega
    clear h1
    go_enter Try.func64, Try.ntmps64
    go_wp2_with fail
    go_ret
    exact ⟨ret_bool HR.out.symm, below_alloc1 _ _⟩

set_option maxHeartbeats 1000000 in
theorem indexFunc_any (A : Option Addr) (c : Nat) (ws : List Win) (l : Los) (bx : Nat) (w : World) (hl : ws.length ≤ 9223372036854775807) (hW : Wins w 0 A ws) (d3 : w.cell? ⟨bx, 3, none⟩ = some (.int .i64 l.hour)) (d4 : w.cell? ⟨bx, 4, none⟩ = some (.int .i64 l.peril)) :
    Calls Try.prog 63 #[.slice A ws.length c, .func (.func 64) #[] #[.pointer (some ⟨bx, 0, none⟩)]] w fun e w' => e = .returned (.int .i64 (asgAt ws l)) ∧ Below w.heap.size w w' := by
  obtain ⟨m, hm⟩ : ∃ m, m = ws.length := ⟨_, rfl⟩
  rw [← hm] at hl ⊢
  have HM := Lib.hid hm
  have hne : bx < w.heap.size := World.block_lt_of_cell? w _ d3
  clear hm
  go_enter Try.func63, Try.ntmps63
  go_wp2_with fail
  go_loopw [5, 8] (fun _ ii wr => ∃ k : Nat, k ≤ m ∧ ii = .int .i64 k ∧ Below w.heap.size w wr ∧ findW l (ws.drop k) k = asgAt ws l) (fun _ ii _ => m - (intOf ii).toNat)
  case atStart => exact ⟨0, Nat.zero_le _, rfl, Below.refl _ _, rfl⟩
  case round =>
    obtain ⟨k, hk, rfl, hb, hf⟩ := hrel
    have HF := Lib.hid hf
    clear hf
    by_cases hlt : k < m
    · obtain ⟨x, hx, hd⟩ := drop_cons (xs := ws) (i := k) (by rw [← HM.out]; exact hlt)
      obtain ⟨b, off, rfl, _, hbl, c0, c1, c2⟩ := (hW.below hb).at_ hx
      have e3 : wr.cell? ⟨bx, 3, none⟩ = some (.int .i64 l.hour) := (hb.cell (p := ⟨bx, 3, none⟩) hne).trans d3
      have e4 : wr.cell? ⟨bx, 4, none⟩ = some (.int .i64 l.peril) := (hb.cell (p := ⟨bx, 4, none⟩) hne).trans d4
      have CC := Lib.hid (closure_any x l bx wr e3 e4)
      have HD := Lib.hid hd
      clear hx hd e3 e4
      go_wp2_with fail
      refine CC.out.mono ?_
      rintro e w2 ⟨rfl, hb2⟩
      have hbw := hb.trans (hb2.mono hb.size)
      by_cases hc : covers x l = true
      · have HX := Lib.hid (findW_hit HD.out HF.out hc)
        go_wp2_with fail
        go_ret
        exact ⟨ret_int HX.out.symm, hbw⟩
      · have HX := Lib.hid (findW_next HD.out HF.out hc)
        have hc' : covers x l = false := Bool.eq_false_iff.2 hc
        clear hc
        go_wp2_with fail
        go_roundw
        case rel => exact ⟨k + 1, by omega, by go_num, hbw, HX.out⟩
        case measure => simp [intOf]; omega
    · obtain rfl : k = m := by omega
      have h1 := HF.out
      rw [HM.out] at h1
      have HX := Lib.hid (findW_end h1)
      clear h1
      go_wp2_with fail
      go_ret
      exact ⟨ret_int HX.out.symm, hb⟩

end Go.Proofs.Ytilkcailpkebdaa

/-
  event.Assign, treatyref25.Assign: their contracts.
-/
namespace Go.Proofs.Ytilkcailpkebdaa
open Go.RowKit
set_option linter.unusedVariables false

theorem findW_at_hit {l : Los} {ws : List Win} {k : Nat} {x : Win} (hd : ws.drop k = x :: ws.drop (k + 1)) (hc : covers x l = true) : findW l (ws.drop k) k = k := by rw [hd, findW, if_pos hc]
theorem findW_at_no {l : Los} {ws : List Win} {k : Nat} {x : Win} (hd : ws.drop k = x :: ws.drop (k + 1)) (hc : covers x l = false) : findW l (ws.drop k) k = findW l (ws.drop (k + 1)) (k + 1) := by rw [hd, findW, if_neg (by simp [hc])]

set_option maxHeartbeats 1000000 in
theorem assign_any (A : Option Addr) (c : Nat) (los : List Los) (B : Option Addr) (d : Nat) (ws : List Win) (w : World) (hll : los.length ≤ 1000) (hwl : ws.length ≤ 9223372036854775807) (hL : Losses w 0 A los) (hW : Wins w 0 B ws) :
    Calls Try.prog 33 #[.slice A los.length c, .slice B ws.length d] w fun e w' => ∃ G g, e = .returned (.slice G (asgF los ws).length g) ∧ Ints w' w.heap.size G (asgF los ws) ∧ Below w.heap.size w w' := by
  have CI : Hid (∀ (l : Los) (bx : Nat) (W : World), Wins W 0 B ws → W.cell? ⟨bx, 3, none⟩ = some (.int .i64 l.hour) → W.cell? ⟨bx, 4, none⟩ = some (.int .i64 l.peril) → _) := fun l bx W h h3 h4 => indexFunc_any B d ws l bx W hwl h h3 h4
  obtain ⟨n, hn⟩ : ∃ n, n = los.length := ⟨_, rfl⟩
  obtain ⟨m, hm⟩ : ∃ m, m = ws.length := ⟨_, rfl⟩
  rw [← hm] at CI
  rw [← hn] at hll
  rw [← hn, ← hm]
  have HN := Lib.hid hn
  clear hn hm hwl
  have hmk := run_make_row' (P := Try.prog) 23 3 (.int .i64 0) 8 Try.underlying23 Try.infoInt rfl .i64 .i64 n (by omega) (by omega)
  go_enter Try.func33, Try.ntmps33
  go_wp2_with fail
  have hrow0 := World.rowIs_made w (.int .i64 0) n 3
  have hb0 : Below w.heap.size w (w.alloc (.cells (madeCells #[.int .i64 0] n) 3)) := below_alloc1 _ _
  obtain ⟨g, hg⟩ : ∃ g, g = w.heap.size := ⟨_, rfl⟩
  rw [← hg] at hrow0 ⊢
  have hgw : w.heap.size ≤ g := by omega
  clear hg hmk
  go_loopw [6, 7, 13] (fun _ _ ii wr => ∃ (i : Nat) (F : Nat → Int), i ≤ n ∧ ii = .int .i64 i ∧ wr.rowIs g 3 n (fun j => .int .i64 (F j)) ∧ Below w.heap.size w wr ∧ ∀ j l, j < i → los[j]? = some l → F j = asgAt ws l) (fun _ _ ii _ => n - (intOf ii).toNat)
  case atStart => exact ⟨0, fun _ => 0, Nat.zero_le _, rfl, hrow0, hb0, fun j l hj => absurd hj (by omega)⟩
  case round =>
    obtain ⟨i, F, hi, rfl, hrow, hb, hF⟩ := hrel
    have HF := Lib.hid hF
    clear hF hrow0 hb0
    by_cases hin : i < n
    · obtain ⟨l, hl, _⟩ := drop_cons (xs := los) (i := i) (by rw [← HN.out]; exact hin)
      obtain ⟨b, off, rfl, _, _, c0, c1, c2, c3, c4, c5, c6, c7, c8, c9⟩ := (hL.below hb).at_ hl
      have HLI := Lib.hid hl
      clear hl
      have hb1 := hb.alloc hb.size (.cells #[.int .i64 l.id, .int .i64 l.pol, .int .i64 l.risk, .int .i64 l.hour, .int .i64 l.peril, .int .i64 l.area, .int .i64 l.cur, .int .i64 l.sum, .int .i64 l.amt, .int .i64 l.paid] 55)
      have CC := Lib.hid (CI.out l wr.heap.size _ (hW.below hb1) (by simp) (by simp))
      have hrow1 := hrow.alloc (.cells #[.int .i64 l.id, .int .i64 l.pol, .int .i64 l.risk, .int .i64 l.hour, .int .i64 l.peril, .int .i64 l.area, .int .i64 l.cur, .int .i64 l.sum, .int .i64 l.amt, .int .i64 l.paid] 55)
      go_wp2_with fail
      refine CC.out.mono ?_
      rintro e w2 ⟨rfl, hb2⟩
      have hbw := hb1.trans (hb2.mono hb1.size)
      have hrow2 : w2.rowIs g 3 n (fun j => .int .i64 (F j)) := World.rowIs.of_block hrow1 (hb2.block g hrow1.lt)
      have x0 := hrow2.cell hin
      have xf := hrow2.frozen i
      clear hb1 hb2 CC hrow1 hrow c0 c1 c2 c3 c4 c5 c6 c7 c8 c9
      go_wp2_with fail
      go_roundw
      case rel =>
        refine ⟨i + 1, fun k => if k = i then asgAt ws l else F k, by omega, by go_num, ?_, hbw.setCell hgw _, fun j l' hj hl' => ?_⟩
        · refine (hrow2.set i _).congr fun k _ => ?_
          by_cases hk : k = i <;> simp [hk]
        · dsimp only
          by_cases hji : j = i
          · rw [if_pos hji]; rw [hji, HLI.out] at hl'; injection hl' with hl'; rw [hl']
          · rw [if_neg hji]; exact HF.out j l' (by omega) hl'
      case measure => simp [intOf]; omega
    · go_wp2_with fail
      go_ret
      refine ⟨some ⟨g, 0, none⟩, n, by simp [asgF, ← HN.out], ?_, hb⟩
      refine ints_of_row (F := F) (by simpa [asgF, ← HN.out] using hrow) hgw fun j x hx => ?_
      simp only [asgF, List.getElem?_map, Option.map_eq_some_iff] at hx
      obtain ⟨l, hl, rfl⟩ := hx
      have := (List.getElem?_eq_some_iff.1 hl).1
      rw [← HN.out] at this
      exact HF.out j l (by omega) hl


end Go.Proofs.Ytilkcailpkebdaa

/-
  treatyref25.Check: its contract, at the same plain function.
-/
namespace Go.Proofs.Ytilkcailpkebdaa
open Go.RowKit
set_option linter.unusedVariables false

set_option maxHeartbeats 1000000 in
theorem rcheckE_any (A : Option Addr) (c : Nat) (los : List Los) (B : Option Addr) (d : Nat) (am : List Int) (w : World) (hll : los.length ≤ 9223372036854775807) (hal : am.length ≤ 9223372036854775807) (hL : Losses w 0 A los) (hM : Ints w 0 B am) :
    Calls Try.prog 39 #[.slice A los.length c, .slice B am.length d] w fun e w' => e = .returned (.int .i64 (chkE los am)) ∧ Below w.heap.size w w' := by
  obtain ⟨n, hn⟩ : ∃ n, n = los.length := ⟨_, rfl⟩
  obtain ⟨m, hm⟩ : ∃ m, m = am.length := ⟨_, rfl⟩
  rw [← hn] at hll ⊢
  rw [← hm] at hal ⊢
  have HN := Lib.hid hn
  have HM := Lib.hid hm
  by_cases hlim : 64 < los.length ∨ am.length ≠ los.length
  · have HR := Lib.hid (chkE_lim hlim)
    rw [← hn, ← hm] at hlim
    clear hn hm
    by_cases h1 : 64 < n
    · have q : decide (64 < (n : Int)) = true := by simp; omega
      go_enter Try.func39, Try.ntmps39
      go_wp2_with fail
      go_ret
      exact ⟨ret_int HR.out.symm, Below.refl _ _⟩
    · have q : decide (64 < (n : Int)) = false := by simp; omega
      have q2 : (m != n) = true := by simp; omega
      have q3 : ((m : Int) != (n : Int)) = true := by simp; omega
      clear hlim
      go_enter Try.func39, Try.ntmps39
      go_wp2_with fail
      go_ret
      exact ⟨ret_int HR.out.symm, Below.refl _ _⟩
  have HL := Lib.hid hlim
  have hn64 : n ≤ 64 := by omega
  obtain rfl : m = n := by omega
  have q : decide (64 < (m : Int)) = false := by simp; omega
  clear hlim hn hm
  go_enter Try.func39, Try.ntmps39
  go_wp2_with fail
  go_loopw [5, 6, 7, 20] (fun s _ _ ii wr => ∃ (k : Nat) (acc : Int), k ≤ m ∧ ii = .int .i64 k ∧ s = .int .i64 acc ∧ 0 ≤ acc ∧ acc ≤ 17592186044416 * k ∧ Below w.heap.size w wr ∧ ((los.zip am).drop k).all pairOk = (los.zip am).all pairOk ∧ acc + sumI (am.drop k) = sumI am) (fun _ _ _ ii _ => m - (intOf ii).toNat)
  case atStart => exact ⟨0, 0, Nat.zero_le _, rfl, rfl, by omega, by omega, Below.refl _ _, rfl, by simp⟩
  case round =>
    obtain ⟨k, acc, hk, rfl, rfl, h0, h1, hb, hall, hs⟩ := hrel
    have HA := Lib.hid hall
    have HS := Lib.hid hs
    clear hall hs
    by_cases hlt : k < m
    · obtain ⟨l, hl, _⟩ := drop_cons (xs := los) (i := k) (by rw [← HN.out]; exact hlt)
      obtain ⟨a, ha, hd⟩ := drop_cons (xs := am) (i := k) (by rw [← HM.out]; exact hlt)
      have HZ := Lib.hid (zip_get hl ha)
      have HD := Lib.hid hd
      obtain ⟨b, off, rfl, _, _, c0, c1, c2, c3, c4, c5, c6, c7, c8, c9⟩ := (hL.below hb).at_ hl
      obtain ⟨b2, off2, rfl, _, _, m0⟩ := (hM.below hb).at_ ha
      clear hl ha hd
      by_cases hok : pairOk (l, a) = true
      · obtain ⟨g1, g2, g3, g4, g5, g6⟩ := (pairOk_iff l a).1 hok
        have v1 : inHoursB l.hour = true := by simp [inHoursB]; omega
        have HO := Lib.hid hok
        clear hok
        go_wp2_with (go_at_call 69; refine (inHours_any _ _).mono ?_; rintro e w' ⟨rfl, rfl⟩)
        go_roundw
        case rel => exact ⟨k + 1, acc + a, by omega, by go_num, rfl, by omega, by omega, hb.alloc hb.size _, zall_next HZ.out HA.out HO.out, sumI_next HD.out HS.out⟩
        case measure => simp [intOf]; omega
      · have HR := Lib.hid (chkE_bad HL.out (zall_bad HZ.out (Bool.eq_false_iff.2 hok)))
        have hno : ¬ (0 ≤ l.hour ∧ l.hour ≤ 876599 ∧ 0 ≤ l.peril ∧ l.peril ≤ 15 ∧ 0 ≤ a ∧ a ≤ 17592186044416) := fun h => hok ((pairOk_iff l a).2 h)
        clear hok
        by_cases h1 : 0 ≤ l.hour ∧ l.hour ≤ 876599
        · have v1 : inHoursB l.hour = true := by simp [inHoursB]; omega
          have hno' : ¬ (0 ≤ l.peril ∧ l.peril ≤ 15 ∧ 0 ≤ a ∧ a ≤ 17592186044416) := by omega
          clear hno h1
          go_wp2_with (go_at_call 69; refine (inHours_any _ _).mono ?_; rintro e w' ⟨rfl, rfl⟩)
          all_goals first | (exfalso; omega) | (go_ret; exact ⟨ret_int HR.out.symm, hb.alloc hb.size _⟩)
        · have v1 : inHoursB l.hour = false := by simp [inHoursB]; omega
          clear hno h1
          go_wp2_with (go_at_call 69; refine (inHours_any _ _).mono ?_; rintro e w' ⟨rfl, rfl⟩)
          go_ret
          exact ⟨ret_int HR.out.symm, hb.alloc hb.size _⟩
    obtain rfl : k = m := by omega
    have hall : (los.zip am).all pairOk = true := by
      have := HA.out
      rw [List.drop_eq_nil_of_le (by rw [List.length_zip]; have := HN.out; omega)] at this
      exact this.symm
    have HR := Lib.hid (chkE_sum HL.out hall)
    have hs := HS.out
    rw [HM.out, List.drop_length, sumI, Int.add_zero] at hs
    have HSS := Lib.hid hs
    clear hs HS hall HA
    by_cases hov : 17592186044416 < acc
    · go_wp2_with fail
      go_ret
      exact ⟨ret_int (by rw [HR.out, ← HSS.out, if_pos (by omega)]), hb⟩
    · go_wp2_with fail
      go_ret
      exact ⟨ret_int (by rw [HR.out, ← HSS.out, if_neg (by omega)]), hb⟩

end Go.Proofs.Ytilkcailpkebdaa

/-
  event.Totals: its contract.
-/
namespace Go.Proofs.Ytilkcailpkebdaa
open Go.RowKit
set_option linter.unusedVariables false

theorem asgF_len (los : List Los) (ws : List Win) : (asgF los ws).length = los.length := by simp [asgF]
theorem totF_len (los : List Los) (am : List Int) (ws : List Win) : (totF los am ws).length = ws.length := by simp [totF]

set_option maxHeartbeats 1000000 in
theorem totals_any (A : Option Addr) (c : Nat) (los : List Los) (M : Option Addr) (mc : Nat) (am : List Int) (B : Option Addr) (d : Nat) (ws : List Win) (w : World) (hll : los.length ≤ 9223372036854775807) (hal : am.length ≤ 9223372036854775807) (hwl : ws.length ≤ 1000) (hL : Losses w 0 A los) (hM : Ints w 0 M am) (hW : Wins w 0 B ws) :
    Calls Try.prog 47 #[.slice A los.length c, .slice M am.length mc, .slice B ws.length d] w fun e w' => ∃ G g, e = .returned (.tuple #[.slice G (totalsF los am ws).length g, .int .i64 (chkE los am)]) ∧ Ints w' w.heap.size G (totalsF los am ws) ∧ Below w.heap.size w w' := by
  have CC := Lib.hid (checkE_any A c los M mc am w hll hal hL hM)
  by_cases hce : chkE los am = 0
  case neg =>
    have HX : Hid (totalsF los am ws = []) := by unfold totalsF; rw [if_neg hce]; rfl
    have q0 : (chkE los am != 0) = true := by simpa using hce
    clear hce
    go_enter Try.func47, Try.ntmps47
    go_wp2_with (go_at_call 36; refine CC.out.mono ?_; rintro e w1 ⟨rfl, hb1⟩)
    go_ret2
    refine ⟨none, 0, by rw [HX.out]; rfl, by rw [HX.out]; exact Sl.none_, hb1⟩
  have HCE := Lib.hid hce
  have HX : Hid (totalsF los am ws = totF los am ws) := by unfold totalsF; rw [if_pos hce]; rfl
  have GG := Lib.hid (goodE_of hce)
  have HAM := Lib.hid (zip_amounts (goodE_of hce).same (goodE_of hce).all)
  have q0 : (chkE los am != 0) = false := by rw [hce]; rfl
  have hl64 := (goodE_of hce).len
  have CA : Hid (∀ W, Losses W 0 A los → Wins W 0 B ws → _) := fun W h h' => assign_any A c los B d ws W (by omega) (by omega) h h'
  rw [asgF_len] at CA
  clear hce
  obtain ⟨n, hn⟩ : ∃ n, n = los.length := ⟨_, rfl⟩
  obtain ⟨m, hm⟩ : ∃ m, m = ws.length := ⟨_, rfl⟩
  have HN := Lib.hid hn
  have HM := Lib.hid hm
  have HA : Hid (am.length = n) := by rw [hn]; exact GG.out.same
  rw [HA.out] at CC
  rw [HA.out]
  rw [← hn] at CC CA hl64
  rw [← hm] at CA hwl
  rw [← hn, ← hm]
  clear hn hm hll hal
  have hmk := run_make_row' (P := Try.prog) 23 3 (.int .i64 0) 8 Try.underlying23 Try.infoInt rfl .i64 .i64 m (by omega) (by omega)
  go_enter Try.func47, Try.ntmps47
  go_wp2_with (go_at_call 36; refine CC.out.mono ?_; rintro e w1 ⟨rfl, hb1⟩)
  have hrow0 := World.rowIs_made w1 (.int .i64 0) m 3
  have hba := hb1.alloc hb1.size (.cells (madeCells #[.int .i64 0] m) 3)
  have hbs := hb1.size
  obtain ⟨w2, hw2⟩ : ∃ w2 : World, w2 = w1.alloc (.cells (madeCells #[.int .i64 0] m) 3) := ⟨_, rfl⟩
  obtain ⟨g, hg⟩ : ∃ g, g = w1.heap.size := ⟨_, rfl⟩
  rw [← hw2] at hrow0 hba ⊢
  rw [← hg] at hrow0 ⊢
  have hgw : w.heap.size ≤ g := by omega
  clear hg hmk hw2 hb1
  refine (CA.out _ (hL.below hba) (hW.below hba)).mono ?_
  rintro e w3 ⟨G1, c1, rfl, hG1, hb3⟩
  have hg2 := hrow0.lt
  have hrow3 : w3.rowIs g 3 m (fun _ => .int .i64 0) := World.rowIs.of_block hrow0 (hb3.block g hg2)
  have hb03 := hba.trans (hb3.mono hba.size)
  clear hrow0 hb3
  go_wp2_with fail
  go_loopw [10, 11, 25] (fun _ _ ii wr => ∃ (i : Nat) (F : Nat → Int), i ≤ n ∧ ii = .int .i64 i ∧ wr.rowIs g 3 m (fun j => .int .i64 (F j)) ∧ (∀ j, 0 ≤ F j ∧ F j ≤ 17592186044416 * i) ∧ Below w.heap.size w wr ∧ Ints wr w2.heap.size G1 (asgF los ws) ∧ totLoop ((asgF los ws).drop i) (am.drop i) F = totLoop (asgF los ws) am fun _ => 0) (fun _ _ ii _ => n - (intOf ii).toNat)
  case atStart => exact ⟨0, fun _ => 0, Nat.zero_le _, rfl, hrow3, fun _ => by simp, hb03, hG1, rfl⟩
  case round =>
    obtain ⟨i, F, hi, rfl, hrow, hF, hb, hGr, hT⟩ := hrel
    have HF := Lib.hid hF
    have HT := Lib.hid hT
    clear hF hT hrow3 hb03 hG1
    by_cases hin : i < n
    case neg =>
      obtain rfl : i = n := by omega
      have h1 := HT.out
      rw [show i = (asgF los ws).length by rw [asgF_len, ← HN.out]] at h1
      have HE := Lib.hid (tot_end h1)
      clear h1
      go_wp2_with fail
      go_ret2
      refine ⟨some ⟨g, 0, none⟩, m, ?_, ?_, hb⟩
      · rw [HX.out, totF_len, ← HM.out, HCE.out]; rfl
      · rw [HX.out]
        refine ints_of_row (F := F) (by rw [totF_len, ← HM.out]; exact hrow) hgw fun j x hx => ?_
        unfold totF at hx
        rw [HE.out, List.getElem?_map, Option.map_eq_some_iff] at hx
        obtain ⟨k, hk, rfl⟩ := hx
        have := (List.getElem?_eq_some_iff.1 hk).2
        simp at this
        rw [this]
    obtain ⟨s, hs, hds⟩ := drop_cons (xs := asgF los ws) (i := i) (by rw [asgF_len, ← HN.out]; exact hin)
    obtain ⟨a, ha, hda⟩ := drop_cons (xs := am) (i := i) (by rw [HA.out]; exact hin)
    have hsb : s = -1 ∨ 0 ≤ s ∧ s < m := by
      simp only [asgF, List.getElem?_map, Option.map_eq_some_iff] at hs
      obtain ⟨l, _, rfl⟩ := hs
      have := asgAt_bd ws l
      rw [← HM.out] at this
      exact this
    have hab := HAM.out a (List.mem_of_getElem? ha)
    obtain ⟨b, off, rfl, hblo, hbl, s0⟩ := hGr.at_ hs
    obtain ⟨b2, off2, rfl, _, hbl2, a0⟩ := (hM.below hb).at_ ha
    have HDS := Lib.hid hds
    have HDA := Lib.hid hda
    clear hs hds ha hda
    by_cases h0 : 0 ≤ s
    case neg =>
      have hT2 := Lib.hid (tot_no HDS.out HDA.out HT.out h0)
      go_wp2_with fail
      go_roundw
      case rel => exact ⟨i + 1, F, by omega, by go_num, hrow, fun j => by have := HF.out j; omega, hb, hGr, hT2.out⟩
      case measure => simp [intOf]; omega
    obtain ⟨J, rfl⟩ := Int.eq_ofNat_of_zero_le h0
    have hJ : J < m := by omega
    have hT2 := Lib.hid (tot_yes HDS.out HDA.out HT.out h0)
    have x0 := hrow.cell hJ
    have xf := hrow.frozen J
    have hFJ := HF.out J
    clear hsb
    go_wp2_with fail
    go_region
    go_wp2_with fail
    go_roundw
    case rel =>
      refine ⟨i + 1, addTo F J a, by omega, by go_num, ?_, fun j => ?_, hb.drew.setCell hgw _, ?_, hT2.out⟩
      · refine ((World.rowIs.drew hrow).set J _).congr fun j _ => ?_
        unfold addTo
        by_cases hj : j = J
        · subst hj; simp
        · rw [if_neg hj, if_neg (by omega)]
      · have := HF.out j
        unfold addTo; split <;> omega
      · intro hp
        obtain ⟨b', off', e, h1, h2, hc⟩ := hGr hp
        refine ⟨b', off', e, h1, by simpa [World.setCell] using h2, fun i' x' hx' j' u' hu' => ?_⟩
        show (wr.setCell ⟨g, J, none⟩ (.int .i64 (F J + a))).cell? ⟨b', off' + i' * 1 + j', none⟩ = some u'
        rw [World.cell?_setCell_other _ _ _ _ (fun e => by injection e with e; omega)]
        exact hc i' x' hx' j' u' hu'
    case measure => simp [intOf]; omega

end Go.Proofs.Ytilkcailpkebdaa

/-
  slices.Clone at []api.Window, treatyref25.SameWindows: their contracts.
-/
namespace Go.Proofs.Ytilkcailpkebdaa
open Go.RowKit
set_option linter.unusedVariables false

theorem Try.infoWindow : (Try.prog.info? 53).map (fun i => (i.zero, i.size, i.bytes)) = some (some (.agg #[.int .i64 0, .int .i64 0, .int .i64 0]), 3, 24) := by kernel_rfl

theorem own_void (w : World) (e : TypeId) (size : Nat) : (w.alloc (.cells #[] e)).ownsRow w.heap.size e size (.slice (some ⟨w.heap.size, 0, none⟩) 0 0) 0 [] :=
  ⟨by simp, .inr ⟨w.heap.size, 0, #[], rfl, Nat.le_refl _, heap_alloc_new w _, Nat.le_refl _, Nat.zero_le _, by simp, by simp⟩⟩
/-- The cells of a slice that reads as a list, flat. -/
theorem sl_cells {α : Type} {enc : α → List Value} {k : Nat} (hk : ∀ x, (enc x).length = k) (hk0 : 0 < k) {w : World} {lo b off : Nat} {xs : List α} (h : Sl w lo k (some ⟨b, off, none⟩) (xs.map enc)) : ∀ (j : Nat) (u : Value), (xs.flatMap enc)[j]? = some u → w.cell? (({ block := b, off := off } : Addr).add j) = some u := by
  intro j u hu
  have hl : j < xs.length * k := by
    have := (List.getElem?_eq_some_iff.1 hu).1
    rwa [flat_len enc k hk] at this
  have hi : j / k < xs.length := Nat.div_lt_of_lt_mul (by rw [Nat.mul_comm]; exact hl)
  obtain ⟨x, hx, _⟩ := drop_cons hi
  have hf := flat_get enc k hk xs (j / k) x hx (j % k) (Nat.mod_lt _ hk0)
  have hj : j / k * k + j % k = j := Nat.div_add_mod' j k
  rw [hj, hu] at hf
  obtain ⟨b', off', e, _, _, hc⟩ := h.at_ (i := j / k) (x := enc x) (by simp [hx])
  obtain ⟨rfl, rfl⟩ : b = b' ∧ off = off' := by simpa using e
  have hcc := hc (j % k) u hf.symm
  rw [Nat.add_assoc, hj] at hcc
  have ha : (({ block := b, off := off } : Addr).add j) = ⟨b, off + j, none⟩ := by
    unfold Addr.add; split
    · rename_i h0; rw [h0]; simp
    · rfl
  rw [ha]; exact hcc

set_option maxHeartbeats 1000000 in
theorem clone_any (A : Option Addr) (c : Nat) (ws : List Win) (w : World) (hl : ws.length ≤ 1000) (hW : Wins w 0 A ws) :
    Calls Try.prog 48 #[.slice A ws.length c] w fun e w' => ∃ v, e = .returned v ∧ w'.ownsRow w.heap.size 53 3 v ws.length (ws.flatMap Win.cells) ∧ Below w.heap.size w w' := by
  have hq := fun wx => Lib.run_eql_slice_nil (P := Try.prog) wx 41 53 A ws.length c 0 0 Try.underlying41
  rcases A with _ | ad
  · have hw : ws = [] := by
      cases ws with
      | nil => rfl
      | cons x xs => obtain ⟨b, off, e, _⟩ := hW (by simp); cases e
    subst hw
    simp only [List.length_nil, Option.isNone_none] at hq ⊢
    go_enter Try.func48, Try.ntmps48
    go_wp2_with fail
    go_ret
    exact ⟨_, rfl, own_nil _ _ _ _, Below.refl _ _⟩
  · simp only [Option.isNone_some] at hq
    obtain ⟨i0, hi, hz0, hz1, hz2⟩ := info_parts Try.infoWindow
    have hnews : ∀ (j : Nat) (u : Value), (ws.flatMap Win.cells)[j]? = some u → (w.alloc (.cells #[] 53)).cell? (ad.add j) = some u := by
      intro j u hu
      have h0 : 0 < (ws.map Win.cells).length := by
        have := (List.getElem?_eq_some_iff.1 hu).1
        rw [flat_len Win.cells 3 (fun _ => rfl)] at this
        simp; omega
      obtain ⟨b, off, e, _⟩ := hW h0
      obtain rfl : ad = ⟨b, off, none⟩ := Option.some.inj e
      have hs : Sl (w.alloc (.cells #[] 53)) 0 3 (some ⟨b, off, none⟩) (ws.map Win.cells) := Wins.below hW (below_alloc1 _ _)
      exact sl_cells (enc := Win.cells) (k := 3) (fun _ => rfl) (by omega) hs j u hu
    obtain ⟨n, hn⟩ : ∃ n, n = ws.length := ⟨_, rfl⟩
    have HN := Lib.hid hn
    rw [← hn] at hl hq ⊢
    clear hn
    go_enter Try.func48, Try.ntmps48
    go_wp2_with (at_builtin; refine wpList_append_own _ rfl (.tmp 5) (.tmp 6) 41 rfl w.heap.size 53 i0 _ 3 24 Try.underlying41 hi hz0 hz1 hz2 rfl (by decide) _ 0 [] rfl (own_void w 53 3) ad n c (ws.flatMap Win.cells) rfl ?c0 hnews ?c2 ?c3 ?c4 ?c5 ?_)
    case c0 => rw [flat_len Win.cells 3 (fun _ => rfl), ← HN.out]
    case c2 =>
      intro u hu
      obtain ⟨x, _, hx⟩ := List.mem_flatMap.1 hu
      simp [Win.cells] at hx
      rcases hx with rfl | rfl | rfl <;> rfl
    case c3 => unfold maxLen; omega
    case c4 => omega
    case c5 => simp
    intro v' w5 hown5 hg5 _
    have hb45 : Below w.heap.size w w5 := (below_alloc1 w _).grown hg5 (by simp) (fun g hg => by simp [Value.ownBlock] at hg; omega)
    clear hq hnews
    go_wp2_with fail
    go_ret
    exact ⟨v', rfl, hown5, hb45⟩


end Go.Proofs.Ytilkcailpkebdaa
