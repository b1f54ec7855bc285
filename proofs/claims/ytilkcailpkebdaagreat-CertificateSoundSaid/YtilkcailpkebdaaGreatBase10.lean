/-
  Texts of the proof, one after the other.
-/
import Derived.Test.YtilkcailpkebdaaGreatBase7
import Derived.Test.YtilkcailpkebdaaGreatBase2
import Derived.Test.YtilkcailpkebdaaGreatBase4
import Derived.Test.YtilkcailpkebdaaGreatShelf
import Derived.Test.YtilkcailpkebdaaGreatBase3
import Derived.StillTailTactics
import Derived.Outline
import Derived.Test.YtilkcailpkebdaaGreatBase1

/-
  The verdict on a choice, in plain Lean; the greatest recoveries are bounds.
-/
namespace Go.Proofs.YtilkcailpkebdaaGreat
open Go.RowKit
set_option linter.unusedVariables false

theorem layerF_le {t : Int} (h : 0 ≤ t) (r l : Int) : layerF t r l ≤ t := by
  have a := limited_bd l
  have b := limited_bd r
  have c : limited t ≤ t := by unfold limited imax imin; repeat' split
                               all_goals omega
  unfold layerF imax imin
  repeat' split
  all_goals omega
theorem sumL_le {t : Int} (h : 0 ≤ t) : ∀ ls : List P2, sumL t ls ≤ ls.length * t := by
  intro ls
  induction ls with
  | nil => simp [sumL]
  | cons l ls ih =>
    have := layerF_le h l.a l.b
    simp only [sumL, List.length_cons]
    rw [Int.natCast_add, Int.add_mul]
    omega
theorem recVal_le {t : Int} (h : 0 ≤ t) (ls : List P2) : recVal t ls ≤ ls.length * t := by
  unfold recVal; split
  · exact sumL_le h ls
  · exact Int.mul_nonneg (by omega) h
theorem sumT_split {ps : List P2} {i j : Nat} (hij : i ≤ j) : sumB (ps.drop i) = sumT ps i (j - i + 1) + sumB (ps.drop (j + 1)) := by
  unfold sumT
  rw [← sumB_append]
  have : ps.drop (j + 1) = (ps.drop i).drop (j - i + 1) := by rw [List.drop_drop]; congr 1; omega
  rw [this, List.take_append_drop]
theorem valAt_le {L : Int} {ls ps : List P2} (hp : ∀ p ∈ ps, ptOk p = true) : ∀ (m i : Nat), ps.length - i ≤ m → i ≤ ps.length → valAt L ls ps i ≤ ls.length * sumB (ps.drop i) := by
  intro m
  induction m with
  | zero =>
    intro i hm hi
    obtain rfl : i = ps.length := by omega
    rw [valAt_end, List.drop_length]; simp [sumB]
  | succ m ih =>
    intro i hm hi
    by_cases hin : i < ps.length
    · obtain ⟨p, hpi, hd⟩ := drop_cons (xs := ps) (i := i) hin
      have hnn : ∀ k, 0 ≤ sumB (ps.drop k) := fun k => sumB_nonneg fun u hu => hp u (List.mem_of_mem_drop hu)
      by_cases he : valAt L ls ps i = valAt L ls ps (i + 1)
      · rw [he]
        refine Int.le_trans (ih (i + 1) (by omega) (by omega)) ?_
        have hpo := (ptOk_iff p).1 (hp p (List.mem_of_getElem? hpi))
        refine Int.mul_le_mul_of_nonneg_left ?_ (by omega)
        rw [hd, sumB]; omega
      · obtain ⟨j, hj⟩ := findAt_some hd he
        have hb := findAt_bd hj
        unfold findAt at hj
        obtain ⟨_, h3⟩ := find_val (ps.length - i) i j 0 (Nat.le_refl _) hj
        rw [Int.zero_add] at h3
        have h4 := ih (j + 1) (by omega) (by omega)
        have h5 := recVal_le (sumT_bd hp i (j - i + 1)).1 ls
        rw [sumT_split hb.1, Int.mul_add]
        omega
    · obtain rfl : i = ps.length := by omega
      rw [valAt_end, List.drop_length]; simp [sumB]
theorem inner_scan {L : Int} {ls : List P2} {h0 r : Int} : ∀ (qs : List P2) (vs : List Int) (t b : Int), scan L ls h0 qs vs t b ≤ r → innerB L ls h0 r qs vs t = true := by
  intro qs
  induction qs with
  | nil => intro vs t b _; simp [innerB]
  | cons q qs ih =>
    intro vs t b h
    cases vs with
    | nil => simp [innerB]
    | cons v vs =>
      simp only [scan] at h
      simp only [innerB]
      split
      · rfl
      · rename_i hL
        rw [if_neg hL] at h
        have h2 := scan_ge L ls h0 qs vs (t + q.b) (imax b (recVal (t + q.b) ls + v))
        have h3 : recVal (t + q.b) ls + v ≤ imax b (recVal (t + q.b) ls + v) := by unfold imax; split <;> omega
        rw [if_neg (by omega)]
        exact ih vs _ _ h
theorem outer_vals (L : Int) (ls : List P2) : ∀ ps : List P2, outerB L ls ps (valsF L ls ps) = true := by
  intro ps
  induction ps with
  | nil => simp [outerB]
  | cons p ps ih =>
    rw [valsF, outerB, if_neg, if_pos (inner_scan _ _ _ _ (Int.le_refl _))]
    · exact ih
    · have := scan_ge L ls p.a (p :: ps) (valsF L ls ps) 0 (hdI (valsF L ls ps)); omega
theorem bound_vals {ps : List P2} {L : Int} {ls : List P2} (h : chkErr ps L ls = 0) (hK : ls.length * sumB ps ≤ 17592186044416) : boundB ps L ls (valsF L ls ps) = true := by
  have G := good_of h
  unfold boundB
  rw [if_neg (by simp [h]), if_neg (by rw [valsF_length]; simp), if_neg]
  · exact outer_vals L ls ps
  · rw [Bool.not_eq_false, List.all_eq_true]
    intro v hv
    obtain ⟨j, hj, rfl⟩ := List.mem_iff_getElem.1 hv
    rw [valsF_length] at hj
    have e := valsF_get L ls ps j (by omega)
    rw [List.getElem?_eq_getElem (by rw [valsF_length]; omega)] at e
    have e := Option.some.inj e
    rw [e]
    have h1 := (valAt_bd L ls ps j).1
    have h2 := valAt_le (L := L) (ls := ls) G.pt (ps.length - j) j (Nat.le_refl _) (by omega)
    have h3 := Int.mul_le_mul_of_nonneg_left (sumB_drop_le G.pt j) (show (0 : Int) ≤ (ls.length : Int) by omega)
    exact (vOk_iff _).2 ⟨h1, by omega⟩

def hdV (b : Bd) : Int := hdI b.vs
def okB (los : List Los) (am : List Int) (n : Int) (ls : List P2) (z : Int × Bd) : Bool := decide (z.2.p = z.1) && boundB (ptsF los am z.1) n ls z.2.vs
def verF (los : List Los) (am : List Int) (n : Int) (ls : List P2) (tot : Int) (bs : List Bd) : Int :=
  if bs.length ≠ (perilsF los).length then 17 else if ((perilsF los).zip bs).all (okB los am n ls) = false then 17 else if sumI (bs.map hdV) = tot then 0 else 17
/-- The certificate of the best windows: the verdict hangs on the total alone. -/
theorem ver_prov {los : List Los} {am : List Int} {n : Int} {ls : List P2} {bs : List Bd} (h : chkE los am = 0) (hr : recErr 0 ls = 0) (h1 : 1 ≤ n) (h2 : n ≤ 8784) (hK : ls.length * sumI am ≤ 17592186044416) (hk : bs.map Bd.key = provF los am n ls) (tot : Int) : verF los am n ls tot bs = if bestSum los am n ls = tot then 0 else 17 := by
  have hP : provF los am n ls = (perilsF los).map (fun p => (p, valsF n ls (ptsF los am p))) := by unfold provF; rw [if_pos (bestA_ok h hr h1 h2)]
  rw [hP] at hk
  have hl : bs.length = (perilsF los).length := by have := congrArg List.length hk; simpa using this
  have hget : ∀ (i : Nat) (b : Bd), bs[i]? = some b → ∃ p, (perilsF los)[i]? = some p ∧ b.p = p ∧ b.vs = valsF n ls (ptsF los am p) := fun i b hb => by
    have e := congrArg (fun l => l[i]?) hk
    simp only [List.getElem?_map, hb, Option.map_some] at e
    cases hp : (perilsF los)[i]? with
    | none => rw [hp] at e; cases e
    | some p =>
      rw [hp] at e
      simp only [Option.map_some, Option.some.injEq, Bd.key, Prod.mk.injEq] at e
      exact ⟨p, rfl, e.1, e.2⟩
  unfold verF
  rw [if_neg (by simp [hl]), if_neg]
  · have e : sumI (bs.map hdV) = bestSum los am n ls := by
      unfold bestSum
      congr 1
      have e2 : bs.map hdV = (bs.map Bd.key).map (fun z => hdI z.2) := by rw [List.map_map]; rfl
      rw [e2, hk, List.map_map]
      refine List.map_congr_left fun p _ => ?_
      simp [valAt]
    rw [e]
  · rw [Bool.not_eq_false, List.all_eq_true]
    intro z hz
    obtain ⟨i, hi, rfl⟩ := List.mem_iff_getElem.1 hz
    rw [List.length_zip] at hi
    rw [List.getElem_zip]
    obtain ⟨p, hp, e1, e2⟩ := hget i bs[i] (List.getElem?_eq_getElem (by omega))
    have hp' : (perilsF los)[i] = p := (List.getElem?_eq_some_iff.1 hp).2
    unfold okB
    dsimp only
    rw [hp', e1, e2, bound_vals (chkErr_pts h hr (by omega) p)]
    · simp
    · have hs : sumB (ptsF los am p) ≤ sumI am := by
        rw [sumB_map]
        unfold ptsF
        rw [List.map_map]
        exact sum_sumAt_le p los am (hoursF los am p) ((asc_insAll _).imp (fun hab => by omega)) (amounts_nonneg h)
      have := Int.mul_le_mul_of_nonneg_left hs (show (0 : Int) ≤ (ls.length : Int) by omega)
      omega
theorem ver_short {los : List Los} {am : List Int} {n : Int} {ls : List P2} {tot : Int} {bs : List Bd} (h : bs.length ≠ (perilsF los).length) : verF los am n ls tot bs = 17 := by unfold verF; rw [if_pos h]
theorem ver_bad {los : List Los} {am : List Int} {n : Int} {ls : List P2} {tot : Int} {bs : List Bd} {i : Nat} {p : Int} {b : Bd} (hl : bs.length = (perilsF los).length) (hp : (perilsF los)[i]? = some p) (hb : bs[i]? = some b) (h : okB los am n ls (p, b) = false) : verF los am n ls tot bs = 17 := by
  unfold verF; rw [if_neg (by simp [hl]), if_pos]
  rw [List.all_eq_false]
  exact ⟨(p, b), List.mem_of_getElem? (by rw [List.getElem?_zip_eq_some]; exact ⟨hp, hb⟩), by simp [h]⟩
def okTo (los : List Los) (am : List Int) (n : Int) (ls : List P2) (bs : List Bd) (k : Nat) : Prop := ∀ (i : Nat) (p : Int) (b : Bd), i < k → (perilsF los)[i]? = some p → bs[i]? = some b → okB los am n ls (p, b) = true
theorem ver_good {los : List Los} {am : List Int} {n : Int} {ls : List P2} {tot : Int} {bs : List Bd} (hl : bs.length = (perilsF los).length) (h : okTo los am n ls bs bs.length) : verF los am n ls tot bs = if sumI (bs.map hdV) = tot then 0 else 17 := by
  unfold verF; rw [if_neg (by simp [hl]), if_neg]
  rw [Bool.not_eq_false, List.all_eq_true]
  intro z hz
  obtain ⟨i, hi, rfl⟩ := List.mem_iff_getElem.1 hz
  rw [List.length_zip] at hi
  rw [List.getElem_zip]
  exact h i _ _ (by omega) (List.getElem?_eq_getElem (by omega)) (List.getElem?_eq_getElem (by omega))
theorem hdV_range {los : List Los} {am : List Int} {n : Int} {ls : List P2} {p : Int} {b : Bd} (h : okB los am n ls (p, b) = true) : b.p = p ∧ boundB (ptsF los am p) n ls b.vs = true ∧ 0 ≤ hdV b ∧ hdV b ≤ 17592186044416 ∧ ∃ v r, b.vs = v :: r ∧ hdV b = v := by
  unfold okB at h
  simp only [Bool.and_eq_true, decide_eq_true_eq] at h
  obtain ⟨h1, h2⟩ := h
  refine ⟨h1, h2, ?_⟩
  unfold boundB at h2
  split at h2
  · cases h2
  · split at h2
    · cases h2
    · rename_i hl
      split at h2
      · cases h2
      · rename_i ha
        rw [Bool.not_eq_false, List.all_eq_true] at ha
        have hl' : b.vs.length = (ptsF los am p).length + 1 := by simpa using hl
        cases hv : b.vs with
        | nil => rw [hv] at hl'; simp at hl'
        | cons v r =>
          have := (vOk_iff v).1 (ha v (by rw [hv]; simp))
          have e : hdV b = v := by unfold hdV; rw [hv]; rfl
          rw [e]
          exact ⟨this.1, this.2, v, r, rfl, rfl⟩

end Go.Proofs.YtilkcailpkebdaaGreat

/-
  cmp.Or, the order of windows, slices.SortFunc at windows: their contracts.
-/
namespace Go.Proofs.YtilkcailpkebdaaGreat
open Go.RowKit Go.Sort
set_option linter.unusedVariables false

def firstNZ : List Int → Int
  | [] => 0
  | x :: xs => if x ≠ 0 then x else firstNZ xs
set_option maxHeartbeats 400000 in
theorem or_any (A : Option Addr) (c : Nat) (xs : List Int) (w : World) (hl : xs.length ≤ 1000) (hX : Ints w 0 A xs) :
    Calls Tryz.prog 35 #[.slice A xs.length c] w fun e w' => e = .returned (.int .i64 (firstNZ xs)) ∧ w = w' := by
  obtain ⟨m, hm⟩ : ∃ m, m = xs.length := ⟨_, rfl⟩
  rw [← hm] at hl ⊢
  have HM := Lib.hid hm
  clear hm
  go_enter Tryz.func35, Tryz.ntmps35
  go_wp2_with fail
  go_loop [5, 8] (fun _ ii => ∃ k : Nat, ii = .int .i64 k ∧ k ≤ m ∧ firstNZ (xs.drop k) = firstNZ xs) (fun _ ii => m - (intOf ii).toNat)
  case atStart => exact ⟨0, rfl, Nat.zero_le _, by simp⟩
  case round =>
    obtain ⟨k, rfl, hk, hI⟩ := hrel
    have HI := Lib.hid hI
    clear hI
    by_cases hkm : k < m
    · obtain ⟨x, hx, hd⟩ := drop_cons (xs := xs) (i := k) (by rw [← HM.out]; exact hkm)
      obtain ⟨b, off, rfl, _, hbl, c0⟩ := hX.at_ hx
      have HD := Lib.hid hd
      clear hx hd
      by_cases h0 : x = 0
      · have q : (x != 0) = false := by simpa using h0
        have HI2 : Hid (firstNZ (xs.drop (k + 1)) = firstNZ xs) := by have h := HI.out; rw [HD.out, firstNZ, if_neg (by simpa using h0)] at h; exact h
        clear h0
        go_wp2_with fail
        go_round
        case rel => exact ⟨k + 1, by go_num, by omega, HI2.out⟩
        case measure => simp [intOf]; omega
      · have q : (x != 0) = true := by simpa using h0
        have HI2 : Hid (x = firstNZ xs) := by have h := HI.out; rw [HD.out, firstNZ, if_pos h0] at h; exact h
        clear h0
        go_wp2_with fail
        go_ret
        exact ⟨ret_int HI2.out, rfl⟩
    · have HI2 : Hid (0 = firstNZ xs) := by have h := HI.out; rw [List.drop_of_length_le (by rw [← HM.out]; omega)] at h; exact h
      go_wp2_with fail
      go_ret
      exact ⟨ret_int HI2.out, rfl⟩

theorem ints_drewX {W : World} {lo : Nat} {A : Option Addr} {xs : List Int} (h : Ints W lo A xs) : Ints W.drew lo A xs := h
theorem ints_newW (w : World) (r s : Int) : Ints ((w.alloc (.cells #[.int .i64 r, .int .i64 s] 3)).drew) w.heap.size (some ⟨w.heap.size, 0, none⟩) [r, s] := ints_drewX (ints_new w [r, s] 3)
instance : Inhabited Win := ⟨⟨0, 0, 0⟩⟩
def cmpWn (x y : Win) : Int := firstNZ [Lib.compareInt x.fr y.fr, Lib.compareInt x.peril y.peril]
theorem cmpWn_lt (x y : Win) : cmpWn x y < 0 ↔ winLt x y := by
  unfold cmpWn winLt firstNZ firstNZ firstNZ Lib.compareInt
  by_cases h1 : x.fr < y.fr
  · simp [h1]
  · by_cases h2 : y.fr < x.fr
    · simp [h1, h2]; omega
    · by_cases h3 : x.peril < y.peril
      · simp [h1, h2, h3]; omega
      · by_cases h4 : y.peril < x.peril
        · simp [h1, h2, h3, h4]
        · simp [h1, h2, h3, h4]
theorem ltWn (x y : Win) : ltOf cmpWn x y = decide (winLt x y) := by
  unfold ltOf
  rw [decide_eq_decide]; exact cmpWn_lt x y
theorem swoWn : SWO (ltOf cmpWn) where
  irrefl x := by rw [ltWn]; simp [winLt]
  trans x y z h1 h2 := by rw [ltWn] at *; have a := of_decide_eq_true h1; have b := of_decide_eq_true h2; exact decide_eq_true (by unfold winLt at *; omega)
  ntrans x y z h1 h2 := by rw [ltWn] at *; have a := of_decide_eq_false h1; have b := of_decide_eq_false h2; exact decide_eq_false (by unfold winLt at *; omega)

set_option maxRecDepth 100000 in
set_option maxHeartbeats 1000000 in
theorem closureWn (x y : Win) (W : World) : Calls Tryz.prog 34 #[.agg (Win.cells x).toArray, .agg (Win.cells y).toArray] W fun e w' => e = .returned (.int .i64 (cmpWn x y)) ∧ ∃ q os', w' = Sort.grow (W.drewN q) os' := by
  obtain ⟨xp, xf, xt⟩ := x
  obtain ⟨yp, yf, yt⟩ := y
  show Calls Tryz.prog 34 #[.agg #[.int .i64 xp, .int .i64 xf, .int .i64 xt], .agg #[.int .i64 yp, .int .i64 yf, .int .i64 yt]] W fun e w' => e = .returned (.int .i64 (firstNZ [Lib.compareInt xf yf, Lib.compareInt xp yp])) ∧ ∃ q os', w' = Sort.grow (W.drewN q) os'
  have C1 : Hid (∀ W', _) := fun W' => Tryz.cmp_Compare_int xf yf W'
  have C2 : Hid (∀ W', _) := fun W' => Tryz.cmp_Compare_int xp yp W'
  generalize Lib.compareInt xf yf = r at C1 ⊢
  generalize Lib.compareInt xp yp = s at C2 ⊢
  go_enter Tryz.func34, Tryz.ntmps34
  go_wp2_with fail
  obtain ⟨wq, hwq⟩ : ∃ wq : World, wq = (W.alloc (.cells #[.int .i64 xp, .int .i64 xf, .int .i64 xt] 75)).alloc (.cells #[.int .i64 yp, .int .i64 yf, .int .i64 yt] 75) := ⟨_, rfl⟩
  have x0 : wq.cell? ⟨W.heap.size, 0, none⟩ = some (.int .i64 xp) := by rw [hwq]; simp
  have x1 : wq.cell? ⟨W.heap.size, 1, none⟩ = some (.int .i64 xf) := by rw [hwq]; simp
  have y0 : wq.cell? ⟨W.heap.size + 1, 0, none⟩ = some (.int .i64 yp) := by rw [hwq]; simp
  have y1 : wq.cell? ⟨W.heap.size + 1, 1, none⟩ = some (.int .i64 yf) := by rw [hwq]; simp
  rw [← hwq]
  have HW := Lib.hid hwq
  clear hwq
  refine wp_region_still_tail 10 (by kernel_rfl) (by kernel_rfl) ?_
  simp only [List.take_succ_cons, List.take_zero, List.drop_succ_cons, List.drop_zero]
  still_step
  still_step
  still_step
  still_step
  still_call (C1.out _)
  still_step
  still_step
  still_step
  still_step
  still_call (C2.out _)
  refine wpStill_nil ?_
  have C3 := Lib.hid (or_any (some ⟨wq.heap.size, 0, none⟩) 2 [r, s] (wq.alloc (.cells #[.int .i64 r, .int .i64 s] 3)).drew (by simp) (Ints.low (ints_newW wq r s) (Nat.zero_le _)))
  go_wp2_with fail
  refine C3.out.mono ?_
  rintro e w' ⟨rfl, rfl⟩
  go_wp2_with fail
  go_ret
  exact ⟨rfl, 1, _, by rw [HW.out, alloc_eq_grow, alloc_eq_grow, alloc_eq_grow, grow_grow, grow_grow]; rfl⟩
theorem cmpLaysWn (blk off size : Nat) (w : World) : CmpLays Tryz.prog 34 #[] Win.cells 3 cmpWn blk off size w :=
  fun _ _ _ _ x y => closureWn x y _
theorem isAggWn (w : World) : (isAgg 75).run Tryz.prog w = .ok true w := by kernel_rfl
theorem sizeWn (w : World) : (Go.sizeOf 75).run Tryz.prog w = .ok 3 w := by kernel_rfl

/-- slices.SortFunc at windows: a permutation in order, in the same row. -/
theorem sortWn (g cap base n : Nat) (ws : List Win) (w : World) (hown : w.ownsRow base 75 3 (.slice (some ⟨g, 0, none⟩) n cap) n (ws.flatMap Win.cells)) (hn : n = ws.length) (hl : n ≤ 100000) :
    Calls Tryz.prog 33 #[.slice (some ⟨g, 0, none⟩) n cap, .func (.func 34) #[] #[]] w fun e w' => e = .returned (.tuple #[]) ∧
      ∃ qs : List Win, qs.Perm ws ∧ qs.Pairwise (fun a b => ¬ winLt b a) ∧ w'.ownsRow base 75 3 (.slice (some ⟨g, 0, none⟩) n cap) n (qs.flatMap Win.cells) ∧ w.grownBy w' (some g) := by
  have eg : ∀ args w, (callFunc 34 args).run Tryz.prog w = .ok (.enter 34 args) w := enters_of Tryz.func34 (by kernel_rfl) rfl
  have hH : HoldsK Win.cells 3 w g 0 ws.toArray := holdsK_of_own (enc := Win.cells) (k := 3) (fun _ => rfl) (by omega) hown hn
  have hcon := AnyQ.slices_SortFunc Tryz.sortWindow 3 isAggWn sizeWn Win.cells (fun _ => rfl) (fun x v hv => by simp [Win.cells] at hv; rcases hv with rfl | rfl | rfl <;> rfl) cmpWn swoWn 34 #[] g 0 cap ws.toArray w eg (cmpLaysWn g 0 ws.toArray.size w) hH (own_lt hown g rfl) (by simp only [List.size_toArray]; omega)
  change Calls Tryz.prog 33 _ _ _ at hcon
  have hsz : ws.toArray.size = n := by simp [hn]
  rw [hsz] at hcon
  refine hcon.mono ?_
  rintro e w' ⟨rfl, d', q, os, hpm, hst, rfl⟩
  rw [← hsz] at hpm hst
  obtain ⟨h1, h2⟩ := sorted_list hpm hst
  refine ⟨rfl, d'.toList, h1, ?_, ?_, ?_⟩
  · refine h2.imp ?_
    intro a b hab
    rw [ltWn] at hab
    exact of_decide_eq_false hab
  · have hlen : d'.toList.length = n := by rw [h1.length_eq]; exact hn.symm
    have o := own_sortK (enc := Win.cells) (k := 3) (fun _ => rfl) (by omega) (q := q) hown d'.toList hlen
    exact o.kept (grown_grow _ os) (by simp [Value.ownBlock])
  · exact only_grown (grown_putRow id w q g 0 _) (grown_grow _ os) (fun g' h => by cases h)

end Go.Proofs.YtilkcailpkebdaaGreat

/-
  window.Spans: its contract.
-/
namespace Go.Proofs.YtilkcailpkebdaaGreat
open Go.RowKit
set_option linter.unusedVariables false

theorem own_mono {w : World} {base base' : Nat} {e : TypeId} {size n : Nat} {v : Value} {xs : List Value} (h : w.ownsRow base e size v n xs) (hb : base' ≤ base) : w.ownsRow base' e size v n xs := by
  refine ⟨h.1, ?_⟩
  rcases h.2 with h0 | ⟨g, cap, cur, hv, hg, r⟩
  · exact .inl h0
  · exact .inr ⟨g, cap, cur, hv, by omega, r⟩

theorem Tryz.infoTwo : (Tryz.prog.info? 63).map (fun i => (i.zero, i.size, i.bytes)) = some (some (.agg #[.int .i64 0, .int .i64 0]), 2, 16) := by kernel_rfl

set_option maxRecDepth 100000 in
set_option maxHeartbeats 2000000 in
theorem spans_any (A : Option Addr) (c : Nat) (ps : List P2) (L : Int) (B : Option Addr) (d : Nat) (ls : List P2) (w : World) (hps : ps.length ≤ 1000) (hls : ls.length ≤ 1000) (hp : Pairs w 0 A ps) (hl : Pairs w 0 B ls) :
    Calls Tryz.prog 23 #[.slice A ps.length c, .int .i64 L, .slice B ls.length d] w fun e w' => ∃ v, e = .returned (.tuple #[v, .int .i64 (chkErr ps L ls)]) ∧ w'.ownsRow w.heap.size 63 2 v (spansOf ps L ls).length ((spansOf ps L ls).flatMap P2.cells) ∧ Below w.heap.size w w' := by
  have CC := Lib.hid (values_any A c ps L B d ls w hps hls hp hl)
  by_cases hce : chkErr ps L ls = 0
  case neg =>
    have HX : Hid (spansOf ps L ls = []) := by unfold spansOf; rw [if_neg hce]; rfl
    have q0 : (chkErr ps L ls != 0) = true := by simpa using hce
    clear hce
    go_enter Tryz.func23, Tryz.ntmps23
    go_wp2_with fail
    go_step3
    go_wp2_with (go_at_call 22; refine CC.out.mono ?_; rintro e w1 ⟨G, cc, rfl, hG, hb1⟩)
    rw [Exit.noGoto_ret]
    go_ret2
    refine ⟨_, rfl, by rw [HX.out]; exact own_nil _ _ _ _, hb1⟩
  have HCE := Lib.hid hce
  have HX : Hid (spansOf ps L ls = spansF L ls ps ps.length 0) := by unfold spansOf; rw [if_pos hce]; rfl
  have HV : Hid (valuesF ps L ls = valsF L ls ps) := by unfold valuesF; rw [if_pos hce]; rfl
  have GG := Lib.hid (good_of hce)
  have q0 : (chkErr ps L ls != 0) = false := by rw [hce]; rfl
  clear hce
  obtain ⟨n, hn⟩ : ∃ n, n = ps.length := ⟨_, rfl⟩
  obtain ⟨m, hm⟩ : ∃ m, m = ls.length := ⟨_, rfl⟩
  have CR : Hid (∀ (t : Int) (W : World), Pairs W 0 B ls → Calls Tryz.prog 30 #[.int .i64 t, .slice B m d] W fun e w' => e = .returned (.tuple #[.int .i64 (recVal t ls), .int .i64 (recErr t ls)]) ∧ Below W.heap.size W w') := by
    intro t W h; rw [hm]; exact recovery_any t B d ls W hls h
  have hn64 : n ≤ 64 := by rw [hn]; exact GG.out.len
  rw [HV.out, valsF_length, ← hn, ← hm] at CC
  rw [← hn, ← hm]
  have HN := Lib.hid hn
  clear hn hm hps hls
  obtain ⟨i0, hi, hz0, hz1, hz2⟩ := info_parts Tryz.infoTwo
  go_enter Tryz.func23, Tryz.ntmps23
  go_wp2_with fail
  go_step3
  go_wp2_with (go_at_call 22; refine CC.out.mono ?_; rintro e w1 ⟨G, cc, rfl, hG, hb1⟩)
  go_step3
  go_wp2_with fail
  have hp1 := hp.below hb1
  have hl1 := hl.below hb1
  have HB1 := Lib.hid hb1
  clear hb1 hp hl
  go_loopg [10, 11, 12, 13, 14, 15] n (fun f v ii _ _ _ _ wr => ∃ (acc : List P2) (i : Nat), ii = .int .i64 i ∧ i ≤ n ∧ n ≤ i + f ∧ acc.length ≤ i ∧ acc ++ spansF L ls ps f i = spansF L ls ps n 0 ∧ wr.ownsRow w1.heap.size 63 2 v acc.length (acc.flatMap P2.cells) ∧ Below w1.heap.size w1 wr)
  case atStart => exact ⟨[], 0, rfl, Nat.zero_le _, by omega, by simp, rfl, own_nil _ _ _ _, Below.refl _ _⟩
  case round =>
    obtain ⟨acc, i, rfl, hi1, hif, hal, hacc, hown, hb⟩ := hrel
    have HACC := Lib.hid hacc
    clear hacc
    by_cases hin : i < n
    case neg =>
      go_wp2_with fail
      rw [Exit.noGoto_ret]
      go_ret2
      have he : spansOf ps L ls = acc := by
        rw [HX.out, ← HN.out, ← HACC.out, spans_end (by rw [← HN.out]; omega), List.append_nil]
      refine ⟨_, by rw [HCE.out]; rfl, by rw [he]; exact own_mono hown HB1.out.size, HB1.out.trans (hb.mono HB1.out.size)⟩
    obtain ⟨f1, rfl⟩ : ∃ f1, gk = f1 + 1 := ⟨gk - 1, by omega⟩
    obtain ⟨p, hpi, hdi⟩ := drop_cons (xs := ps) (i := i) (by rw [← HN.out]; exact hin)
    have hpo := (ptOk_iff p).1 (GG.out.pt p (List.mem_of_getElem? hpi))
    have HDI := Lib.hid hdi
    have HPI := Lib.hid hpi
    clear hdi hpi
    obtain ⟨g, goff, rfl, _, hgl, g0⟩ := (hG.below hb).at_ (valsF_get L ls ps i (by rw [← HN.out]; omega))
    obtain ⟨g', goff', hA', _, _, g1⟩ := (hG.below hb).at_ (valsF_get L ls ps (i + 1) (by rw [← HN.out]; omega))
    obtain ⟨rfl, rfl⟩ : g = g' ∧ goff = goff' := by simpa using hA'
    clear hA'
    by_cases hve : valAt L ls ps i = valAt L ls ps (i + 1)
    · have HS := Lib.hid (spans_eq (f := f1) HPI.out hve)
      have qe : (valAt L ls ps i != valAt L ls ps (i + 1)) = false := by rw [hve]; simp
      clear hve
      go_wp2_with fail
      go_quiet (fail)
      go_wp2_with fail
      go_roundg f1
      case measure => omega
      case rel => exact ⟨acc, i + 1, by go_num, by omega, by omega, by omega, by rw [← HS.out]; exact HACC.out, hown, below_drewN hb _⟩
    · have qe : (valAt L ls ps i != valAt L ls ps (i + 1)) = true := by simpa using hve
      obtain ⟨j0, hj0⟩ := findAt_some HDI.out hve
      have hjb := findAt_bd hj0
      rw [← HN.out] at hjb
      have HS := Lib.hid (spans_hit (f := f1) HPI.out hve hj0)
      have HF := Lib.hid hj0
      clear hve hj0
      go_wp2_with fail
      go_quiet (fail)
      go_wp2_with fail
      clear g1
      obtain ⟨wo, hwo⟩ : ∃ wo : World, wo = wr.drewN nq := ⟨_, rfl⟩
      have hbo : Below w1.heap.size w1 wo := by rw [hwo]; exact below_drewN hb _
      rw [← hwo]
      have hown1 : wo.ownsRow w1.heap.size 63 2 u10 acc.length (acc.flatMap P2.cells) := by rw [hwo]; exact hown
      obtain ⟨sv, hsv⟩ : ∃ sv : Value, sv = u10 := ⟨_, rfl⟩
      rw [← hsv] at hown1 ⊢
      clear hwo hb hown g0 hgl hsv
      go_loopg [10, 11, 12, 13, 14, 15] (n - i) (fun q sl ii t jj _ _ wq => ∃ (j : Nat) (tot : Int), sl = sv ∧ ii = .int .i64 i ∧ i ≤ j ∧ j ≤ n ∧ q = n - j ∧ jj = .int .i64 j ∧ t = .int .i64 tot ∧ 0 ≤ tot ∧ tot + sumB (ps.drop j) ≤ 17592186044416 ∧ findJ L ls p.a (valAt L ls ps i) (ps.drop j) (valsF L ls (ps.drop (j + 1))) tot j = findAt L ls ps i p.a ∧ wq.ownsRow w1.heap.size 63 2 sv acc.length (acc.flatMap P2.cells) ∧ Below w1.heap.size w1 wq)
      case atStart =>
        refine ⟨i, 0, rfl, rfl, Nat.le_refl _, by omega, rfl, rfl, rfl, by omega, ?_, rfl, hown1, hbo⟩
        have := sumB_drop_le GG.out.pt i; have := GG.out.sum; omega
      case round =>
        obtain ⟨j, tot, rfl, rfl, hj1, hj2, hq, rfl, rfl, ht0, ht1, hfj, hownq, hbq⟩ := hrel
        have HFJ := Lib.hid hfj
        have HQ := Lib.hid hq
        clear hfj hq hown1 hbo
        by_cases hjn : j < n
        case neg =>
          exfalso
          obtain rfl : j = n := by omega
          have h1 := HFJ.out
          rw [HN.out] at h1
          have h2 := findJ_end h1
          rw [HF.out] at h2
          cases h2
        obtain ⟨q, hqj, hdj⟩ := drop_cons (xs := ps) (i := j) (by rw [← HN.out]; exact hjn)
        have hqo := (ptOk_iff q).1 (GG.out.pt q (List.mem_of_getElem? hqj))
        have HDJ := Lib.hid hdj
        by_cases hle : L ≤ q.a - p.a
        · exfalso
          have h2 := findJ_far HDJ.out HFJ.out hle
          rw [HF.out] at h2
          cases h2
        obtain ⟨b, off, rfl, _, hbl, y0, y1⟩ := (hp1.below hbq).at_ hqj
        obtain ⟨b', off', hA', _, _, z0, _⟩ := (hp1.below hbq).at_ HPI.out
        obtain ⟨rfl, rfl⟩ : b = b' ∧ off = off' := by simpa using hA'
        clear hdj hqj hA'
        have qj : decide (j < n) = true := by simpa using hjn
        have ql : decide (q.a - p.a < L) = true := by simp; omega
        have hlt : q.a - p.a < L := by omega
        have htq : tot + q.b ≤ 17592186044416 := by
          have h1 := sumB_drop HDJ.out ht1
          have h2 := sumB_nonneg (ps := ps.drop (j + 1)) (fun u hu => GG.out.pt u (List.mem_of_mem_drop hu))
          omega
        have he := (GG.out.rec0 (t := tot + q.b) (by omega) htq).1
        have q1 : (recErr (tot + q.b) ls != 0) = false := by rw [he]; rfl
        have hrb := recVal_bd (tot + q.b) ls
        have hvb := valAt_bd L ls ps (j + 1)
        rw [← HN.out] at hvb
        clear he
        go_wp2_with fail
        go_quiet (fail)
        go_wp2_with (go_at_call 30; refine (CR.out _ _ (Sl.drewN (hl1.below hbq) _)).mono ?_; rintro e w2 ⟨rfl, hb2⟩)
        have hbw : Below w1.heap.size w1 w2 := (below_drewN hbq _).trans (hb2.mono hbq.size)
        have hown2 := own_below (w := wr.drewN nq) hownq hb2
        obtain ⟨g', goff', hA', _, hgl, g0⟩ := (hG.below hbw).at_ (valsF_get L ls ps i (by rw [← HN.out]; omega))
        obtain ⟨rfl, rfl⟩ : g = g' ∧ goff = goff' := by simpa using hA'
        obtain ⟨g', goff', hA2, _, _, g1⟩ := (hG.below hbw).at_ (valsF_get L ls ps (j + 1) (by rw [← HN.out]; omega))
        obtain ⟨rfl, rfl⟩ : g = g' ∧ goff = goff' := by simpa using hA2
        clear hA' hA2 y0 y1 z0 hb2 hbq hownq
        by_cases hhit : recVal (tot + q.b) ls + valAt L ls ps (j + 1) = valAt L ls ps i
        · have HH := Lib.hid (findJ_hit HDJ.out HFJ.out hlt hhit)
          have qh : (recVal (tot + q.b) ls + valAt L ls ps (j + 1) == valAt L ls ps i) = true := by simpa using hhit
          clear hhit
          have hlow := own_low hown2
          go_quiet (fail)
          go_wp2_with (at_builtin; refine wpList_append_own _ rfl (.tmp 90) (.tmp 94) 59 rfl w1.heap.size 63 i0 _ 2 16 Tryz.underlying59 hi hz0 hz1 hz2 rfl (by decide) _ _ _ rfl (World.ownsRow.alloc (w := w2.drewN nq) hown2 _) ⟨w2.heap.size, 0, none⟩ 1 1 [.int .i64 i, .int .i64 j] rfl rfl ?c1 ?c2 ?c3 ?c4 ?c5 ?_)
          case c1 => exact cell_new (w2.drewN nq) [.int .i64 i, .int .i64 j] _
          case c2 => intro u hu; simp at hu; rcases hu with rfl | rfl <;> rfl
          case c3 => unfold maxLen; omega
          case c4 => omega
          case c5 => have := hbw.size; simp; omega
          intro v' w4 hown4 hg4 _
          have hb4 : Below w1.heap.size w1 w4 := ((below_drewN hbw nq).alloc hbw.size _).grown hg4 (by have := hbw.size; simp; omega) hlow
          clear g0 g1 hgl hbw hown2
          go_wp2_with fail
          go_roundg f1
          case measure => omega
          case rel =>
            have hj0 : j0 = j := by
              have := HH.out
              rw [HF.out] at this
              injection this
            refine ⟨acc ++ [⟨i, j⟩], j + 1, by go_num, by omega, by omega, by simp; omega, ?_, ?_, hb4⟩
            · have := HACC.out
              rw [HS.out, hj0] at this
              rw [List.append_assoc]; exact this
            · rw [List.flatMap_append, List.length_append]; exact hown4
        · have HH := Lib.hid (findJ_step HDJ.out HFJ.out hlt hhit)
          have qh : (recVal (tot + q.b) ls + valAt L ls ps (j + 1) == valAt L ls ps i) = false := by simpa using hhit
          clear hhit
          go_quiet (fail)
          go_wp2_with fail
          go_roundg (n - (j + 1))
          case measure => rw [HQ.out]; omega
          case rel => exact ⟨j + 1, tot + q.b, rfl, rfl, by omega, by omega, rfl, by go_num, rfl, by omega, sumB_drop HDJ.out ht1, HH.out, hown2, below_drewN hbw _⟩

end Go.Proofs.YtilkcailpkebdaaGreat

/-
  The world behind 'c := api.Choice{..}' in window.Evaluate, whatever the order of its operations.
-/
namespace Go.Proofs.YtilkcailpkebdaaGreat
open Go.RowKit
set_option linter.unusedVariables false

def CutR (w4 : World) (nw g : Nat) (G : Option Addr) (ws : List Win) (bc g2 : Nat) (v1 : Value) (wc : World) : Prop :=
  wc.heap[bc]? = some (.cells #[v1, .slice G nw g, .slice (some ⟨g2, 0, none⟩) nw nw, .int .i64 0] 32 (0, 0)) ∧ wc.rowIs g2 3 nw (fun _ => .int .i64 0) ∧ wc.ownsRow w4.heap.size 75 3 v1 nw (ws.flatMap Win.cells) ∧ Below w4.heap.size w4 wc ∧ w4.heap.size ≤ bc ∧ w4.heap.size ≤ g2

abbrev rowO (nw : Nat) : Obj := .cells (madeCells #[.int .i64 0] nw) 3
abbrev zeroO : Obj := .cells #[.slice none 0 0, .slice none 0 0, .slice none 0 0, .int .i64 0] 32
abbrev choO (v1 : Value) (G : Option Addr) (nw g g2 : Nat) : Obj := .cells #[v1, .slice G nw g, .slice (some ⟨g2, 0, none⟩) nw nw, .int .i64 0] 32
abbrev set4 (W : World) (bc : Nat) (v1 : Value) (G : Option Addr) (nw g g2 : Nat) : World :=
  (((W.setCell ⟨bc, 0, none⟩ v1).setCell ⟨bc, 1, none⟩ (.slice G nw g)).setCell ⟨bc, 2, none⟩ (.slice (some ⟨g2, 0, none⟩) nw nw)).setCell ⟨bc, 3, none⟩ (.int .i64 0)
theorem set4_same {W : World} {bc : Nat} {v1 : Value} {G : Option Addr} {nw g g2 : Nat} (h : W.heap[bc]? = some zeroO) : (set4 W bc v1 G nw g g2).heap[bc]? = some (choO v1 G nw g g2) := by
  unfold set4; simp [World.setCell, Array.getElem?_modify, h]
theorem set4_other {W : World} {bc : Nat} {v1 : Value} {G : Option Addr} {nw g g2 : Nat} {k : Nat} (h : k ≠ bc) : (set4 W bc v1 G nw g g2).heap[k]? = W.heap[k]? := by
  unfold set4
  rw [Below.heap_setCell _ _ _ _ h, Below.heap_setCell _ _ _ _ h, Below.heap_setCell _ _ _ _ h, Below.heap_setCell _ _ _ _ h]
theorem set4_size (W : World) (bc : Nat) (v1 : Value) (G : Option Addr) (nw g g2 : Nat) : (set4 W bc v1 G nw g g2).heap.size = W.heap.size := by
  unfold set4; simp [World.setCell]
theorem set4_below {w4 W : World} {bc : Nat} {v1 : Value} {G : Option Addr} {nw g g2 : Nat} (h : Below w4.heap.size w4 W) (hb : w4.heap.size ≤ bc) : Below w4.heap.size w4 (set4 W bc v1 G nw g g2) :=
  (((h.setCell hb _).setCell hb _).setCell hb _).setCell hb _
theorem set1_own {W : World} {bc o base : Nat} {v u : Value} {n s : Nat} {e : TypeId} {xs : List Value} (h : W.ownsRow base e s v n xs) (hf : bc < base) : (W.setCell ⟨bc, o, none⟩ u).ownsRow base e s v n xs :=
  h.kept (row := some bc) (only_setCell (only_refl _ _) (.inl rfl) _) (own_far h hf)
theorem set4_own {W : World} {bc base : Nat} {v1 v : Value} {G : Option Addr} {nw g g2 n s : Nat} {e : TypeId} {xs : List Value} (h : W.ownsRow base e s v n xs) (hf : bc < base) : (set4 W bc v1 G nw g g2).ownsRow base e s v n xs := by
  unfold set4
  exact set1_own (set1_own (set1_own (set1_own h hf) hf) hf) hf

variable {w4 w5 X : World} {nw g : Nat} {G : Option Addr} {ws : List Win} {v1 : Value}

/-- The clone first, then the row, then the box. -/
theorem cut1 (hb : Below w4.drew.heap.size w4.drew w5) (hv : w5.ownsRow w4.drew.heap.size 75 3 v1 nw (ws.flatMap Win.cells)) :
    CutR w4 nw g G ws (w5.heap.size + 1) w5.heap.size v1 ((w5.alloc (rowO nw)).alloc (choO v1 G nw g w5.heap.size)) := by
  have hB : Below w4.heap.size w4 w5 := (Below.refl _ _).drew.trans hb
  have hs := hB.size
  refine ⟨?_, ?_, ?_, ?_, by omega, hs⟩
  · have h := heap_alloc_new (w5.alloc (rowO nw)) (choO v1 G nw g w5.heap.size)
    have e : (w5.alloc (rowO nw)).heap.size = w5.heap.size + 1 := by simp
    rw [e] at h; exact h
  · exact World.rowIs.of_block (World.rowIs_made w5 _ nw _) (Below.heap_alloc _ _ _ (by simp))
  · exact own_below hv (((Below.refl _ _).alloc (Nat.le_refl _) _).alloc (by simp) _)
  · exact (hB.alloc hs _).alloc (by simp; omega) _
theorem cut2 (hb : Below w4.drew.heap.size w4.drew w5) (hv : w5.ownsRow w4.drew.heap.size 75 3 v1 nw (ws.flatMap Win.cells)) :
    CutR w4 nw g G ws w5.heap.size (w5.heap.size + 1) v1 ((w5.alloc (choO v1 G nw g (w5.heap.size + 1))).alloc (rowO nw)) := by
  have hB : Below w4.heap.size w4 w5 := (Below.refl _ _).drew.trans hb
  have hs := hB.size
  refine ⟨?_, ?_, ?_, ?_, hs, by omega⟩
  · exact (Below.heap_alloc _ _ _ (by simp)).trans (heap_alloc_new _ _)
  · have h := World.rowIs_made (w5.alloc (choO v1 G nw g (w5.heap.size + 1))) (.int .i64 0) nw 3
    have e : (w5.alloc (choO v1 G nw g (w5.heap.size + 1))).heap.size = w5.heap.size + 1 := by simp
    rw [e] at h; exact h
  · exact own_below hv (((Below.refl _ _).alloc (Nat.le_refl _) _).alloc (by simp) _)
  · exact (hB.alloc hs _).alloc (by simp; omega) _
theorem cut3 (hb : Below (w4.alloc (rowO nw)).drew.heap.size (w4.alloc (rowO nw)).drew w5) (hv : w5.ownsRow (w4.alloc (rowO nw)).drew.heap.size 75 3 v1 nw (ws.flatMap Win.cells)) :
    CutR w4 nw g G ws w5.heap.size w4.heap.size v1 (w5.alloc (choO v1 G nw g w4.heap.size)) := by
  have hX : Below w4.heap.size w4 (w4.alloc (rowO nw)).drew := ((Below.refl _ _).alloc (Nat.le_refl _) _).drew
  have hB : Below w4.heap.size w4 w5 := hX.trans (hb.mono hX.size)
  have hs := hB.size
  have hlt : w4.heap.size < w5.heap.size := by have := hb.size; simp at this; omega
  refine ⟨heap_alloc_new _ _, ?_, ?_, hB.alloc hs _, hs, Nat.le_refl _⟩
  · refine World.rowIs.of_block (World.rowIs_made w4 _ nw _) ((Below.heap_alloc _ _ _ hlt).trans (hb.block _ (by simp)))
  · exact own_mono (own_below hv ((Below.refl _ _).alloc (Nat.le_refl _) _)) hX.size
theorem cut4 (hb : Below ((w4.alloc (rowO nw)).alloc zeroO).drew.heap.size ((w4.alloc (rowO nw)).alloc zeroO).drew w5) (hv : w5.ownsRow ((w4.alloc (rowO nw)).alloc zeroO).drew.heap.size 75 3 v1 nw (ws.flatMap Win.cells)) :
    CutR w4 nw g G ws (w4.heap.size + 1) w4.heap.size v1 (set4 w5 (w4.heap.size + 1) v1 G nw g w4.heap.size) := by
  have hX : Below w4.heap.size w4 ((w4.alloc (rowO nw)).alloc zeroO).drew := (((Below.refl _ _).alloc (Nat.le_refl _) _).alloc (by simp) _).drew
  have hB : Below w4.heap.size w4 w5 := hX.trans (hb.mono hX.size)
  have e : (w4.alloc (rowO nw)).heap.size = w4.heap.size + 1 := by simp
  refine ⟨set4_same ?_, ?_, ?_, set4_below hB (by omega), by omega, Nat.le_refl _⟩
  · refine (hb.block _ (by simp)).trans ?_
    have h := heap_alloc_new (w4.alloc (rowO nw)) zeroO
    rw [e] at h; exact h
  · refine World.rowIs.of_block (World.rowIs_made w4 _ nw _) ((set4_other (by omega)).trans ((hb.block _ (by simp; omega)).trans ?_))
    exact Below.heap_alloc _ _ _ (by simp)
  · exact own_mono (set4_own hv (by simp)) hX.size
theorem cut5 (hb : Below (w4.alloc zeroO).drew.heap.size (w4.alloc zeroO).drew w5) (hv : w5.ownsRow (w4.alloc zeroO).drew.heap.size 75 3 v1 nw (ws.flatMap Win.cells)) :
    CutR w4 nw g G ws w4.heap.size w5.heap.size v1 ((set4 w5 w4.heap.size v1 G nw g w5.heap.size).alloc (rowO nw)) := by
  have hX : Below w4.heap.size w4 (w4.alloc zeroO).drew := ((Below.refl _ _).alloc (Nat.le_refl _) _).drew
  have hB : Below w4.heap.size w4 w5 := hX.trans (hb.mono hX.size)
  have hs := hB.size
  have hlt : w4.heap.size < w5.heap.size := by have := hb.size; simp at this; omega
  refine ⟨?_, ?_, ?_, ?_, Nat.le_refl _, hs⟩
  · exact (Below.heap_alloc _ _ _ (by rw [set4_size]; exact hlt)).trans (set4_same ((hb.block _ (by simp)).trans (heap_alloc_new _ _)))
  · have h := World.rowIs_made (set4 w5 w4.heap.size v1 G nw g w5.heap.size) (.int .i64 0) nw 3
    rw [set4_size] at h; exact h
  · exact own_mono (own_below (set4_own hv (by simp)) ((Below.refl _ _).alloc (Nat.le_refl _) _)) hX.size
  · exact (set4_below hB (Nat.le_refl _)).alloc (by rw [set4_size]; exact hs) _
theorem cut6 (hb : Below ((w4.alloc zeroO).alloc (rowO nw)).drew.heap.size ((w4.alloc zeroO).alloc (rowO nw)).drew w5) (hv : w5.ownsRow ((w4.alloc zeroO).alloc (rowO nw)).drew.heap.size 75 3 v1 nw (ws.flatMap Win.cells)) :
    CutR w4 nw g G ws w4.heap.size (w4.heap.size + 1) v1 (set4 w5 w4.heap.size v1 G nw g (w4.heap.size + 1)) := by
  have hX : Below w4.heap.size w4 ((w4.alloc zeroO).alloc (rowO nw)).drew := (((Below.refl _ _).alloc (Nat.le_refl _) _).alloc (by simp) _).drew
  have hB : Below w4.heap.size w4 w5 := hX.trans (hb.mono hX.size)
  have e : (w4.alloc zeroO).heap.size = w4.heap.size + 1 := by simp
  refine ⟨set4_same ?_, ?_, ?_, set4_below hB (Nat.le_refl _), Nat.le_refl _, by omega⟩
  · exact (hb.block _ (by simp; omega)).trans ((Below.heap_alloc _ _ _ (by simp)).trans (heap_alloc_new _ _))
  · have h := World.rowIs_made (w4.alloc zeroO) (.int .i64 0) nw 3
    rw [e] at h
    exact World.rowIs.of_block h ((set4_other (by omega)).trans (hb.block _ (by simp)))
  · exact own_mono (set4_own hv (by simp; omega)) hX.size

end Go.Proofs.YtilkcailpkebdaaGreat
