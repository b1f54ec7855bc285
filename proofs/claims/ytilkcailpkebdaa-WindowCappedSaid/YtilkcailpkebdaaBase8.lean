/-
  Texts of the proof, one after the other.
-/
import Derived.Test.YtilkcailpkebdaaBase6
import Derived.Test.YtilkcailpkebdaaBase4
import Derived.Test.YtilkcailpkebdaaBase2
import Derived.Test.YtilkcailpkebdaaBase1
import Derived.Test.YtilkcailpkebdaaBase5

/-
  The chosen spans: each is shorter than the length, and each begins behind the one before it. Plain Lean.
-/
namespace Go.Proofs.Ytilkcailpkebdaa
open Go.RowKit
set_option linter.unusedVariables false

theorem findJ_short {L : Int} {ls : List P2} {h0 r : Int} : ∀ (qs : List P2) (vs : List Int) (t : Int) (j k : Nat), findJ L ls h0 r qs vs t j = some k → j ≤ k ∧ ∃ q, qs[k - j]? = some q ∧ q.a - h0 < L := by
  intro qs
  induction qs with
  | nil => intro vs t j k h; simp [findJ] at h
  | cons q qs ih =>
    intro vs t j k h
    cases vs with
    | nil => simp [findJ] at h
    | cons v vs =>
      unfold findJ at h
      split at h
      · cases h
      · rename_i hlt
        split at h
        · injection h with h
          subst h
          exact ⟨Nat.le_refl _, q, by simp, by omega⟩
        · obtain ⟨h1, q', h2, h3⟩ := ih vs _ _ k h
          refine ⟨by omega, q', ?_, h3⟩
          rw [show k - j = (k - (j + 1)) + 1 by omega]; simpa using h2
theorem spans_short (L : Int) (ls ps : List P2) : ∀ f i, (∀ s ∈ spansF L ls ps f i, hourAt ps s.b - hourAt ps s.a < L) ∧ (spansF L ls ps f i).Pairwise (fun a b => a.b < b.a) ∧ (∀ s ∈ spansF L ls ps f i, (i : Int) ≤ s.a) := by
  intro f
  induction f with
  | zero => intro i; simp [spansF]
  | succ f ih =>
    intro i
    by_cases hi : i < ps.length
    · obtain ⟨p, hp, hd⟩ := drop_cons (xs := ps) (i := i) hi
      by_cases he : valAt L ls ps i = valAt L ls ps (i + 1)
      · rw [spans_eq hp he]
        obtain ⟨h1, h2, h3⟩ := ih (i + 1)
        exact ⟨h1, h2, fun s hs => by have := h3 s hs; omega⟩
      · obtain ⟨j, hj⟩ := findAt_some hd he
        have hb := findAt_bd hj
        obtain ⟨h1, h2, h3⟩ := ih (j + 1)
        rw [spans_hit hp he hj]
        refine ⟨fun s hs => ?_, List.pairwise_cons.2 ⟨fun s hs => ?_, h2⟩, fun s hs => ?_⟩
        · rcases List.mem_cons.1 hs with rfl | hs
          · unfold findAt at hj
            obtain ⟨h4, q, h5, h6⟩ := findJ_short _ _ _ _ _ hj
            rw [List.getElem?_drop, show i + (j - i) = j by omega] at h5
            dsimp only
            unfold hourAt
            rw [Int.toNat_natCast, Int.toNat_natCast, h5, hp]
            exact h6
          · exact h1 s hs
        · have := h3 s hs; dsimp only; omega
        · rcases List.mem_cons.1 hs with rfl | hs
          · exact Int.le_refl _
          · have := h3 s hs; omega
    · rw [spans_end (by omega)]; simp
/-- Windows of a peril: as long as allowed, and apart. -/
theorem winsP_fine {los : List Los} {am : List Int} {n : Int} {ls : List P2} (h : chkE los am = 0) (p : Int) : (∀ w ∈ winsP los am n ls p, 0 ≤ w.fr ∧ w.fr < w.to ∧ w.to ≤ 876600 ∧ w.to - w.fr ≤ n) ∧ (winsP los am n ls p).Pairwise (fun a b => a.to ≤ b.fr) := by
  obtain ⟨h1, h2, _, _⟩ := ptsF_fine h p
  have hle : ∀ i j : Int, 0 ≤ i → i ≤ j → j < (ptsF los am p).length → hourAt (ptsF los am p) i ≤ hourAt (ptsF los am p) j := fun i j hi hij hj => by
    rcases Int.lt_or_eq_of_le hij with hlt | rfl
    · have := hourAt_lt h2 hi hlt hj; omega
    · exact Int.le_refl _
  have hin : ∀ i : Int, 0 ≤ i → i < (ptsF los am p).length → 0 ≤ hourAt (ptsF los am p) i ∧ hourAt (ptsF los am p) i ≤ 876599 := fun i hi hj => by
    have hl : i.toNat < (ptsF los am p).length := by omega
    unfold hourAt
    rw [List.getElem?_eq_getElem hl]
    have := (ptOk_iff _).1 (h1 _ (List.getElem_mem hl))
    exact ⟨this.1, this.2.1⟩
  unfold winsP spansOf
  split
  · have hs := spans_short n ls (ptsF los am p) (ptsF los am p).length 0
    have hr := spans_in n ls (ptsF los am p) (ptsF los am p).length 0
    constructor
    · intro w hw
      obtain ⟨s, hsm, rfl⟩ := List.mem_map.1 hw
      have a1 := hr s hsm
      have a2 := hs.1 s hsm
      have a3 := hin s.a a1.1 (by omega)
      have a4 := hin s.b (by omega) a1.2.2
      have a5 := hle s.a s.b a1.1 a1.2.1 a1.2.2
      unfold winOf; dsimp only; omega
    · refine List.pairwise_map.2 (hs.2.1.imp_of_mem fun {a b} ha hb hab => ?_)
      have b1 := hr a ha
      have b2 := hr b hb
      have := hourAt_lt h2 (i := a.b) (j := b.a) (by omega) hab (by omega)
      unfold winOf; dsimp only; omega
  · exact ⟨fun w hw => by simp at hw, List.Pairwise.nil⟩

end Go.Proofs.Ytilkcailpkebdaa

/-
  Valid windows have each loss at most once; the totals add up, in whatever order the losses stand: plain Lean.
-/
namespace Go.Proofs.Ytilkcailpkebdaa
open Go.RowKit
set_option linter.unusedVariables false

def cntW : List Win → Los → Int
  | [], _ => 0
  | x :: xs, l => (if covers x l = true then 1 else 0) + cntW xs l
theorem cntW_nonneg (ws : List Win) (l : Los) : 0 ≤ cntW ws l ∧ cntW ws l ≤ ws.length := by
  induction ws with
  | nil => simp [cntW]
  | cons x xs ih => simp only [cntW, List.length_cons]; split <;> omega
theorem cntW_next {ws : List Win} {l : Los} {k : Nat} {x : Win} {s r : Int} (hd : ws.drop k = x :: ws.drop (k + 1)) (h : s + cntW (ws.drop k) l = r) : (s + if covers x l = true then 1 else 0) + cntW (ws.drop (k + 1)) l = r := by
  rw [hd, cntW] at h; omega
theorem findW_cnt (l : Los) : ∀ (ws : List Win) (k : Nat), 0 ≤ findW l ws k ↔ 0 < cntW ws l := by
  intro ws
  induction ws with
  | nil => intro k; simp [findW, cntW]
  | cons x xs ih =>
    intro k
    have := cntW_nonneg xs l
    simp only [findW, cntW]
    split
    · constructor <;> intro _ <;> omega
    · rw [ih]; omega
theorem wins_meet (n : Int) : ∀ (xs before : List Win), winsLoop n before xs = 0 → xs.Pairwise (fun v x => winMeet v x = false) ∧ ∀ v ∈ before, ∀ x ∈ xs, winMeet v x = false := by
  intro xs
  induction xs with
  | nil => intro before _; exact ⟨List.Pairwise.nil, fun _ _ _ h => by simp at h⟩
  | cons x xs ih =>
    intro before h
    unfold winsLoop at h
    split at h
    · rename_i h1; exact absurd h h1
    · rename_i h1
      have h0 : oneE before x n = 0 := by omega
      obtain ⟨p1, p2⟩ := ih _ h
      have hm : ∀ v ∈ before, winMeet v x = false := by
        intro v hv
        unfold oneE at h0
        split at h0
        · omega
        · split at h0
          · omega
          · split at h0
            · omega
            · split at h0
              · omega
              · rename_i h4
                rw [List.any_eq_true] at h4
                cases hq : winMeet v x with
                | false => rfl
                | true => exact absurd ⟨v, hv, hq⟩ h4
      refine ⟨List.pairwise_cons.2 ⟨fun y hy => p2 x (by simp) y hy, p1⟩, fun v hv y hy => ?_⟩
      rcases List.mem_cons.1 hy with rfl | hy
      · exact hm v hv
      · exact p2 v (by simp [hv]) y hy
theorem cnt_once {ws : List Win} (h : ws.Pairwise (fun v x => winMeet v x = false)) (l : Los) : cntW ws l ≤ 1 := by
  induction ws with
  | nil => simp [cntW]
  | cons x xs ih =>
    rw [List.pairwise_cons] at h
    have h2 := ih h.2
    simp only [cntW]
    split
    · rename_i hc
      have : cntW xs l = 0 := by
        have h1 := h.1
        clear h ih h2
        induction xs with
        | nil => rfl
        | cons y ys ih2 =>
          have hy := h1 y (by simp)
          have := ih2 (fun z hz => h1 z (by simp [hz]))
          simp only [cntW]
          rw [if_neg, this]
          · rfl
          · intro hcy
            have a1 := (covers_iff _ _).1 hc
            have a2 := (covers_iff _ _).1 hcy
            have : winMeet x y = true := (winMeet_iff _ _).2 ⟨by omega, by omega, by omega⟩
            rw [hy] at this; cases this
      omega
    · omega
theorem valid_once {ws : List Win} {n : Int} (h : winsE ws n = 0) (l : Los) : cntW ws l ≤ 1 := by
  unfold winsE at h
  split at h
  · omega
  · split at h
    · omega
    · exact cnt_once (wins_meet n ws [] h).1 l
theorem valid_asg {ws : List Win} {n : Int} (h : winsE ws n = 0) (l : Los) : (cntW ws l = 1 ∧ 0 ≤ asgAt ws l) ∨ (cntW ws l = 0 ∧ ¬ 0 ≤ asgAt ws l) := by
  have h1 := valid_once h l
  have h2 := findW_cnt l ws 0
  have h3 := cntW_nonneg ws l
  unfold asgAt
  rw [h2]
  omega

/-- What is lost in windows. -/
def sumIn : List Int → List Int → Int
  | i :: is, a :: ams => (if 0 ≤ i then a else 0) + sumIn is ams
  | _, _ => 0
theorem sumI_append (l l' : List Int) : sumI (l ++ l') = sumI l + sumI l' := by
  induction l with
  | nil => simp [sumI]
  | cons a l ih => simp only [List.cons_append, sumI, ih]; omega
theorem sum_range_add (f : Nat → Int) (i a : Int) : ∀ n : Nat, sumI ((List.range n).map (addTo f i a)) = sumI ((List.range n).map f) + if 0 ≤ i ∧ i < n then a else 0 := by
  intro n
  induction n with
  | zero => rw [if_neg (by omega)]; simp [sumI]
  | succ n ih =>
    rw [List.range_succ, List.map_append, List.map_append, sumI_append, sumI_append, ih]
    simp only [List.map_cons, List.map_nil, sumI, addTo]
    by_cases h : (n : Int) = i
    · rw [if_pos h, if_neg (by omega), if_pos (by omega)]; omega
    · rw [if_neg h]
      by_cases h2 : 0 ≤ i ∧ i < n
      · rw [if_pos h2, if_pos (by omega)]; omega
      · rw [if_neg h2, if_neg (by omega)]; omega
theorem sum_totLoop (n : Nat) : ∀ (is am : List Int) (f : Nat → Int), (∀ i ∈ is, i < n) → sumI ((List.range n).map (totLoop is am f)) = sumI ((List.range n).map f) + sumIn is am := by
  intro is
  induction is with
  | nil => intro am f _; simp [totLoop, sumIn]
  | cons i is ih =>
    intro am f h
    cases am with
    | nil => simp [totLoop, sumIn]
    | cons a am =>
      simp only [totLoop, sumIn]
      rw [ih am _ (fun x hx => h x (by simp [hx]))]
      have hi := h i (by simp)
      by_cases h0 : 0 ≤ i
      · rw [if_pos h0, if_pos h0, sum_range_add, if_pos ⟨h0, hi⟩]; omega
      · rw [if_neg h0, if_neg h0]; omega
theorem sum_totF (los : List Los) (am : List Int) (ws : List Win) : sumI (totF los am ws) = sumIn (asgF los ws) am := by
  unfold totF
  rw [sum_totLoop]
  · have : ∀ n : Nat, sumI ((List.range n).map fun _ => (0 : Int)) = 0 := by
      intro n
      induction n with
      | zero => rfl
      | succ n ih => rw [List.range_succ, List.map_append, sumI_append, ih]; rfl
    rw [this]; omega
  · intro i hi
    unfold asgF at hi
    obtain ⟨l, _, rfl⟩ := List.mem_map.1 hi
    have := asgAt_bd ws l
    omega
def at1 (j : Nat) (z : Int × Int) : Int := if (j : Int) = z.1 then z.2 else 0
theorem totLoop_at (j : Nat) : ∀ (is am : List Int) (f : Nat → Int), totLoop is am f j = f j + sumI ((is.zip am).map (at1 j)) := by
  intro is
  induction is with
  | nil => intro am f; simp [totLoop, sumI]
  | cons i is ih =>
    intro am f
    cases am with
    | nil => simp [totLoop, sumI]
    | cons a am =>
      simp only [totLoop, List.zip_cons_cons, List.map_cons, sumI, at1]
      rw [ih]
      by_cases h0 : 0 ≤ i
      · rw [if_pos h0]
        unfold addTo
        by_cases hj : (j : Int) = i
        · rw [if_pos hj, if_pos hj]; omega
        · rw [if_neg hj, if_neg hj]; omega
      · rw [if_neg h0, if_neg (by omega)]; omega
theorem sumI_perm {l l' : List Int} (h : l.Perm l') : sumI l = sumI l' := by
  induction h with
  | nil => rfl
  | cons x _ ih => simp only [sumI, ih]
  | swap x y l => simp only [sumI]; omega
  | trans _ _ h1 h2 => rw [h1, h2]
theorem zip_rev {α β : Type} {l : List α} {l' : List β} (h : l.length = l'.length) : (l.reverse.zip l'.reverse).Perm (l.zip l') := by
  have e : l.reverse.zip l'.reverse = (l.zip l').reverse := by
    show List.zipWith Prod.mk l.reverse l'.reverse = (List.zipWith Prod.mk l l').reverse
    rw [List.reverse_zipWith h]
  rw [e]
  exact List.reverse_perm _
theorem totF_rev {los : List Los} {am : List Int} (ws : List Win) (h : am.length = los.length) : totF los.reverse am.reverse ws = totF los am ws := by
  unfold totF
  refine List.map_congr_left fun j _ => ?_
  rw [totLoop_at, totLoop_at]
  have : asgF los.reverse ws = (asgF los ws).reverse := by unfold asgF; rw [List.map_reverse]
  rw [this, sumI_perm ((zip_rev (l := asgF los ws) (l' := am) (by unfold asgF; rw [List.length_map]; omega)).map (at1 j))]
theorem chkE_rev {los : List Los} {am : List Int} (h : chkE los am = 0) : chkE los.reverse am.reverse = 0 := by
  obtain ⟨h1, h2, h3, h4⟩ := goodE_of h
  rw [chkE_sum (by rw [List.length_reverse, List.length_reverse]; omega), if_neg]
  · rw [sumI_perm (List.reverse_perm am)]; omega
  · rw [List.all_eq_true] at h3 ⊢
    intro z hz
    exact h3 z ((zip_rev h2.symm).mem_iff.1 hz)
theorem sumIn_next {is am : List Int} {k : Nat} {i a s r : Int} (hi : is.drop k = i :: is.drop (k + 1)) (ha : am.drop k = a :: am.drop (k + 1)) (h : s + sumIn (is.drop k) (am.drop k) = r) : (s + if 0 ≤ i then a else 0) + sumIn (is.drop (k + 1)) (am.drop (k + 1)) = r := by
  rw [hi, ha, sumIn] at h; omega

end Go.Proofs.Ytilkcailpkebdaa

/-
  Bounds of values: no windows that lie apart recover more than the value at the first index; the chosen spans recover just as much. Plain Lean.
-/
namespace Go.Proofs.Ytilkcailpkebdaa
open Go.RowKit
set_option linter.unusedVariables false

theorem limited_mono {a b : Int} (h : a ≤ b) : limited a ≤ limited b := by
  unfold limited imax imin; repeat' split
  all_goals omega
theorem layerF_mono {a b : Int} (h : a ≤ b) (r l : Int) : layerF a r l ≤ layerF b r l := by
  have := limited_mono h
  unfold layerF imax imin; repeat' split
  all_goals omega
theorem layerF_zero (r l : Int) : layerF 0 r l = 0 := by
  have h1 := limited_bd r
  have h2 := limited_bd l
  have h3 : limited 0 = 0 := by unfold limited imax imin; repeat' split
                                all_goals omega
  unfold layerF imax imin; rw [h3]; repeat' split
  all_goals omega
theorem sumL_mono {a b : Int} (h : a ≤ b) (ls : List P2) : sumL a ls ≤ sumL b ls := by
  induction ls with
  | nil => exact Int.le_refl _
  | cons l ls ih => have := layerF_mono h l.a l.b; simp only [sumL]; omega
theorem sumL_zero (ls : List P2) : sumL 0 ls = 0 := by
  induction ls with
  | nil => rfl
  | cons l ls ih => simp only [sumL, layerF_zero, ih]; omega
theorem recVal_zero (ls : List P2) : recVal 0 ls = 0 := by
  unfold recVal; split
  · exact sumL_zero ls
  · rfl
theorem recErr_free {t u : Int} {ls : List P2} (h : recErr t ls = 0) (h0 : 0 ≤ u) (h1 : u ≤ 17592186044416) : recErr u ls = 0 := by
  obtain ⟨a, b, c⟩ := recErr_ok h
  exact (rec_ok (by omega) c (by omega)).1
theorem recVal_mono {a b : Int} (h : a ≤ b) (h0 : 0 ≤ a) (h1 : b ≤ 17592186044416) (ls : List P2) : recVal a ls ≤ recVal b ls := by
  unfold recVal
  by_cases ha : recErr a ls = 0
  · rw [if_pos ha, if_pos (recErr_free ha (by omega) h1)]; exact sumL_mono h ls
  · rw [if_neg ha]
    by_cases hb : recErr b ls = 0
    · exact absurd (recErr_free hb h0 (by omega)) ha
    · rw [if_neg hb]; exact Int.le_refl _

/-- Values that bound. -/
structure BndV (L : Int) (ls ps : List P2) (V : Nat → Int) : Prop where
  last : 0 ≤ V ps.length
  step : ∀ i, i < ps.length → V (i + 1) ≤ V i
  span : ∀ i j p q, i ≤ j → ps[i]? = some p → ps[j]? = some q → q.a - p.a < L → recVal (sumT ps i (j - i + 1)) ls + V (j + 1) ≤ V i
theorem BndV.mono {L : Int} {ls ps : List P2} {V : Nat → Int} (h : BndV L ls ps V) : ∀ k i, i + k ≤ ps.length → V (i + k) ≤ V i := by
  intro k
  induction k with
  | zero => intro i _; exact Int.le_refl _
  | succ k ih =>
    intro i hi
    have h1 := ih (i + 1) (by omega)
    have h2 := h.step i (by omega)
    rw [show i + (k + 1) = i + 1 + k by omega]; omega
theorem BndV.nonneg {L : Int} {ls ps : List P2} {V : Nat → Int} (h : BndV L ls ps V) {i : Nat} (hi : i ≤ ps.length) : 0 ≤ V i := by
  have h1 := h.mono (ps.length - i) i (by omega)
  have h2 := h.last
  rw [show i + (ps.length - i) = ps.length by omega] at h1; omega

def inR (x : Win) (q : P2) : Bool := decide (x.fr ≤ q.a) && decide (q.a < x.to)
theorem inR_iff (x : Win) (q : P2) : inR x q = true ↔ x.fr ≤ q.a ∧ q.a < x.to := by simp [inR]
def amtR (qs : List P2) (x : Win) : Int := sumB (qs.filter (inR x))
def recsR (qs ls : List P2) (ws : List Win) : Int := sumI (ws.map fun x => recVal (amtR qs x) ls)
theorem amtR_none {qs : List P2} {x : Win} (h : ∀ q ∈ qs, inR x q = false) : amtR qs x = 0 := by
  unfold amtR; rw [List.filter_eq_nil_iff.2 (fun q hq => by rw [h q hq]; simp)]; rfl
theorem amtR_drop {qs : List P2} {x : Win} {k : Nat} (h : ∀ q ∈ qs.take k, inR x q = false) : amtR qs x = amtR (qs.drop k) x := by
  unfold amtR
  conv => lhs; rw [← List.take_append_drop k qs]
  rw [List.filter_append, List.filter_eq_nil_iff.2 (fun q hq => by rw [h q hq]; simp), List.nil_append]
theorem recsR_congr {qs qs' ls : List P2} {ws : List Win} (h : ∀ x ∈ ws, amtR qs x = amtR qs' x) : recsR qs ls ws = recsR qs' ls ws := by
  unfold recsR; rw [List.map_congr_left fun x hx => by rw [h x hx]]
theorem amt_split {x : Win} : ∀ {qs : List P2}, qs.Pairwise (fun a b => a.a < b.a) → (∀ q ∈ qs, x.fr ≤ q.a) → ∃ k, k ≤ qs.length ∧ qs.filter (inR x) = qs.take k ∧ (∀ q ∈ qs.take k, q.a < x.to) ∧ (∀ q ∈ qs.drop k, x.to ≤ q.a) := by
  intro qs
  induction qs with
  | nil => intro _ _; exact ⟨0, by simp, by simp, by simp, by simp⟩
  | cons q qs ih =>
    intro hs hf
    rw [List.pairwise_cons] at hs
    by_cases hq : q.a < x.to
    · obtain ⟨k, h1, h2, h3, h4⟩ := ih hs.2 (fun y hy => hf y (by simp [hy]))
      refine ⟨k + 1, by simp only [List.length_cons]; omega, ?_, ?_, ?_⟩
      · rw [List.filter_cons_of_pos ((inR_iff _ _).2 ⟨hf q (by simp), hq⟩), h2, List.take_succ_cons]
      · rw [List.take_succ_cons]; intro y hy
        rcases List.mem_cons.1 hy with rfl | hy
        · exact hq
        · exact h3 y hy
      · rw [List.drop_succ_cons]; exact h4
    · refine ⟨0, by simp, ?_, by simp, ?_⟩
      · rw [List.take_zero, List.filter_eq_nil_iff]
        intro y hy hin
        have hin := (inR_iff _ _).1 hin
        rcases List.mem_cons.1 hy with rfl | hy
        · omega
        · have := hs.1 y hy; omega
      · rw [List.drop_zero]; intro y hy
        rcases List.mem_cons.1 hy with rfl | hy
        · omega
        · have := hs.1 y hy; omega
/-- No windows apart recover more. -/
theorem bound_all {L : Int} {ls ps : List P2} {V : Nat → Int} (h : BndV L ls ps V) (hs : ps.Pairwise (fun a b => a.a < b.a)) : ∀ (m i : Nat) (ws : List Win), ps.length - i + ws.length ≤ m → i ≤ ps.length → ws.Pairwise (fun a b => a.to ≤ b.fr) → (∀ w ∈ ws, w.fr < w.to ∧ w.to - w.fr ≤ L) → recsR (ps.drop i) ls ws ≤ V i := by
  intro m
  induction m with
  | zero =>
    intro i ws hm hi _ _
    have : ws = [] := List.eq_nil_of_length_eq_zero (by omega)
    subst this
    exact h.nonneg hi
  | succ m ih =>
    intro i ws hm hi hp hw
    cases ws with
    | nil => exact h.nonneg hi
    | cons w ws =>
      rw [List.pairwise_cons] at hp
      have hww := hw w (by simp)
      simp only [List.length_cons] at hm
      by_cases hin : i < ps.length
      · obtain ⟨q, hq, hd⟩ := drop_cons (xs := ps) (i := i) hin
        have hsd : (ps.drop i).Pairwise (fun a b => a.a < b.a) := hs.sublist (List.drop_sublist _ _)
        rw [hd, List.pairwise_cons] at hsd
        by_cases h1 : q.a < w.fr
        · have e : recsR (ps.drop i) ls (w :: ws) = recsR (ps.drop (i + 1)) ls (w :: ws) := recsR_congr fun x hx => by
            have hxf : w.fr ≤ x.fr := by
              rcases List.mem_cons.1 hx with rfl | hx
              · exact Int.le_refl _
              · have := hp.1 x hx; omega
            have e1 := amtR_drop (qs := ps.drop i) (x := x) (k := 1) (by rw [hd]; simp; unfold inR; simp; intro _; omega)
            rw [e1, List.drop_drop]
          rw [e]
          have := ih (i + 1) (w :: ws) (by simp only [List.length_cons]; omega) (by omega) (List.pairwise_cons.2 hp) hw
          have := h.step i hin
          omega
        · by_cases h2 : w.to ≤ q.a
          · have e : amtR (ps.drop i) w = 0 := amtR_none fun y hy => by
              rw [hd] at hy
              have : q.a ≤ y.a := by
                rcases List.mem_cons.1 hy with rfl | hy
                · exact Int.le_refl _
                · have := hsd.1 y hy; omega
              unfold inR; simp; omega
            have e2 : recsR (ps.drop i) ls (w :: ws) = recsR (ps.drop i) ls ws := by
              unfold recsR; rw [List.map_cons, sumI, e, recVal_zero]; omega
            rw [e2]
            exact ih i ws (by omega) hi hp.2 (fun x hx => hw x (by simp [hx]))
          · obtain ⟨k, k1, k2, k3, k4⟩ := amt_split (x := w) (qs := ps.drop i) (hs.sublist (List.drop_sublist _ _)) (fun y hy => by
              rw [hd] at hy
              rcases List.mem_cons.1 hy with rfl | hy
              · omega
              · have := hsd.1 y hy; omega)
            rw [List.length_drop] at k1
            have k0 : k ≠ 0 := by
              rintro rfl
              have := k4 q (by rw [List.drop_zero, hd]; simp)
              omega
            obtain ⟨z, hz, _⟩ := drop_cons (xs := ps) (i := i + (k - 1)) (by omega)
            have hza : z.a < w.to := k3 z (by
              refine List.mem_of_getElem? (i := k - 1) ?_
              rw [List.getElem?_take_of_lt (by omega), List.getElem?_drop]; exact hz)
            have e1 : amtR (ps.drop i) w = sumT ps i k := by unfold amtR sumT; rw [k2]
            have e2 : recsR (ps.drop i) ls ws = recsR (ps.drop (i + k)) ls ws := recsR_congr fun x hx => by
              have hxf := hp.1 x hx
              have e3 := amtR_drop (qs := ps.drop i) (x := x) (k := k) (fun y hy => by have := k3 y hy; unfold inR; simp; omega)
              rw [e3, List.drop_drop]
            have e3 : recsR (ps.drop i) ls (w :: ws) = recVal (sumT ps i k) ls + recsR (ps.drop (i + k)) ls ws := by
              rw [← e2, ← e1]; rfl
            have h3 := h.span i (i + (k - 1)) q z (by omega) hq hz (by omega)
            rw [show i + (k - 1) - i + 1 = k by omega, show i + (k - 1) + 1 = i + k by omega] at h3
            have h4 := ih (i + k) ws (by omega) (by omega) hp.2 (fun x hx => hw x (by simp [hx]))
            rw [e3]; omega
      · have e2 : recsR (ps.drop i) ls (w :: ws) = recsR (ps.drop i) ls ws := by
          have e : amtR (ps.drop i) w = 0 := amtR_none fun y hy => by rw [List.drop_eq_nil_of_le (by omega)] at hy; simp at hy
          unfold recsR; rw [List.map_cons, sumI, e, recVal_zero]; omega
        rw [e2]
        exact ih i ws (by omega) hi hp.2 (fun x hx => hw x (by simp [hx]))

/-! ### The values bound -/
theorem scan_ge (L : Int) (ls : List P2) (h0 : Int) : ∀ (qs : List P2) (vs : List Int) (t b : Int), b ≤ scan L ls h0 qs vs t b := by
  intro qs
  induction qs with
  | nil => intro vs t b; rw [scan_nil]; exact Int.le_refl _
  | cons q qs ih =>
    intro vs t b
    cases vs with
    | nil => simp only [scan]; exact Int.le_refl _
    | cons v vs =>
      simp only [scan]
      split
      · exact Int.le_refl _
      · have := ih vs (t + q.b) (imax b (recVal (t + q.b) ls + v))
        have h2 : b ≤ imax b (recVal (t + q.b) ls + v) := by unfold imax; split <;> omega
        omega
theorem scan_span {L : Int} {ls ps : List P2} {h0 : Int} (hs : ps.Pairwise (fun a b => a.a < b.a)) : ∀ (m k j : Nat) (q : P2) (t b r : Int), j = k + m → ps[j]? = some q → q.a - h0 < L → scan L ls h0 (ps.drop k) (valsF L ls (ps.drop (k + 1))) t b = r → recVal (t + sumT ps k (m + 1)) ls + valAt L ls ps (j + 1) ≤ r := by
  intro m
  induction m with
  | zero =>
    intro k j q t b r hj hq hlt h
    obtain rfl : j = k := by omega
    obtain ⟨q', hq', hd⟩ := drop_cons (xs := ps) (i := j) (List.getElem?_eq_some_iff.1 hq).1
    obtain rfl : q = q' := by rw [hq] at hq'; injection hq'
    have h2 := scan_step hd h hlt
    have h3 := scan_ge L ls h0 (ps.drop (j + 1)) (valsF L ls (ps.drop (j + 2))) (t + q.b) (imax b (recVal (t + q.b) ls + valAt L ls ps (j + 1)))
    rw [h2] at h3
    have h4 : recVal (t + q.b) ls + valAt L ls ps (j + 1) ≤ imax b (recVal (t + q.b) ls + valAt L ls ps (j + 1)) := by unfold imax; split <;> omega
    rw [sumT_cons hd, sumT_zero, Int.add_zero]
    omega
  | succ m ih =>
    intro k j q t b r hj hq hlt h
    have hjl := (List.getElem?_eq_some_iff.1 hq).1
    obtain ⟨q', hq', hd⟩ := drop_cons (xs := ps) (i := k) (by omega)
    have hlt' : q'.a < q.a := by
      have := (List.pairwise_iff_getElem.1 hs) k j (by omega) hjl (by omega)
      rw [(List.getElem?_eq_some_iff.1 hq').2, (List.getElem?_eq_some_iff.1 hq).2] at this
      exact this
    have h2 := scan_step hd h (by omega)
    have h3 := ih (k + 1) j q (t + q'.b) _ r (by omega) hq hlt h2
    rw [sumT_cons hd, ← Int.add_assoc]; exact h3
theorem valAt_bnd {L : Int} {ls ps : List P2} (hs : ps.Pairwise (fun a b => a.a < b.a)) : BndV L ls ps (valAt L ls ps) := by
  refine ⟨by rw [valAt_end]; exact Int.le_refl _, fun i hi => ?_, fun i j p q hij hp hq hlt => ?_⟩
  · obtain ⟨p, hp, hd⟩ := drop_cons (xs := ps) (i := i) hi
    have := scan_ge L ls p.a (ps.drop i) (valsF L ls (ps.drop (i + 1))) 0 (valAt L ls ps (i + 1))
    rw [scan_start hd] at this; exact this
  · obtain ⟨p', hp', hd⟩ := drop_cons (xs := ps) (i := i) (List.getElem?_eq_some_iff.1 hp).1
    obtain rfl : p = p' := by rw [hp] at hp'; injection hp'
    have := scan_span (ls := ls) hs (j - i) i j q 0 _ _ (by omega) hq hlt (scan_start hd)
    rwa [Int.zero_add] at this

/-! ### The chosen spans attain them -/
theorem find_val {L : Int} {ls ps : List P2} {h0 r : Int} : ∀ (m k j : Nat) (t : Int), ps.length - k ≤ m → findJ L ls h0 r (ps.drop k) (valsF L ls (ps.drop (k + 1))) t k = some j → k ≤ j ∧ recVal (t + sumT ps k (j - k + 1)) ls + valAt L ls ps (j + 1) = r := by
  intro m
  induction m with
  | zero =>
    intro k j t hm h
    rw [List.drop_eq_nil_of_le (by omega), findJ_nil] at h; cases h
  | succ m ih =>
    intro k j t hm h
    by_cases hk : k < ps.length
    · obtain ⟨q, hq, hd⟩ := drop_cons (xs := ps) (i := k) hk
      by_cases hlt : q.a - h0 < L
      · by_cases he : recVal (t + q.b) ls + valAt L ls ps (k + 1) = r
        · have := findJ_hit hd h hlt he
          injection this with this
          subst this
          rw [Nat.sub_self, sumT_cons hd, sumT_zero, Int.add_zero]
          exact ⟨Nat.le_refl _, he⟩
        · have h2 := findJ_step hd h hlt he
          obtain ⟨h3, h4⟩ := ih (k + 1) j (t + q.b) (by omega) h2
          refine ⟨by omega, ?_⟩
          rw [show j - k + 1 = (j - (k + 1) + 1) + 1 by omega, sumT_cons hd, ← Int.add_assoc]; exact h4
      · have := findJ_far hd h (by omega); cases this
    · rw [List.drop_eq_nil_of_le (by omega), findJ_nil] at h; cases h
def recS (ps ls : List P2) (s : P2) : Int := recVal (sumT ps s.a.toNat (s.b.toNat - s.a.toNat + 1)) ls
theorem spans_val {L : Int} {ls ps : List P2} (hs : ps.Pairwise (fun a b => a.a < b.a)) : ∀ f i, i ≤ ps.length → ps.length - i ≤ f → sumI ((spansF L ls ps f i).map (recS ps ls)) = valAt L ls ps i ∧ ∀ s ∈ spansF L ls ps f i, 0 < recS ps ls s := by
  intro f
  induction f with
  | zero =>
    intro i hi hf
    obtain rfl : i = ps.length := by omega
    rw [valAt_end]; simp [spansF, sumI]
  | succ f ih =>
    intro i hi hf
    by_cases hin : i < ps.length
    · obtain ⟨p, hp, hd⟩ := drop_cons (xs := ps) (i := i) hin
      by_cases he : valAt L ls ps i = valAt L ls ps (i + 1)
      · rw [spans_eq hp he, he]
        exact ih (i + 1) (by omega) (by omega)
      · obtain ⟨j, hj⟩ := findAt_some hd he
        have hb := findAt_bd hj
        rw [spans_hit hp he hj]
        obtain ⟨h1, h2⟩ := ih (j + 1) (by omega) (by omega)
        unfold findAt at hj
        obtain ⟨_, h3⟩ := find_val (ps.length - i) i j 0 (Nat.le_refl _) hj
        rw [Int.zero_add] at h3
        have hB := valAt_bnd (L := L) (ls := ls) hs
        have h4 := hB.mono (j - i) (i + 1) (by omega)
        rw [show i + 1 + (j - i) = j + 1 by omega] at h4
        have h5 := hB.step i hin
        have h6 : recS ps ls ⟨(i : Int), (j : Int)⟩ = recVal (sumT ps i (j - i + 1)) ls := by unfold recS; rfl
        refine ⟨?_, fun s hsm => ?_⟩
        · rw [List.map_cons, sumI, h1, h6]; exact h3
        · rcases List.mem_cons.1 hsm with rfl | hsm
          · rw [h6]; omega
          · exact h2 s hsm
    · rw [spans_end (by omega)]
      obtain rfl : i = ps.length := by omega
      rw [valAt_end]; simp [sumI]
/-- The points of a window from one point to another. -/
theorem amt_span {ps : List P2} (hs : ps.Pairwise (fun a b => a.a < b.a)) {i j : Nat} {p q : P2} (hij : i ≤ j) (hp : ps[i]? = some p) (hq : ps[j]? = some q) (pe : Int) : amtR ps ⟨pe, p.a, q.a + 1⟩ = sumT ps i (j - i + 1) := by
  have hil := (List.getElem?_eq_some_iff.1 hp).1
  have hjl := (List.getElem?_eq_some_iff.1 hq).1
  have hget : ∀ a b (ha : a < ps.length) (hb : b < ps.length), a < b → ps[a].a < ps[b].a := fun a b ha hb h => (List.pairwise_iff_getElem.1 hs) a b ha hb h
  have ei : ps[i].a = p.a := by rw [(List.getElem?_eq_some_iff.1 hp).2]
  have ej : ps[j].a = q.a := by rw [(List.getElem?_eq_some_iff.1 hq).2]
  rw [amtR_drop (k := i)]
  · obtain ⟨k, k1, k2, k3, k4⟩ := amt_split (x := ⟨pe, p.a, q.a + 1⟩) (qs := ps.drop i) (hs.sublist (List.drop_sublist _ _)) (fun y hy => by
      obtain ⟨t, ht, rfl⟩ := List.mem_iff_getElem.1 hy
      rw [List.getElem_drop]
      rw [List.length_drop] at ht
      dsimp only
      rcases Nat.eq_zero_or_pos t with rfl | h0
      · rw [← ei]; exact Int.le_refl _
      · have := hget i (i + t) hil (by omega) (by omega); omega)
    rw [List.length_drop] at k1
    have hk1 : j - i < k := by
      rcases Nat.lt_or_ge (j - i) k with h | h
      · exact h
      · have := k4 q (by
          refine List.mem_of_getElem? (i := j - i - k) ?_
          rw [List.drop_drop, List.getElem?_drop, show i + k + (j - i - k) = j by omega]; exact hq)
        dsimp only at this; omega
    have hk2 : k ≤ j - i + 1 := by
      rcases Nat.lt_or_ge (j - i + 1) k with h | h
      · have hl : j + 1 < ps.length := by omega
        have := k3 ps[j + 1] (by
          refine List.mem_of_getElem? (i := j - i + 1) ?_
          rw [List.getElem?_take_of_lt (by omega), List.getElem?_drop, show i + (j - i + 1) = j + 1 by omega]; exact List.getElem?_eq_getElem hl)
        have h2 := hget j (j + 1) hjl hl (by omega)
        dsimp only at this; omega
      · exact h
    obtain rfl : k = j - i + 1 := by omega
    unfold amtR sumT; rw [k2]
  · intro y hy
    obtain ⟨t, ht, rfl⟩ := List.mem_iff_getElem.1 hy
    rw [List.length_take] at ht
    rw [List.getElem_take]
    have := hget t i (by omega) hil (by omega)
    unfold inR; simp; omega

end Go.Proofs.Ytilkcailpkebdaa

/-
  What is lost in a window, by losses and by points; sums over perils; valid windows are in order. Plain Lean.
-/
namespace Go.Proofs.Ytilkcailpkebdaa
open Go.RowKit
set_option linter.unusedVariables false

/-- What is lost in a window. -/
def amtW (los : List Los) (am : List Int) (x : Win) : Int := sumI ((los.zip am).map fun z => if covers x z.1 = true then z.2 else 0)
theorem findW_iff (l : Los) : ∀ (ws : List Win) (k j : Nat) (x : Win), ws.Pairwise (fun v x => winMeet v x = false) → ws[j]? = some x → (((k + j : Nat) : Int) = findW l ws k ↔ covers x l = true) := by
  intro ws
  induction ws with
  | nil => intro k j x _ h; simp at h
  | cons y ys ih =>
    intro k j x hp hx
    rw [List.pairwise_cons] at hp
    simp only [findW]
    by_cases hc : covers y l = true
    · rw [if_pos hc]
      cases j with
      | zero => obtain rfl : y = x := by simpa using hx
                exact ⟨fun _ => hc, fun _ => by omega⟩
      | succ j =>
        have hx' : ys[j]? = some x := by simpa using hx
        refine ⟨fun h => by omega, fun h => ?_⟩
        have a1 := (covers_iff _ _).1 hc
        have a2 := (covers_iff _ _).1 h
        have a3 := hp.1 x (List.mem_of_getElem? hx')
        rw [(winMeet_iff _ _).2 ⟨by omega, by omega, by omega⟩] at a3; cases a3
    · rw [if_neg hc]
      cases j with
      | zero =>
        obtain rfl : y = x := by simpa using hx
        refine ⟨fun h => ?_, fun h => absurd h hc⟩
        have := findW_bd l ys (k + 1); omega
      | succ j =>
        have := ih (k + 1) j x hp.2 (by simpa using hx)
        rw [← this, show k + (j + 1) = k + 1 + j by omega]
theorem totF_amt {los : List Los} {am : List Int} {ws : List Win} (h : ws.Pairwise (fun v x => winMeet v x = false)) : totF los am ws = ws.map (amtW los am) := by
  unfold totF
  refine List.ext_getElem (by simp) fun j h1 h2 => ?_
  have hj : j < ws.length := by simpa using h2
  rw [List.getElem_map, List.getElem_map, List.getElem_range, totLoop_at, Int.zero_add]
  unfold amtW asgF
  rw [List.zip_map_left, List.map_map]
  congr 1
  refine List.map_congr_left fun z _ => ?_
  have := findW_iff z.1 ws 0 j ws[j] h (List.getElem?_eq_getElem hj)
  rw [Nat.zero_add] at this
  simp only [Function.comp_def, Prod.map, at1, id_eq]
  unfold asgAt
  by_cases hc : covers ws[j] z.1 = true
  · rw [if_pos (this.2 hc), if_pos hc]
  · rw [if_neg (fun h => hc (this.1 h)), if_neg hc]

theorem sumI_add (ks : List Int) (f g : Int → Int) : sumI (ks.map fun k => f k + g k) = sumI (ks.map f) + sumI (ks.map g) := by
  induction ks with
  | nil => rfl
  | cons k ks ih => simp only [List.map_cons, sumI, ih]; omega
theorem sumI_zero (ks : List Int) (f : Int → Int) (h : ∀ k ∈ ks, f k = 0) : sumI (ks.map f) = 0 := by
  induction ks with
  | nil => rfl
  | cons k ks ih => simp only [List.map_cons, sumI]; rw [h k (by simp), ih (fun x hx => h x (by simp [hx]))]; rfl
theorem sumI_one (t a : Int) : ∀ ks : List Int, ks.Nodup → sumI (ks.map fun k => if t = k then a else 0) = if t ∈ ks then a else 0 := by
  intro ks
  induction ks with
  | nil => intro _; simp [sumI]
  | cons k ks ih =>
    intro h
    rw [List.nodup_cons] at h
    simp only [List.map_cons, sumI]
    by_cases e : t = k
    · subst e
      rw [if_pos rfl, if_pos (by simp), sumI_zero ks _ (fun x hx => if_neg (fun h2 => h.1 (by rw [h2]; exact hx)))]; omega
    · rw [if_neg e, ih h.2]
      by_cases m : t ∈ ks
      · rw [if_pos m, if_pos (by simp [m])]; omega
      · rw [if_neg m, if_neg (by simp [e, m])]; omega
theorem sum_hours (x : Win) (ks : List Int) (hk : ks.Nodup) : ∀ (los : List Los) (am : List Int), (∀ a ∈ am, 0 ≤ a) → (∀ z ∈ los.zip am, z.1.peril = x.peril → 0 < z.2 → z.1.hour ∈ ks) → sumI (ks.map fun k => if x.fr ≤ k ∧ k < x.to then sumAt los am x.peril k else 0) = amtW los am x := by
  intro los
  induction los with
  | nil => intro am _ _; rw [sumI_zero _ _ (fun k _ => by simp [sumAt])]; simp [amtW, sumI]
  | cons l ls ih =>
    intro am hn hm
    cases am with
    | nil => rw [sumI_zero _ _ (fun k _ => by simp [sumAt])]; simp [amtW, sumI]
    | cons a ams =>
      have h1 := ih ams (fun y hy => hn y (by simp [hy])) (fun z hz => hm z (by rw [List.zip_cons_cons]; exact List.mem_cons_of_mem _ hz))
      have h0 := hn a (by simp)
      have e : (fun k => if x.fr ≤ k ∧ k < x.to then sumAt (l :: ls) (a :: ams) x.peril k else 0) = fun k => (if l.hour = k then (if covers x l = true then a else 0) else 0) + (if x.fr ≤ k ∧ k < x.to then sumAt ls ams x.peril k else 0) := by
        funext k
        simp only [sumAt]
        by_cases hin : x.fr ≤ k ∧ k < x.to
        · rw [if_pos hin, if_pos hin]
          by_cases hk2 : l.hour = k
          · by_cases hpp : l.peril = x.peril
            · rw [if_pos ⟨hpp, hk2⟩, if_pos hk2, if_pos ((covers_iff _ _).2 ⟨hpp.symm, by omega, by omega⟩)]
            · rw [if_neg (fun h => hpp h.1), if_pos hk2, if_neg (fun h => hpp ((covers_iff _ _).1 h).1.symm)]
          · rw [if_neg (fun h => hk2 h.2), if_neg hk2]
        · rw [if_neg hin, if_neg hin]
          by_cases hk2 : l.hour = k
          · rw [if_pos hk2, if_neg (fun h => hin (by have := (covers_iff _ _).1 h; omega))]; omega
          · rw [if_neg hk2]; omega
      rw [e, sumI_add, h1, sumI_one _ _ _ hk]
      unfold amtW
      rw [List.zip_cons_cons, List.map_cons, sumI]
      congr 1
      dsimp only
      by_cases hc : covers x l = true
      · rw [if_pos hc]
        by_cases ha : 0 < a
        · rw [if_pos (hm (l, a) (by simp) ((covers_iff _ _).1 hc).1.symm ha)]
        · rw [show a = 0 by omega]; simp
      · rw [if_neg hc]; simp
theorem mem_hoursL {p : Int} : ∀ (los : List Los) (am : List Int), ∀ z ∈ los.zip am, z.1.peril = p → 0 < z.2 → z.1.hour ∈ hoursL los am p := by
  intro los
  induction los with
  | nil => intro am z hz; simp at hz
  | cons l ls ih =>
    intro am z hz h1 h2
    cases am with
    | nil => simp at hz
    | cons a ams =>
      rw [List.zip_cons_cons] at hz
      simp only [hoursL]
      rcases List.mem_cons.1 hz with rfl | hz
      · rw [if_pos ⟨h1, h2⟩]; simp
      · split
        · exact List.mem_cons_of_mem _ (ih ams z hz h1 h2)
        · exact ih ams z hz h1 h2
/-- By points. -/
theorem amtW_pts {los : List Los} {am : List Int} (h : ∀ a ∈ am, 0 ≤ a) (x : Win) : amtW los am x = amtR (ptsF los am x.peril) x := by
  rw [← sum_hours x (hoursF los am x.peril) ((asc_insAll _).imp (fun hab => by omega)) los am h (fun z hz h1 h2 => (mem_insAll _ _).2 (mem_hoursL los am z hz h1 h2))]
  unfold amtR ptsF
  generalize hoursF los am x.peril = ks
  induction ks with
  | nil => rfl
  | cons k ks ih =>
    simp only [List.map_cons, sumI]
    by_cases hin : x.fr ≤ k ∧ k < x.to
    · rw [if_pos hin, List.filter_cons_of_pos ((inR_iff _ _).2 hin), sumB, ih]
    · rw [if_neg hin, List.filter_cons_of_neg (fun h => hin ((inR_iff _ _).1 h)), ih, Int.zero_add]
theorem amtW_bd {los : List Los} {am : List Int} (h : ∀ a ∈ am, 0 ≤ a) (x : Win) : 0 ≤ amtW los am x ∧ amtW los am x ≤ sumI am := by
  unfold amtW
  induction los generalizing am with
  | nil =>
    simp only [List.zip_nil_left, List.map_nil, sumI]
    have : ∀ l : List Int, (∀ a ∈ l, 0 ≤ a) → 0 ≤ sumI l := by
      intro l
      induction l with
      | nil => intro _; simp [sumI]
      | cons a l ih => intro h; have h1 := h a (by simp); have h2 := ih (fun x hx => h x (by simp [hx])); simp only [sumI]; omega
    exact ⟨by omega, this am h⟩
  | cons l ls ih =>
    cases am with
    | nil => simp [sumI]
    | cons a ams =>
      have h1 := h a (by simp)
      have h2 := ih (am := ams) (fun y hy => h y (by simp [hy]))
      rw [List.zip_cons_cons, List.map_cons, sumI, sumI]
      dsimp only
      split <;> omega
theorem amtW_far {los : List Los} {am : List Int} {x : Win} (h : ∀ l ∈ los, l.peril ≠ x.peril) : amtW los am x = 0 := by
  unfold amtW
  induction los generalizing am with
  | nil => simp [sumI]
  | cons l ls ih =>
    cases am with
    | nil => simp [sumI]
    | cons a ams =>
      rw [List.zip_cons_cons, List.map_cons, sumI, ih (fun y hy => h y (by simp [hy]))]
      dsimp only
      rw [if_neg (fun hc => h l (by simp) ((covers_iff _ _).1 hc).1.symm)]; rfl

/-! ### Sums by perils -/
theorem sum_by {ws : List Win} {g : Win → Int} {ks : List Int} (hk : ks.Nodup) (h : ∀ w ∈ ws, w.peril ∉ ks → g w = 0) : sumI (ws.map g) = sumI (ks.map fun p => sumI ((ws.filter fun w => decide (w.peril = p)).map g)) := by
  induction ws with
  | nil => rw [sumI_zero _ _ (fun k _ => by simp [sumI])]; rfl
  | cons w ws ih =>
    have h1 := ih (fun x hx => h x (by simp [hx]))
    have e : (fun p => sumI (((w :: ws).filter fun w => decide (w.peril = p)).map g)) = fun p => (if w.peril = p then g w else 0) + sumI ((ws.filter fun w => decide (w.peril = p)).map g) := by
      funext p
      by_cases hp : w.peril = p
      · rw [List.filter_cons_of_pos (by simpa using hp), List.map_cons, sumI, if_pos hp]
      · rw [List.filter_cons_of_neg (by simpa using hp), if_neg hp]; omega
    rw [e, sumI_add, ← h1, sumI_one _ _ _ hk, List.map_cons, sumI]
    by_cases hm : w.peril ∈ ks
    · rw [if_pos hm]
    · rw [if_neg hm, h w (by simp) hm]
theorem sumI_leF {ks : List Int} {f g : Int → Int} (h : ∀ k ∈ ks, f k ≤ g k) : sumI (ks.map f) ≤ sumI (ks.map g) := by
  induction ks with
  | nil => exact Int.le_refl _
  | cons k ks ih => have h1 := h k (by simp); have h2 := ih (fun x hx => h x (by simp [hx])); simp only [List.map_cons, sumI]; omega

/-! ### Valid windows -/
theorem oneE_zero {before : List Win} {x : Win} {n : Int} (h : oneE before x n = 0) : winRange x = true ∧ x.to - x.fr ≤ n ∧ (∀ l, before.getLast? = some l → winOrd l x = false) ∧ ∀ v ∈ before, winMeet v x = false := by
  unfold oneE at h
  split at h
  · omega
  · rename_i h1
    split at h
    · omega
    · rename_i h2
      split at h
      · omega
      · rename_i h3
        split at h
        · omega
        · rename_i h4
          refine ⟨by simpa using h1, by omega, fun l hl => ?_, fun v hv => ?_⟩
          · rw [hl] at h3; simpa using h3
          · rw [List.any_eq_true] at h4
            cases hq : winMeet v x with
            | false => rfl
            | true => exact absurd ⟨v, hv, hq⟩ h4
theorem wins_order (n : Int) : ∀ (xs before : List Win), winsLoop n before xs = 0 → before.Pairwise (fun a b => a.fr ≤ b.fr) → (before ++ xs).Pairwise (fun a b => a.fr ≤ b.fr) ∧ ∀ x ∈ xs, winRange x = true ∧ x.to - x.fr ≤ n := by
  intro xs
  induction xs with
  | nil => intro before _ h; exact ⟨by simpa using h, fun x hx => by simp at hx⟩
  | cons x xs ih =>
    intro before h hb
    unfold winsLoop at h
    split at h
    · rename_i h1; exact absurd h h1
    · rename_i h1
      obtain ⟨r1, r2, r3, _⟩ := oneE_zero (show oneE before x n = 0 by omega)
      have hb' : (before ++ [x]).Pairwise (fun a b => a.fr ≤ b.fr) := by
        refine List.pairwise_append.2 ⟨hb, by simp, fun a ha b hbm => ?_⟩
        obtain rfl : b = x := by simpa using hbm
        rcases List.eq_nil_or_concat before with rfl | ⟨init, l, rfl⟩
        · simp at ha
        · have hl := r3 l (by simp)
          have h2 : l.fr ≤ b.fr := by
            rw [Bool.eq_false_iff, Ne, winOrd_iff] at hl
            omega
          rw [List.concat_eq_append] at ha hb
          rcases List.mem_append.1 ha with ha | ha
          · have := (List.pairwise_append.1 hb).2.2 a ha l (by simp)
            omega
          · obtain rfl : a = l := by simpa using ha
            exact h2
      obtain ⟨p1, p2⟩ := ih _ h hb'
      refine ⟨by simpa using p1, fun y hy => ?_⟩
      rcases List.mem_cons.1 hy with rfl | hy
      · exact ⟨r1, r2⟩
      · exact p2 y hy
theorem winsE_parts {ws : List Win} {n : Int} (h : winsE ws n = 0) : winsLoop n [] ws = 0 ∧ 1 ≤ n ∧ n ≤ 8784 ∧ ws.length ≤ 64 := by
  unfold winsE at h
  split at h
  · omega
  · split at h
    · omega
    · exact ⟨h, by omega, by omega, by omega⟩
/-- The windows of one peril among valid ones. -/
theorem valid_peril {ws : List Win} {n : Int} (h : winsE ws n = 0) (p : Int) : (ws.filter fun w => decide (w.peril = p)).Pairwise (fun a b => a.to ≤ b.fr) ∧ ∀ w ∈ ws.filter (fun w => decide (w.peril = p)), w.fr < w.to ∧ w.to - w.fr ≤ n := by
  have hl := (winsE_parts h).1
  obtain ⟨p1, p2⟩ := wins_order n ws [] hl List.Pairwise.nil
  have p3 := (wins_meet n ws [] hl).1
  rw [List.nil_append] at p1
  constructor
  · have := (List.Pairwise.and p1 p3).sublist (List.filter_sublist (l := ws) (p := fun w => decide (w.peril = p)))
    refine this.imp_of_mem fun {a b} ha hb hab => ?_
    have a1 : a.peril = p := by simpa using (List.mem_filter.1 ha).2
    have b1 : b.peril = p := by simpa using (List.mem_filter.1 hb).2
    have b2 := (winRange_iff _).1 (p2 b (List.mem_filter.1 hb).1).1
    have := hab.2
    rw [Bool.eq_false_iff, Ne, winMeet_iff] at this
    omega
  · intro w hw
    have := p2 w (List.mem_filter.1 hw).1
    have h2 := (winRange_iff _).1 this.1
    omega
/-- In strict order, apart and in range: valid. -/
theorem wins_valid (n : Int) : ∀ (xs before : List Win), (∀ x ∈ xs, winRange x = true ∧ x.to - x.fr ≤ n) → (before ++ xs).Pairwise (fun a b => a.fr < b.fr ∨ (a.fr = b.fr ∧ a.peril < b.peril)) → (before ++ xs).Pairwise (fun a b => winMeet a b = false) → winsLoop n before xs = 0 := by
  intro xs
  induction xs with
  | nil => intro before _ _ _; rfl
  | cons x xs ih =>
    intro before h1 h2 h3
    have e : oneE before x n = 0 := by
      obtain ⟨r1, r2⟩ := h1 x (by simp)
      rw [one_rest r1 (by omega)]
      · rw [if_neg]
        rw [Bool.not_eq_true, List.any_eq_false]
        intro v hv
        have := (List.pairwise_append.1 h3).2.2 v hv x (by simp)
        simp [this]
      · intro l hl
        have := (List.pairwise_append.1 h2).2.2 l (List.mem_of_getLast? hl) x (by simp)
        rw [Bool.eq_false_iff, Ne, winOrd_iff]; omega
    unfold winsLoop
    rw [if_neg (by rw [e]; simp)]
    exact ih _ (fun y hy => h1 y (by simp [hy])) (by simpa using h2) (by simpa using h3)
theorem totals_valid {los : List Los} {am : List Int} {ws : List Win} {n : Int} (h : winsE ws n = 0) : totF los am ws = ws.map (amtW los am) := totF_amt (wins_meet n ws [] (winsE_parts h).1).1

end Go.Proofs.Ytilkcailpkebdaa

/-
  The best windows are valid; their recoveries add up to the values of the perils' points, and no valid windows recover more. Plain Lean.
-/
namespace Go.Proofs.Ytilkcailpkebdaa
open Go.RowKit
set_option linter.unusedVariables false

theorem perils_eq (los : List Los) : perilsF los = insAll (perilsL los) := compact_sorted _
theorem perils_mem {los : List Los} {p : Int} : p ∈ perilsF los ↔ ∃ l ∈ los, l.peril = p := by
  rw [perils_eq, mem_insAll]; unfold perilsL; rw [List.mem_map]
theorem perils_nodup (los : List Los) : (perilsF los).Nodup := by rw [perils_eq]; exact (asc_insAll _).imp (fun hab => by omega)
theorem peril_range {los : List Los} {am : List Int} (h : chkE los am = 0) {l : Los} (hl : l ∈ los) : 0 ≤ l.peril ∧ l.peril ≤ 15 := by
  have hG := goodE_of h
  obtain ⟨k, hk, rfl⟩ := List.getElem_of_mem hl
  have hs := hG.same
  have hz := zip_get (los := los) (am := am) (k := k) (List.getElem?_eq_getElem hk) (List.getElem?_eq_getElem (by omega))
  have := List.all_eq_true.1 hG.all _ (List.mem_of_getElem? hz)
  have := (pairOk_iff _ _).1 this
  omega
theorem amounts_nonneg {los : List Los} {am : List Int} (h : chkE los am = 0) : ∀ a ∈ am, 0 ≤ a := fun a ha => (zip_amounts (goodE_of h).same (goodE_of h).all a ha).1
theorem amtW_range {los : List Los} {am : List Int} (h : chkE los am = 0) (x : Win) : 0 ≤ amtW los am x ∧ amtW los am x ≤ 17592186044416 := by
  have h1 := amtW_bd (los := los) (amounts_nonneg h) x
  have h2 := (goodE_of h).sum
  omega
theorem best_perm (los : List Los) (am : List Int) (n : Int) (ls : List P2) : (bestF los am n ls).Perm (collW los am n ls) := by
  obtain ⟨_, h2⟩ := insW_all (collW los am n ls) [] List.Pairwise.nil
  rwa [List.append_nil] at h2
theorem winMeet_symm {a b : Win} (h : winMeet a b = false) : winMeet b a = false := by
  rw [Bool.eq_false_iff, Ne, winMeet_iff] at h ⊢
  omega
theorem coll_mem {los : List Los} {am : List Int} {n : Int} {ls : List P2} {w : Win} (h : w ∈ collW los am n ls) : ∃ p, p ∈ perilsF los ∧ w ∈ winsP los am n ls p ∧ w.peril = p := by
  unfold collW at h
  obtain ⟨p, hp, hw⟩ := List.mem_flatMap.1 h
  exact ⟨p, hp, hw, (winsP_asc los am n ls p).2 w hw⟩
theorem coll_nodup (los : List Los) (am : List Int) (n : Int) (ls : List P2) : (collW los am n ls).Nodup := by
  unfold collW List.Nodup
  rw [List.pairwise_flatMap]
  refine ⟨fun p _ => (winsP_asc los am n ls p).1.imp (fun {a b} hab e => by subst e; omega), (perils_nodup los).imp fun {p q} hpq x hx y hy e => ?_⟩
  have h1 := (winsP_asc los am n ls p).2 x hx
  have h2 := (winsP_asc los am n ls q).2 y hy
  subst e; exact hpq (h1.symm.trans h2)
theorem coll_meet {los : List Los} {am : List Int} {n : Int} {ls : List P2} (h : chkE los am = 0) : (collW los am n ls).Pairwise (fun a b => winMeet a b = false) := by
  unfold collW
  rw [List.pairwise_flatMap]
  refine ⟨fun p _ => (winsP_fine h p).2.imp (fun {a b} hab => ?_), (perils_nodup los).imp fun {p q} hpq x hx y hy => ?_⟩
  · rw [Bool.eq_false_iff, Ne, winMeet_iff]; omega
  · have h1 := (winsP_asc los am n ls p).2 x hx
    have h2 := (winsP_asc los am n ls q).2 y hy
    rw [Bool.eq_false_iff, Ne, winMeet_iff]
    intro h3; exact hpq (by omega)
theorem best_meet {los : List Los} {am : List Int} {n : Int} {ls : List P2} (h : chkE los am = 0) : (bestF los am n ls).Pairwise (fun a b => winMeet a b = false) :=
  ((best_perm los am n ls).pairwise_iff (fun {a b} hab => winMeet_symm hab)).2 (coll_meet h)
/-- The best windows are valid. -/
theorem best_valid {los : List Los} {am : List Int} {n : Int} {ls : List P2} (h : chkE los am = 0) (h1 : 1 ≤ n) (h2 : n ≤ 8784) : winsE (bestF los am n ls) n = 0 := by
  unfold winsE
  have hl := best_len (los := los) (am := am) (n := n) (ls := ls)
  have hg := (goodE_of h).len
  rw [if_neg (by omega), if_neg (by omega)]
  have hP := best_perm los am n ls
  refine wins_valid n _ [] (fun w hw => ?_) ?_ ?_
  · obtain ⟨p, hp, hwp, e⟩ := coll_mem (hP.mem_iff.1 hw)
    have f := (winsP_fine h p).1 w hwp
    obtain ⟨l, hl, e2⟩ := perils_mem.1 hp
    have r := peril_range h hl
    refine ⟨(winRange_iff _).2 ⟨by omega, by omega, by omega, by omega, by omega⟩, by omega⟩
  · rw [List.nil_append]
    have s1 : (bestF los am n ls).Pairwise (fun a b => ¬ winLt b a) := (insW_all (collW los am n ls) [] List.Pairwise.nil).1
    have s2 : (bestF los am n ls).Pairwise (fun a b => a ≠ b) := (hP.nodup_iff).2 (coll_nodup los am n ls)
    refine (List.Pairwise.and s1 s2).imp_of_mem fun {a b} ha hb hab => ?_
    by_cases hlt : winLt a b
    · exact hlt
    · exact absurd (coll_key (hP.mem_iff.1 ha) (hP.mem_iff.1 hb) hlt hab.1) hab.2
  · rw [List.nil_append]; exact best_meet h
theorem sum_flat (ks : List Int) (f : Int → List Win) (g : Win → Int) : sumI ((ks.flatMap f).map g) = sumI (ks.map fun k => sumI ((f k).map g)) := by
  induction ks with
  | nil => rfl
  | cons k ks ih => rw [List.flatMap_cons, List.map_append, sumI_append, ih, List.map_cons, sumI]
theorem win_of_span {los : List Los} {am : List Int} {n : Int} {ls : List P2} (h : chkE los am = 0) {p : Int} {s : P2} (hs : s ∈ spansOf (ptsF los am p) n ls) : recVal (amtW los am (winOf p (ptsF los am p) s)) ls = recS (ptsF los am p) ls s := by
  obtain ⟨h1, h2, h3⟩ := spansOf_in hs
  have hasc := (ptsF_fine h p).2.1
  rw [amtW_pts (amounts_nonneg h)]
  show recVal (amtR (ptsF los am p) (winOf p (ptsF los am p) s)) ls = _
  have hi : s.a.toNat < (ptsF los am p).length := by omega
  have hj : s.b.toNat < (ptsF los am p).length := by omega
  have e := amt_span hasc (i := s.a.toNat) (j := s.b.toNat) (by omega) (List.getElem?_eq_getElem hi) (List.getElem?_eq_getElem hj) p
  have e2 : winOf p (ptsF los am p) s = ⟨p, (ptsF los am p)[s.a.toNat].a, (ptsF los am p)[s.b.toNat].a + 1⟩ := by
    unfold winOf hourAt; rw [List.getElem?_eq_getElem hi, List.getElem?_eq_getElem hj]; rfl
  rw [e2, e]; rfl
/-- The greatest recoveries, over all perils. -/
def bestSum (los : List Los) (am : List Int) (n : Int) (ls : List P2) : Int := sumI ((perilsF los).map fun p => valAt n ls (ptsF los am p) 0)
theorem coll_sum {los : List Los} {am : List Int} {n : Int} {ls : List P2} (h : chkE los am = 0) (hr : recErr 0 ls = 0) (h1 : 1 ≤ n) (h2 : n ≤ 8784) : sumI ((collW los am n ls).map fun w => recVal (amtW los am w) ls) = bestSum los am n ls ∧ ∀ w ∈ collW los am n ls, 0 < recVal (amtW los am w) ls := by
  have hv : ∀ p, sumI ((winsP los am n ls p).map fun w => recVal (amtW los am w) ls) = valAt n ls (ptsF los am p) 0 ∧ ∀ w ∈ winsP los am n ls p, 0 < recVal (amtW los am w) ls := fun p => by
    have hc := chkErr_pts h hr (n := n) (by omega) p
    have hS : spansOf (ptsF los am p) n ls = spansF n ls (ptsF los am p) (ptsF los am p).length 0 := by unfold spansOf; rw [if_pos hc]
    have hv := spans_val (L := n) (ls := ls) (ptsF_fine h p).2.1 (ptsF los am p).length 0 (by omega) (by omega)
    rw [← hS] at hv
    unfold winsP
    rw [List.map_map]
    constructor
    · rw [← hv.1]
      congr 1
      refine List.map_congr_left fun s hs => ?_
      exact win_of_span h hs
    · intro w hw
      obtain ⟨s, hs, rfl⟩ := List.mem_map.1 hw
      rw [win_of_span h hs]; exact hv.2 s hs
  constructor
  · unfold collW bestSum
    rw [sum_flat]
    congr 1
    exact List.map_congr_left fun p _ => (hv p).1
  · intro w hw
    obtain ⟨p, _, hwp, _⟩ := coll_mem hw
    exact (hv p).2 w hwp
theorem bestA_ok {los : List Los} {am : List Int} {n : Int} {ls : List P2} (h : chkE los am = 0) (hr : recErr 0 ls = 0) (h1 : 1 ≤ n) (h2 : n ≤ 8784) : bestA los am n ls = 0 := by
  unfold bestA; rw [if_neg (by simp [h]), if_neg (by simp [hr]), if_neg (by omega)]
theorem best_all {los : List Los} {am : List Int} {n : Int} {ls : List P2} (h : chkE los am = 0) (hr : recErr 0 ls = 0) (h1 : 1 ≤ n) (h2 : n ≤ 8784) :
    bestE los am n ls = 0 ∧ bestW los am n ls = bestF los am n ls ∧ bestT los am n ls = (bestF los am n ls).map (amtW los am) ∧ bestR los am n ls = (bestF los am n ls).map (fun w => recVal (amtW los am w) ls) ∧ sumI (bestR los am n ls) = bestSum los am n ls ∧ ∀ r ∈ bestR los am n ls, 0 < r := by
  obtain ⟨e1, e2, e3, e4⟩ := best_ok (bestA_ok h hr h1 h2)
  have hv := best_valid (los := los) (am := am) (ls := ls) h h1 h2
  have hE := ev_parts h hr hv
  obtain ⟨f1, f2, f3⟩ := ev_ok hE
  have hT := totals_valid (los := los) (am := am) hv
  have hR : bestR los am n ls = (bestF los am n ls).map (fun w => recVal (amtW los am w) ls) := by rw [e3, f3, hT]; unfold recsF; rw [List.map_map]; rfl
  obtain ⟨s1, s2⟩ := coll_sum h hr h1 h2
  refine ⟨by rw [e4]; exact hE, by rw [e1, f1], by rw [e2, f2, hT], hR, ?_, fun r hr' => ?_⟩
  · rw [hR, ← s1]; exact sumI_perm ((best_perm los am n ls).map _)
  · rw [hR] at hr'
    obtain ⟨w, hw, rfl⟩ := List.mem_map.1 hr'
    exact s2 w ((best_perm los am n ls).mem_iff.1 hw)
/-- No valid windows recover more, whatever bounds the values of the perils' points. -/
theorem eval_bound {los : List Los} {am : List Int} {n : Int} {ls : List P2} {ws : List Win} (h : chkE los am = 0) (hr : recErr 0 ls = 0) (hw : winsE ws n = 0) {V : Int → Nat → Int} (hV : ∀ p ∈ perilsF los, BndV n ls (ptsF los am p) (V p)) : sumI (evR los am ws n ls) ≤ sumI ((perilsF los).map fun p => V p 0) := by
  have hE := ev_parts h hr hw
  obtain ⟨_, _, f3⟩ := ev_ok hE
  have hR : evR los am ws n ls = ws.map (fun w => recVal (amtW los am w) ls) := by rw [f3, totals_valid hw]; unfold recsF; rw [List.map_map]; rfl
  rw [hR, sum_by (perils_nodup los) (fun w _ hm => ?_)]
  · refine sumI_leF fun p hp => ?_
    obtain ⟨p1, p2⟩ := valid_peril hw p
    have hb := bound_all (hV p hp) (ptsF_fine h p).2.1 _ 0 _ (Nat.le_refl _) (Nat.zero_le _) p1 p2
    rw [List.drop_zero] at hb
    refine Int.le_trans (Int.le_of_eq ?_) hb
    unfold recsR
    congr 1
    refine List.map_congr_left fun w hwm => ?_
    have e : w.peril = p := by simpa using (List.mem_filter.1 hwm).2
    rw [amtW_pts (amounts_nonneg h), e]
  · rw [amtW_far (fun l hl e => hm (perils_mem.2 ⟨l, hl, e⟩)), recVal_zero]
theorem eval_le {los : List Los} {am : List Int} {n : Int} {ls : List P2} {ws : List Win} (h : chkE los am = 0) (hr : recErr 0 ls = 0) (hw : winsE ws n = 0) : sumI (evR los am ws n ls) ≤ bestSum los am n ls :=
  eval_bound h hr hw (V := fun p => valAt n ls (ptsF los am p)) (fun p _ => valAt_bnd (ptsF_fine h p).2.1)
theorem evR_valid {los : List Los} {am : List Int} {n : Int} {ls : List P2} {ws : List Win} (h : chkE los am = 0) (hr : recErr 0 ls = 0) (hw : winsE ws n = 0) : evR los am ws n ls = ws.map (fun w => recVal (amtW los am w) ls) := by
  obtain ⟨_, _, f3⟩ := ev_ok (ev_parts h hr hw)
  rw [f3, totals_valid hw]; unfold recsF; rw [List.map_map]; rfl

end Go.Proofs.Ytilkcailpkebdaa
