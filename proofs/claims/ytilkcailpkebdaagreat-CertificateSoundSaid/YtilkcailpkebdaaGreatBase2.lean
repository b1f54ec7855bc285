/-
  Texts of the proof, one after the other.
-/
import Derived.Test.YtilkcailpkebdaaGreatProg
import Derived.Test.YtilkcailpkebdaaGreatBase1
import Derived.Deep.OwnRows
import Derived.Deep.LoopGhost
import Derived.RegionTactic

/-
  The contracts of the small functions on numbers: amount.Valid, excess.Layer, treatyref20.Layer and the like.
-/
namespace Go.Proofs.YtilkcailpkebdaaGreat
open Go.RowKit

def validB (a : Int) : Bool := decide (-17592186044416 ≤ a) && decide (a ≤ 17592186044416)

set_option maxHeartbeats 400000 in
theorem valid_any (a : Int) (w : World) :
    Calls Tryz.prog 54 #[.int .i64 a] w fun e w' => e = .returned (.bool (validB a)) ∧ w = w' := by
  unfold validB
  go_enter Tryz.func54, Tryz.ntmps54
  go_wp2
  all_goals go_ret
  all_goals refine ⟨ret_bool ?_, rfl⟩
  all_goals simp [*]
  all_goals omega

set_option maxHeartbeats 400000 in
theorem least_one (a x : Int) (b : Nat) (w : World) (hc : w.cell? ⟨b, 0, none⟩ = some (.int .i64 x)) :
    Calls Tryz.prog 72 #[.int .i64 a, .slice (some ⟨b, 0, none⟩) 1 1] w fun e w' => e = .returned (.int .i64 (imin a x)) ∧ w = w' := by
  go_enter Tryz.func72, Tryz.ntmps72
  go_wp2
  go_loop [0, 9] (fun f i => (f = .int .i64 a ∧ i = .int .i64 0) ∨ (f = .int .i64 (imin a x) ∧ i = .int .i64 1)) (fun _ i => (1 - intOf i).toNat)
  case atStart => exact Or.inl ⟨rfl, rfl⟩
  case round =>
    rcases hrel with ⟨rfl, rfl⟩ | ⟨rfl, rfl⟩
    · go_wp2
      · refine ⟨Or.inr ⟨?_, rfl⟩, by decide⟩
        rw [imin, if_pos (by assumption)]
      · refine ⟨Or.inr ⟨?_, rfl⟩, by decide⟩
        rw [imin, if_neg (by omega)]
    · go_wp2
      go_ret
      exact ⟨rfl, rfl⟩

set_option maxHeartbeats 400000 in
theorem greatest_one (a x : Int) (b : Nat) (w : World) (hc : w.cell? ⟨b, 0, none⟩ = some (.int .i64 x)) :
    Calls Tryz.prog 74 #[.int .i64 a, .slice (some ⟨b, 0, none⟩) 1 1] w fun e w' => e = .returned (.int .i64 (imax a x)) ∧ w = w' := by
  go_enter Tryz.func74, Tryz.ntmps74
  go_wp2
  go_loop [0, 9] (fun f i => (f = .int .i64 a ∧ i = .int .i64 0) ∨ (f = .int .i64 (imax a x) ∧ i = .int .i64 1)) (fun _ i => (1 - intOf i).toNat)
  case atStart => exact Or.inl ⟨rfl, rfl⟩
  case round =>
    rcases hrel with ⟨rfl, rfl⟩ | ⟨rfl, rfl⟩
    · go_wp2
      · refine ⟨Or.inr ⟨?_, rfl⟩, by decide⟩
        rw [imax, if_pos (by assumption)]
      · refine ⟨Or.inr ⟨?_, rfl⟩, by decide⟩
        rw [imax, if_neg (by omega)]
    · go_wp2
      go_ret
      exact ⟨rfl, rfl⟩

def limited (n : Int) : Int := imax 0 (imin n 17592186044416)

set_option maxHeartbeats 400000 in
theorem limited_any (n : Int) (w : World) :
    Calls Tryz.prog 73 #[.int .i64 n] w fun e w' => e = .returned (.int .i64 (limited n)) ∧ Below w.heap.size w w' := by
  go_enter Tryz.func73, Tryz.ntmps73
  go_wp2_with (first | (go_at_call 72; refine (least_one _ 17592186044416 w.heap.size _ (by simp)).mono ?_; rintro e w' ⟨rfl, rfl⟩) | (go_at_call 74; refine (greatest_one _ (imin n 17592186044416) (w.heap.size + 1) _ (by simp)).mono ?_; rintro e w' ⟨rfl, rfl⟩))
  go_ret
  exact ⟨rfl, ((Below.refl _ _).alloc (Nat.le_refl _) _).alloc (by simp) _⟩

theorem limited_bd (n : Int) : 0 ≤ limited n ∧ limited n ≤ 17592186044416 := by
  unfold limited imax imin; split <;> split <;> omega

def layerF (a r l : Int) : Int := imin (limited l) (imax 0 (limited a - limited r))
theorem layerF_bd (a r l : Int) : 0 ≤ layerF a r l ∧ layerF a r l ≤ 17592186044416 := by
  have := limited_bd l
  unfold layerF imax imin; split <;> split <;> omega

set_option maxHeartbeats 400000 in
theorem layer_any (a r l : Int) (w : World) :
    Calls Tryz.prog 55 #[.int .i64 a, .int .i64 r, .int .i64 l] w fun e w' => e = .returned (.int .i64 (layerF a r l)) ∧ Below w.heap.size w w' := by
  have ba := limited_bd a
  have br := limited_bd r
  go_enter Tryz.func55, Tryz.ntmps55
  go_wp2_with fail
  refine (limited_any _ _).mono ?_
  rintro e w1 ⟨rfl, b1⟩
  go_wp2_with fail
  refine (limited_any _ _).mono ?_
  rintro e w2 ⟨rfl, b2⟩
  go_wp2_with fail
  refine (limited_any _ _).mono ?_
  rintro e w3 ⟨rfl, b3⟩
  go_wp2_with (first | (go_at_call 74; refine (greatest_one _ (limited a - limited r) w3.heap.size _ (by simp)).mono ?_; rintro e w' ⟨rfl, rfl⟩) | (go_at_call 72; refine (least_one _ (imax 0 (limited a - limited r)) (w3.heap.size + 1) _ (by simp)).mono ?_; rintro e w' ⟨rfl, rfl⟩))
  go_ret
  refine ⟨rfl, ?_⟩
  have hb : Below w.heap.size w w3 := b1.trans ((b2.mono b1.size).trans (b3.mono (Nat.le_trans b1.size b2.size)))
  exact (hb.alloc hb.size _).alloc (Nat.le_trans hb.size (by simp)) _

/-! ### The reference's layer -/
def clampF (x : Int) : Int := imin (imax x 0) 17592186044416
theorem clampF_bd (n : Int) : 0 ≤ clampF n ∧ clampF n ≤ 17592186044416 := by
  unfold clampF imax imin; split <;> split <;> omega
theorem clampF_eq (n : Int) : clampF n = limited n := by
  unfold clampF limited imax imin; split <;> split <;> (try split) <;> (try split) <;> omega

set_option maxHeartbeats 400000 in
theorem rlayer_any (a r l : Int) (w : World) :
    Calls Tryz.prog 88 #[.int .i64 a, .int .i64 r, .int .i64 l] w fun e w' => e = .returned (.int .i64 (layerF a r l)) ∧ w = w' := by
  have hmx := @run_imax Tryz.prog
  have hmn := @run_imin Tryz.prog
  have ba := clampF_bd a
  have br := clampF_bd r
  unfold clampF at ba br
  go_enter Tryz.func88, Tryz.ntmps88
  go_wp2_with fail
  go_ret
  refine ⟨ret_int ?_, rfl⟩
  show imin (imax (clampF a - clampF r) 0) (clampF l) = _
  rw [clampF_eq, clampF_eq, clampF_eq]
  unfold layerF imax imin; repeat' split
  all_goals omega

def inHoursB (h : Int) : Bool := decide (0 ≤ h) && decide (h ≤ 876599)
set_option maxHeartbeats 400000 in
theorem inHours_any (a : Int) (w : World) :
    Calls Tryz.prog 87 #[.int .i64 a] w fun e w' => e = .returned (.bool (inHoursB a)) ∧ w = w' := by
  unfold inHoursB
  go_enter Tryz.func87, Tryz.ntmps87
  go_wp2
  all_goals go_ret
  all_goals refine ⟨ret_bool ?_, rfl⟩
  all_goals simp [*]
  all_goals omega

end Go.Proofs.YtilkcailpkebdaaGreat

/-
  What layers recover of a total, in plain Lean.
-/
namespace Go.Proofs.YtilkcailpkebdaaGreat
open Go.RowKit

def okLay (l : P2) : Bool := decide (0 ≤ l.a) && decide (l.a ≤ 1073741824) && decide (1 ≤ l.b) && decide (l.b ≤ 1073741824)
theorem okLay_iff (l : P2) : okLay l = true ↔ 0 ≤ l.a ∧ l.a ≤ 1073741824 ∧ 1 ≤ l.b ∧ l.b ≤ 1073741824 := by
  simp [okLay]; omega
def sumL (t : Int) : List P2 → Int
  | [] => 0
  | l :: ls => layerF t l.a l.b + sumL t ls
theorem sumL_bd (t : Int) (ls : List P2) : 0 ≤ sumL t ls ∧ sumL t ls ≤ 17592186044416 * ls.length := by
  induction ls with
  | nil => simp [sumL]
  | cons l ls ih => have := layerF_bd t l.a l.b; simp only [sumL, List.length_cons]; omega
def recErr (t : Int) (ls : List P2) : Int :=
  if ls.length = 0 ∨ 12 < ls.length then 4 else if ls.all okLay = false then 1 else if t < 0 ∨ 17592186044416 < t then 1 else 0
def recVal (t : Int) (ls : List P2) : Int := if recErr t ls = 0 then sumL t ls else 0

theorem rec_len {t : Int} {ls : List P2} (h : ls.length = 0 ∨ 12 < ls.length) : recErr t ls = 4 ∧ recVal t ls = 0 := by
  have : recErr t ls = 4 := by unfold recErr; rw [if_pos h]
  exact ⟨this, by unfold recVal; rw [this]; rfl⟩
theorem rec_bad {t : Int} {ls : List P2} (h : ¬ (ls.length = 0 ∨ 12 < ls.length)) (h2 : ls.all okLay = false) : recErr t ls = 1 ∧ recVal t ls = 0 := by
  have : recErr t ls = 1 := by unfold recErr; rw [if_neg h, if_pos h2]
  exact ⟨this, by unfold recVal; rw [this]; rfl⟩
theorem rec_range {t : Int} {ls : List P2} (h : ¬ (ls.length = 0 ∨ 12 < ls.length)) (h2 : ls.all okLay = true) (h3 : t < 0 ∨ 17592186044416 < t) : recErr t ls = 1 ∧ recVal t ls = 0 := by
  have : recErr t ls = 1 := by unfold recErr; rw [if_neg h, if_neg (by simp [h2]), if_pos h3]
  exact ⟨this, by unfold recVal; rw [this]; rfl⟩
theorem rec_ok {t : Int} {ls : List P2} (h : ¬ (ls.length = 0 ∨ 12 < ls.length)) (h2 : ls.all okLay = true) (h3 : ¬ (t < 0 ∨ 17592186044416 < t)) : recErr t ls = 0 ∧ recVal t ls = sumL t ls := by
  have : recErr t ls = 0 := by unfold recErr; rw [if_neg h, if_neg (by simp [h2]), if_neg h3]
  exact ⟨this, by unfold recVal; rw [if_pos this]⟩
theorem all_of_drop {ls : List P2} {k : Nat} {l : P2} {b : Bool} (hd : ls.drop k = l :: ls.drop (k + 1)) (h : (ls.drop k).all okLay = b) (hl : okLay l = true) : (ls.drop (k + 1)).all okLay = b := by
  rw [hd] at h; simpa [hl] using h
theorem bad_of_drop {ls : List P2} {k : Nat} {l : P2} (hd : ls.drop k = l :: ls.drop (k + 1)) (h : (ls.drop k).all okLay = ls.all okLay) (hl : okLay l = false) : ls.all okLay = false := by
  rw [hd] at h; rw [← h]; simp [hl]
theorem sum_of_drop {t : Int} {ls : List P2} {k : Nat} {l : P2} {s r : Int} (hd : ls.drop k = l :: ls.drop (k + 1)) (h : s + sumL t (ls.drop k) = r) : (s + layerF t l.a l.b) + sumL t (ls.drop (k + 1)) = r := by
  rw [hd, sumL] at h; omega

end Go.Proofs.YtilkcailpkebdaaGreat

/-
  Which points, lengths and layers are accepted, in plain Lean.
-/
namespace Go.Proofs.YtilkcailpkebdaaGreat
open Go.RowKit

def ptOk (p : P2) : Bool := decide (0 ≤ p.a) && decide (p.a ≤ 876599) && decide (0 ≤ p.b) && decide (p.b ≤ 17592186044416)
theorem ptOk_iff (p : P2) : ptOk p = true ↔ 0 ≤ p.a ∧ p.a ≤ 876599 ∧ 0 ≤ p.b ∧ p.b ≤ 17592186044416 := by
  simp [ptOk]; omega
/-- The rest of the points, behind one with the hour h (none: at the head), the sum so far. -/
def chkLoop : Option Int → List P2 → Int → Int
  | _, [], s => if 17592186044416 < s then 3 else 0
  | h, p :: ps, s => if ptOk p = false then 1 else if (h.any fun x => decide (p.a ≤ x)) = true then 13 else chkLoop (some p.a) ps (s + p.b)
def chkErr (ps : List P2) (n : Int) (ls : List P2) : Int :=
  if recErr 0 ls ≠ 0 then recErr 0 ls else if n < 1 ∨ 8784 < n then 1 else if 64 < ps.length then 4 else chkLoop none ps 0
def hourBefore (ps : List P2) (k : Nat) : Option Int := if k = 0 then none else (ps[k - 1]?).map (·.a)

section
variable {ps : List P2} {k : Nat} {p : P2} {acc r : Int}
theorem chk_bad (hd : ps.drop k = p :: ps.drop (k + 1)) (h : chkLoop (hourBefore ps k) (ps.drop k) acc = r) (hp : ptOk p = false) : r = 1 := by
  rw [hd, chkLoop, if_pos hp] at h; exact h.symm
theorem chk_order {q : P2} (hd : ps.drop k = p :: ps.drop (k + 1)) (h : chkLoop (hourBefore ps k) (ps.drop k) acc = r) (hp : ptOk p = true) (h0 : 0 < k) (hq : ps[k - 1]? = some q) (hle : p.a ≤ q.a) : r = 13 := by
  rw [hd, chkLoop, if_neg (by simp [hp]), if_pos (by unfold hourBefore; rw [if_neg (by omega), hq]; simpa using hle)] at h; exact h.symm
theorem hour_next (hd : ps.drop k = p :: ps.drop (k + 1)) : hourBefore ps (k + 1) = some p.a := by
  have : ps[k]? = some p := by
    have h := congrArg (fun l : List P2 => l[0]?) hd
    simpa using h
  unfold hourBefore; rw [if_neg (by omega)]; simp [this]
theorem chk_next0 (hd : ps.drop k = p :: ps.drop (k + 1)) (h : chkLoop (hourBefore ps k) (ps.drop k) acc = r) (hp : ptOk p = true) (h0 : k < 1) : chkLoop (hourBefore ps (k + 1)) (ps.drop (k + 1)) (acc + p.b) = r := by
  rw [hour_next hd]
  rw [hd, chkLoop, if_neg (by simp [hp]), if_neg (by unfold hourBefore; rw [if_pos (by omega)]; simp)] at h; exact h
theorem chk_next {q : P2} (hd : ps.drop k = p :: ps.drop (k + 1)) (h : chkLoop (hourBefore ps k) (ps.drop k) acc = r) (hp : ptOk p = true) (h0 : 0 < k) (hq : ps[k - 1]? = some q) (hle : q.a < p.a) : chkLoop (hourBefore ps (k + 1)) (ps.drop (k + 1)) (acc + p.b) = r := by
  rw [hour_next hd]
  rw [hd, chkLoop, if_neg (by simp [hp]), if_neg (by unfold hourBefore; rw [if_neg (by omega), hq]; simp; omega)] at h; exact h
theorem chk_end (h : chkLoop (hourBefore ps ps.length) (ps.drop ps.length) acc = r) : r = if 17592186044416 < acc then 3 else 0 := by
  rw [List.drop_length, chkLoop] at h; exact h.symm
end

end Go.Proofs.YtilkcailpkebdaaGreat

/-
  The greatest recoveries of the points from each index on, in plain Lean.
-/
namespace Go.Proofs.YtilkcailpkebdaaGreat
open Go.RowKit

def hdI : List Int → Int
  | [] => 0
  | v :: _ => v
/-- The best of the spans that begin at the hour h0: the points left, the values behind each of them, the amount so far, the best so far. -/
def scan (L : Int) (ls : List P2) (h0 : Int) : List P2 → List Int → Int → Int → Int
  | q :: qs, v :: vs, tot, best => if L ≤ q.a - h0 then best else scan L ls h0 qs vs (tot + q.b) (imax best (recVal (tot + q.b) ls + v))
  | _, _, _, best => best
def valsF (L : Int) (ls : List P2) : List P2 → List Int
  | [] => [0]
  | p :: ps => scan L ls p.a (p :: ps) (valsF L ls ps) 0 (hdI (valsF L ls ps)) :: valsF L ls ps
def valAt (L : Int) (ls ps : List P2) (j : Nat) : Int := hdI (valsF L ls (ps.drop j))
def valuesF (ps : List P2) (L : Int) (ls : List P2) : List Int := if chkErr ps L ls = 0 then valsF L ls ps else []

theorem valsF_length (L : Int) (ls ps : List P2) : (valsF L ls ps).length = ps.length + 1 := by
  induction ps with
  | nil => rfl
  | cons p ps ih => simp [valsF, ih]
theorem valsF_get (L : Int) (ls : List P2) : ∀ (ps : List P2) (j : Nat), j ≤ ps.length → (valsF L ls ps)[j]? = some (valAt L ls ps j) := by
  intro ps
  induction ps with
  | nil => intro j hj; obtain rfl : j = 0 := by simpa using hj
           rfl
  | cons p ps ih =>
    intro j hj
    cases j with
    | zero => simp [valsF, valAt, hdI]
    | succ j =>
      have := ih j (by simpa using hj)
      simpa [valsF, valAt] using this
theorem valAt_end (L : Int) (ls ps : List P2) : valAt L ls ps ps.length = 0 := by simp [valAt, valsF, hdI]
theorem valsF_split (L : Int) (ls ps : List P2) : valsF L ls ps = hdI (valsF L ls ps) :: (valsF L ls ps).tail := by
  cases ps <;> simp [valsF, hdI]
theorem scan_nil (L : Int) (ls : List P2) (h0 : Int) (vs : List Int) (t b : Int) : scan L ls h0 [] vs t b = b := by simp [scan]

section
variable {L : Int} {ls ps : List P2} {h0 : Int}
theorem scan_step {j : Nat} {q : P2} {t b r : Int} (hd : ps.drop j = q :: ps.drop (j + 1)) (h : scan L ls h0 (ps.drop j) (valsF L ls (ps.drop (j + 1))) t b = r) (hlt : q.a - h0 < L) :
    scan L ls h0 (ps.drop (j + 1)) (valsF L ls (ps.drop (j + 2))) (t + q.b) (imax b (recVal (t + q.b) ls + valAt L ls ps (j + 1))) = r := by
  rw [hd, valsF_split, scan, if_neg (by omega)] at h
  rw [← h]
  show _ = scan _ _ _ _ _ _ (imax b (recVal (t + q.b) ls + hdI (valsF L ls (ps.drop (j + 1)))))
  rcases hc : ps.drop (j + 1) with _ | ⟨q', qs⟩
  · rw [scan_nil, scan_nil]; simp [valAt, hc]
  · have : ps.drop (j + 2) = qs := by
      have h2 := congrArg List.tail hc
      simpa [List.tail_drop] using h2
    rw [this]
    simp [valsF, valAt, hc]
theorem scan_break {j : Nat} {q : P2} {t b r : Int} (hd : ps.drop j = q :: ps.drop (j + 1)) (h : scan L ls h0 (ps.drop j) (valsF L ls (ps.drop (j + 1))) t b = r) (hle : L ≤ q.a - h0) : r = b := by
  rw [hd, valsF_split, scan, if_pos hle] at h
  exact h.symm
theorem scan_end {t b r : Int} {vs : List Int} (h : scan L ls h0 (ps.drop ps.length) vs t b = r) : r = b := by
  rw [List.drop_length, scan_nil] at h; exact h.symm
theorem scan_start {m : Nat} {p : P2} (hd : ps.drop m = p :: ps.drop (m + 1)) : scan L ls p.a (ps.drop m) (valsF L ls (ps.drop (m + 1))) 0 (valAt L ls ps (m + 1)) = valAt L ls ps m := by
  rw [valAt, valAt, hd, valsF]; rfl
end

/-! ### What the acceptance gives -/
def sumB : List P2 → Int
  | [] => 0
  | p :: ps => p.b + sumB ps
theorem sumB_nonneg {ps : List P2} (h : ∀ p ∈ ps, ptOk p = true) : 0 ≤ sumB ps := by
  induction ps with
  | nil => simp [sumB]
  | cons p ps ih =>
    have h1 := (ptOk_iff p).1 (h p (by simp))
    have h2 := ih (fun q hq => h q (by simp [hq]))
    simp only [sumB]; omega
def Asc : Option Int → List P2 → Prop
  | _, [] => True
  | h, p :: ps => (∀ x, h = some x → x < p.a) ∧ Asc (some p.a) ps
theorem chkLoop_ok : ∀ (ps : List P2) (h : Option Int) (s : Int), chkLoop h ps s = 0 → (∀ p ∈ ps, ptOk p = true) ∧ s + sumB ps ≤ 17592186044416 ∧ Asc h ps := by
  intro ps
  induction ps with
  | nil =>
    intro h s hs
    simp only [chkLoop] at hs
    split at hs
    · omega
    · exact ⟨by simp, by simp only [sumB]; omega, trivial⟩
  | cons p ps ih =>
    intro h s hs
    simp only [chkLoop] at hs
    split at hs
    · omega
    · rename_i h1
      split at hs
      · omega
      · rename_i h2
        obtain ⟨g1, g2, g3⟩ := ih _ _ hs
        have hp : ptOk p = true := by simpa using h1
        refine ⟨fun q hq => ?_, by simp only [sumB]; omega, fun x hx => ?_, g3⟩
        · rcases List.mem_cons.1 hq with rfl | hq
          · exact hp
          · exact g1 q hq
        · subst hx
          have : ¬ p.a ≤ x := by simpa using h2
          omega
structure Good (ps : List P2) (L : Int) (ls : List P2) : Prop where
  len : ps.length ≤ 64
  pt : ∀ p ∈ ps, ptOk p = true
  sum : sumB ps ≤ 17592186044416
  asc : Asc none ps
  l1 : 1 ≤ L
  l2 : L ≤ 8784
  ls0 : ls.length ≠ 0
  ls12 : ls.length ≤ 12
  lay : ls.all okLay = true
theorem recErr_ok {t : Int} {ls : List P2} (h : recErr t ls = 0) : ls.length ≠ 0 ∧ ls.length ≤ 12 ∧ ls.all okLay = true := by
  unfold recErr at h
  split at h
  · omega
  · rename_i h1
    split at h
    · omega
    · rename_i h2
      exact ⟨by omega, by omega, by simpa using h2⟩
theorem good_of {ps : List P2} {L : Int} {ls : List P2} (h : chkErr ps L ls = 0) : Good ps L ls := by
  unfold chkErr at h
  split at h
  · rename_i h1; exact absurd h h1
  · rename_i h1
    obtain ⟨e0, e1, e2⟩ := recErr_ok (t := 0) (ls := ls) (by simpa using h1)
    split at h
    · omega
    · rename_i h2
      split at h
      · omega
      · rename_i h3
        obtain ⟨g1, g2, g3⟩ := chkLoop_ok _ _ _ h
        exact ⟨by omega, g1, by omega, g3, by omega, by omega, e0, e1, e2⟩
theorem Good.rec0 {ps : List P2} {L : Int} {ls : List P2} (h : Good ps L ls) {t : Int} (h0 : 0 ≤ t) (h1 : t ≤ 17592186044416) : recErr t ls = 0 ∧ recVal t ls = sumL t ls :=
  rec_ok (by have := h.ls0; have := h.ls12; omega) h.lay (by omega)
theorem recVal_bd (t : Int) (ls : List P2) : 0 ≤ recVal t ls ∧ recVal t ls ≤ 281474976710656 := by
  unfold recVal
  split
  · rename_i h
    have h2 := (recErr_ok h).2.1
    have := sumL_bd t ls
    omega
  · omega
theorem scan_bd (L : Int) (ls : List P2) (h0 M : Int) : ∀ (qs : List P2) (vs : List Int) (t b : Int), (∀ v ∈ vs, 0 ≤ v ∧ v ≤ M) → 0 ≤ b → b ≤ M + 281474976710656 → 0 ≤ scan L ls h0 qs vs t b ∧ scan L ls h0 qs vs t b ≤ M + 281474976710656 := by
  intro qs
  induction qs with
  | nil => intro vs t b _ h1 h2; rw [scan_nil]; exact ⟨h1, h2⟩
  | cons q qs ih =>
    intro vs t b hv h1 h2
    cases vs with
    | nil => simp only [scan]; exact ⟨h1, h2⟩
    | cons v vs =>
      simp only [scan]
      split
      · exact ⟨h1, h2⟩
      · have hb := recVal_bd (t + q.b) ls
        have hvv := hv v (by simp)
        refine ih vs _ _ (fun u hu => hv u (by simp [hu])) ?_ ?_ <;> (unfold imax; split <;> omega)
theorem valsF_bd (L : Int) (ls : List P2) : ∀ ps : List P2, ∀ v ∈ valsF L ls ps, 0 ≤ v ∧ v ≤ 281474976710656 * ps.length := by
  intro ps
  induction ps with
  | nil => intro v hv; simp [valsF] at hv; subst hv; simp
  | cons p ps ih =>
    intro v hv
    have hh : ∀ u ∈ valsF L ls ps, 0 ≤ u ∧ u ≤ 281474976710656 * (ps.length : Int) := ih
    have hd : 0 ≤ hdI (valsF L ls ps) ∧ hdI (valsF L ls ps) ≤ 281474976710656 * (ps.length : Int) := by
      apply ih; rw [valsF_split]; exact List.mem_cons_self
    simp only [valsF, List.mem_cons] at hv
    simp only [List.length_cons]
    rcases hv with rfl | hv
    · have := scan_bd L ls p.a (281474976710656 * (ps.length : Int)) (p :: ps) (valsF L ls ps) 0 (hdI (valsF L ls ps)) hh hd.1 (by omega)
      omega
    · have := ih v hv; omega
theorem valAt_bd (L : Int) (ls ps : List P2) (j : Nat) : 0 ≤ valAt L ls ps j ∧ valAt L ls ps j ≤ 281474976710656 * ps.length := by
  have := valsF_bd L ls (ps.drop j) (valAt L ls ps j) (by unfold valAt; rw [valsF_split]; exact List.mem_cons_self)
  have hl : (ps.drop j).length ≤ ps.length := by simp
  omega
theorem sumB_drop {ps : List P2} {j : Nat} {q : P2} {t : Int} (hd : ps.drop j = q :: ps.drop (j + 1)) (h : t + sumB (ps.drop j) ≤ 17592186044416) : (t + q.b) + sumB (ps.drop (j + 1)) ≤ 17592186044416 := by
  rw [hd, sumB] at h; omega
theorem sumB_drop_le {ps : List P2} (hp : ∀ p ∈ ps, ptOk p = true) (j : Nat) : sumB (ps.drop j) ≤ sumB ps := by
  induction ps generalizing j with
  | nil => simp
  | cons p ps ih =>
    cases j with
    | zero => simp
    | succ j =>
      have h1 := (ptOk_iff p).1 (hp p (by simp))
      have h2 := ih (fun q hq => hp q (by simp [hq])) j
      simp only [List.drop_succ_cons, sumB]; omega

end Go.Proofs.YtilkcailpkebdaaGreat

/-
  The reference's way to the same values, in plain Lean: every span is looked at.
-/
namespace Go.Proofs.YtilkcailpkebdaaGreat
open Go.RowKit

/-- The amount of cnt points from index k on. -/
def sumT (ps : List P2) (k cnt : Nat) : Int := sumB ((ps.drop k).take cnt)
theorem sumB_append (a b : List P2) : sumB (a ++ b) = sumB a + sumB b := by
  induction a with
  | nil => simp [sumB]
  | cons p a ih => simp only [List.cons_append, sumB, ih]; omega
theorem sumT_zero (ps : List P2) (k : Nat) : sumT ps k 0 = 0 := by simp [sumT, sumB]
theorem sumT_cons {ps : List P2} {k : Nat} {q : P2} (hd : ps.drop k = q :: ps.drop (k + 1)) (cnt : Nat) : sumT ps k (cnt + 1) = q.b + sumT ps (k + 1) cnt := by
  unfold sumT; rw [hd, List.take_succ_cons, sumB]
theorem sumT_snoc {ps : List P2} {m j : Nat} {q : P2} (hm : m ≤ j) (hq : ps[j]? = some q) : sumT ps m (j - m + 1) = sumT ps m (j - m) + q.b := by
  unfold sumT
  have h : (ps.drop m)[j - m]? = some q := by rw [List.getElem?_drop]; rw [show m + (j - m) = j by omega]; exact hq
  have hl : j - m < (ps.drop m).length := (List.getElem?_eq_some_iff.1 h).1
  have hg : (ps.drop m)[j - m] = q := (List.getElem?_eq_some_iff.1 h).2
  rw [List.take_succ_eq_append_getElem hl, sumB_append, hg]
  simp [sumB]
theorem sumT_bd {ps : List P2} (hp : ∀ p ∈ ps, ptOk p = true) (k cnt : Nat) : 0 ≤ sumT ps k cnt ∧ sumT ps k cnt ≤ sumB ps := by
  have h1 : 0 ≤ sumT ps k cnt := sumB_nonneg fun u hu => hp u (List.mem_of_mem_drop (List.mem_of_mem_take hu))
  refine ⟨h1, ?_⟩
  have h2 : sumB (ps.drop k) = sumT ps k cnt + sumB ((ps.drop k).drop cnt) := by
    unfold sumT; rw [← sumB_append, List.take_append_drop]
  have h3 : 0 ≤ sumB ((ps.drop k).drop cnt) := sumB_nonneg fun u hu => hp u (List.mem_of_mem_drop (List.mem_of_mem_drop hu))
  have h4 := sumB_drop_le hp k
  omega

def scanR (L : Int) (ls : List P2) (h0 : Int) : List P2 → List Int → Int → Int → Int
  | q :: qs, v :: vs, tot, best => scanR L ls h0 qs vs (tot + q.b) (if L ≤ q.a - h0 then best else imax best (recVal (tot + q.b) ls + v))
  | _, _, _, best => best
theorem scanR_nil (L : Int) (ls : List P2) (h0 : Int) (vs : List Int) (t b : Int) : scanR L ls h0 [] vs t b = b := by simp [scanR]
theorem scanR_far (L : Int) (ls : List P2) (h0 : Int) : ∀ (qs : List P2) (vs : List Int) (t b : Int), (∀ q ∈ qs, L ≤ q.a - h0) → scanR L ls h0 qs vs t b = b := by
  intro qs
  induction qs with
  | nil => intro vs t b _; exact scanR_nil ..
  | cons q qs ih =>
    intro vs t b h
    cases vs with
    | nil => simp [scanR]
    | cons v vs => rw [scanR, if_pos (h q (by simp))]; exact ih _ _ _ fun u hu => h u (by simp [hu])
theorem Asc.gt : ∀ {ps : List P2} {x : Int}, Asc (some x) ps → ∀ q ∈ ps, x < q.a := by
  intro ps
  induction ps with
  | nil => intro x _ q hq; simp at hq
  | cons p ps ih =>
    intro x h q hq
    have h1 := h.1 x rfl
    rcases List.mem_cons.1 hq with rfl | hq
    · exact h1
    · have := ih h.2 q hq; omega
theorem scanR_eq (L : Int) (ls : List P2) (h0 : Int) : ∀ (qs : List P2) (h : Option Int) (vs : List Int) (t b : Int), Asc h qs → scanR L ls h0 qs vs t b = scan L ls h0 qs vs t b := by
  intro qs
  induction qs with
  | nil => intro h vs t b _; rw [scanR_nil, scan_nil]
  | cons q qs ih =>
    intro h vs t b ha
    cases vs with
    | nil => simp [scanR, scan]
    | cons v vs =>
      rw [scanR, scan]
      split
      · rename_i hle
        exact scanR_far _ _ _ _ _ _ _ fun u hu => by have := Asc.gt ha.2 u hu; omega
      · exact ih _ _ _ _ ha.2
theorem Asc.drop {ps : List P2} {h : Option Int} (ha : Asc h ps) : ∀ j, ∃ h', Asc h' (ps.drop j) := by
  induction ps generalizing h with
  | nil => intro j; exact ⟨none, by simp [Asc]⟩
  | cons p ps ih =>
    intro j
    cases j with
    | zero => exact ⟨h, ha⟩
    | succ j => simpa using ih ha.2 j

section
variable {L : Int} {ls ps : List P2} {h0 : Int}
theorem scanR_step {j : Nat} {q : P2} {t b r : Int} (hd : ps.drop j = q :: ps.drop (j + 1)) (h : scanR L ls h0 (ps.drop j) (valsF L ls (ps.drop (j + 1))) t b = r) :
    scanR L ls h0 (ps.drop (j + 1)) (valsF L ls (ps.drop (j + 2))) (t + q.b) (if L ≤ q.a - h0 then b else imax b (recVal (t + q.b) ls + valAt L ls ps (j + 1))) = r := by
  rw [hd, valsF_split, scanR] at h
  rw [← h]
  show _ = scanR _ _ _ _ _ _ (if L ≤ q.a - h0 then b else imax b (recVal (t + q.b) ls + hdI (valsF L ls (ps.drop (j + 1)))))
  rcases hc : ps.drop (j + 1) with _ | ⟨q', qs⟩
  · rw [scanR_nil, scanR_nil]; simp [valAt, hc]
  · have : ps.drop (j + 2) = qs := by
      have h2 := congrArg List.tail hc
      simpa [List.tail_drop] using h2
    rw [this]
    simp [valsF, valAt, hc]
theorem scanR_yes {j : Nat} {q : P2} {t b r : Int} (hd : ps.drop j = q :: ps.drop (j + 1)) (h : scanR L ls h0 (ps.drop j) (valsF L ls (ps.drop (j + 1))) t b = r) (hlt : q.a - h0 < L) :
    scanR L ls h0 (ps.drop (j + 1)) (valsF L ls (ps.drop (j + 2))) (t + q.b) (imax b (recVal (t + q.b) ls + valAt L ls ps (j + 1))) = r := by
  have := scanR_step hd h; rwa [if_neg (by omega)] at this
theorem scanR_no {j : Nat} {q : P2} {t b r : Int} (hd : ps.drop j = q :: ps.drop (j + 1)) (h : scanR L ls h0 (ps.drop j) (valsF L ls (ps.drop (j + 1))) t b = r) (hle : L ≤ q.a - h0) :
    scanR L ls h0 (ps.drop (j + 1)) (valsF L ls (ps.drop (j + 2))) (t + q.b) b = r := by
  have := scanR_step hd h; rwa [if_pos hle] at this
theorem scanR_end {t b r : Int} {vs : List Int} (h : scanR L ls h0 (ps.drop ps.length) vs t b = r) : r = b := by
  rw [List.drop_length, scanR_nil] at h; exact h.symm
theorem scanR_start {m : Nat} {p : P2} (ha : Asc none ps) (hd : ps.drop m = p :: ps.drop (m + 1)) : scanR L ls p.a (ps.drop m) (valsF L ls (ps.drop (m + 1))) (sumT ps m (m - m)) (valAt L ls ps (m + 1)) = valAt L ls ps m := by
  obtain ⟨h', ha'⟩ := Asc.drop ha m
  rw [Nat.sub_self, sumT_zero, scanR_eq _ _ _ _ h' _ _ _ ha']
  exact scan_start hd
end

end Go.Proofs.YtilkcailpkebdaaGreat

/-
  Which values are bounds, in plain Lean.
-/
namespace Go.Proofs.YtilkcailpkebdaaGreat
open Go.RowKit

def innerB (L : Int) (ls : List P2) (h0 vi : Int) : List P2 → List Int → Int → Bool
  | q :: qs, v :: vs, tot => if L ≤ q.a - h0 then true else if vi < recVal (tot + q.b) ls + v then false else innerB L ls h0 vi qs vs (tot + q.b)
  | _, _, _ => true
def innerR (L : Int) (ls : List P2) (h0 vi : Int) : List P2 → List Int → Int → Bool
  | q :: qs, v :: vs, tot => if q.a - h0 < L ∧ vi < recVal (tot + q.b) ls + v then false else innerR L ls h0 vi qs vs (tot + q.b)
  | _, _, _ => true
def outerB (L : Int) (ls : List P2) : List P2 → List Int → Bool
  | p :: ps, v :: vs => if v < hdI vs then false else if innerB L ls p.a v (p :: ps) vs 0 = true then outerB L ls ps vs else false
  | _, _ => true
def vOk (v : Int) : Bool := decide (0 ≤ v) && decide (v ≤ 17592186044416)
theorem vOk_iff (v : Int) : vOk v = true ↔ 0 ≤ v ∧ v ≤ 17592186044416 := by simp [vOk]
def boundB (ps : List P2) (L : Int) (ls : List P2) (vs : List Int) : Bool :=
  if chkErr ps L ls ≠ 0 then false else if vs.length ≠ ps.length + 1 then false else if vs.all vOk = false then false else outerB L ls ps vs

theorem innerR_far {L : Int} {ls : List P2} {h0 vi : Int} : ∀ (qs : List P2) (vs : List Int) (t : Int), (∀ q ∈ qs, L ≤ q.a - h0) → innerR L ls h0 vi qs vs t = true := by
  intro qs
  induction qs with
  | nil => intro vs t _; simp [innerR]
  | cons q qs ih =>
    intro vs t h
    cases vs with
    | nil => simp [innerR]
    | cons v vs =>
      have := h q (by simp)
      rw [innerR, if_neg (by omega)]
      exact ih _ _ fun u hu => h u (by simp [hu])
theorem innerR_eq {L : Int} {ls : List P2} {h0 vi : Int} : ∀ (qs : List P2) (h : Option Int) (vs : List Int) (t : Int), Asc h qs → innerR L ls h0 vi qs vs t = innerB L ls h0 vi qs vs t := by
  intro qs
  induction qs with
  | nil => intro h vs t _; simp [innerR, innerB]
  | cons q qs ih =>
    intro h vs t ha
    cases vs with
    | nil => simp [innerR, innerB]
    | cons v vs =>
      rw [innerR, innerB]
      by_cases hle : L ≤ q.a - h0
      · rw [if_pos hle, if_neg (by omega)]
        exact innerR_far _ _ _ fun u hu => by have := Asc.gt ha.2 u hu; omega
      · rw [if_neg hle]
        by_cases hv : vi < recVal (t + q.b) ls + v
        · rw [if_pos ⟨by omega, hv⟩, if_pos hv]
        · rw [if_neg (by omega), if_neg hv]
          exact ih _ _ _ ha.2

section
variable {L : Int} {ls ps : List P2} {h0 vi : Int} {vs : List Int}
theorem innerB_far {j : Nat} {q : P2} {v t : Int} {r : Bool} (hd : ps.drop j = q :: ps.drop (j + 1)) (hv : vs.drop (j + 1) = v :: vs.drop (j + 2)) (h : innerB L ls h0 vi (ps.drop j) (vs.drop (j + 1)) t = r) (hle : L ≤ q.a - h0) : r = true := by
  rw [hd, hv, innerB, if_pos hle] at h; exact h.symm
theorem innerB_bad {j : Nat} {q : P2} {v t : Int} {r : Bool} (hd : ps.drop j = q :: ps.drop (j + 1)) (hv : vs.drop (j + 1) = v :: vs.drop (j + 2)) (h : innerB L ls h0 vi (ps.drop j) (vs.drop (j + 1)) t = r) (hlt : q.a - h0 < L) (hb : vi < recVal (t + q.b) ls + v) : r = false := by
  rw [hd, hv, innerB, if_neg (by omega), if_pos hb] at h; exact h.symm
theorem innerB_step {j : Nat} {q : P2} {v t : Int} {r : Bool} (hd : ps.drop j = q :: ps.drop (j + 1)) (hv : vs.drop (j + 1) = v :: vs.drop (j + 2)) (h : innerB L ls h0 vi (ps.drop j) (vs.drop (j + 1)) t = r) (hlt : q.a - h0 < L) (hb : ¬ vi < recVal (t + q.b) ls + v) : innerB L ls h0 vi (ps.drop (j + 1)) (vs.drop (j + 2)) (t + q.b) = r := by
  rw [hd, hv, innerB, if_neg (by omega), if_neg hb] at h; exact h
theorem innerB_end {t : Int} {us : List Int} {r : Bool} (h : innerB L ls h0 vi (ps.drop ps.length) us t = r) : r = true := by
  rw [List.drop_length] at h; simp [innerB] at h; exact h
theorem innerR_bad {j : Nat} {q : P2} {v t : Int} {r : Bool} (hd : ps.drop j = q :: ps.drop (j + 1)) (hv : vs.drop (j + 1) = v :: vs.drop (j + 2)) (h : innerR L ls h0 vi (ps.drop j) (vs.drop (j + 1)) t = r) (hlt : q.a - h0 < L) (hb : vi < recVal (t + q.b) ls + v) : r = false := by
  rw [hd, hv, innerR, if_pos ⟨hlt, hb⟩] at h; exact h.symm
theorem innerR_step {j : Nat} {q : P2} {v t : Int} {r : Bool} (hd : ps.drop j = q :: ps.drop (j + 1)) (hv : vs.drop (j + 1) = v :: vs.drop (j + 2)) (h : innerR L ls h0 vi (ps.drop j) (vs.drop (j + 1)) t = r) (hb : ¬ (q.a - h0 < L ∧ vi < recVal (t + q.b) ls + v)) : innerR L ls h0 vi (ps.drop (j + 1)) (vs.drop (j + 2)) (t + q.b) = r := by
  rw [hd, hv, innerR, if_neg hb] at h; exact h
theorem innerR_end {t : Int} {us : List Int} {r : Bool} (h : innerR L ls h0 vi (ps.drop ps.length) us t = r) : r = true := by
  rw [List.drop_length] at h; simp [innerR] at h; exact h
theorem outerB_less {i : Nat} {p : P2} {v v' : Int} {r : Bool} (hd : ps.drop i = p :: ps.drop (i + 1)) (hv : vs.drop i = v :: vs.drop (i + 1)) (hv' : vs.drop (i + 1) = v' :: vs.drop (i + 2)) (h : outerB L ls (ps.drop i) (vs.drop i) = r) (hl : v < v') : r = false := by
  rw [hd, hv, outerB, hv', if_pos (by simpa [hdI] using hl)] at h; exact h.symm
theorem outerB_bad {i : Nat} {p : P2} {v : Int} {r : Bool} (hd : ps.drop i = p :: ps.drop (i + 1)) (hv : vs.drop i = v :: vs.drop (i + 1)) (h : outerB L ls (ps.drop i) (vs.drop i) = r) (hi : innerB L ls p.a v (ps.drop i) (vs.drop (i + 1)) 0 = false) : r = false := by
  rw [hd] at hi
  rw [hd, hv, outerB, hi] at h
  simp at h
  exact h
theorem outerB_step {i : Nat} {p : P2} {v v' : Int} {r : Bool} (hd : ps.drop i = p :: ps.drop (i + 1)) (hv : vs.drop i = v :: vs.drop (i + 1)) (hv' : vs.drop (i + 1) = v' :: vs.drop (i + 2)) (h : outerB L ls (ps.drop i) (vs.drop i) = r) (hl : ¬ v < v') (hi : innerB L ls p.a v (ps.drop i) (vs.drop (i + 1)) 0 = true) : outerB L ls (ps.drop (i + 1)) (vs.drop (i + 1)) = r := by
  rw [hd] at hi
  rw [hd, hv, outerB, hi, if_neg (by rw [hv']; simpa [hdI] using hl), if_pos rfl] at h
  exact h
theorem outerB_end {us : List Int} {r : Bool} (h : outerB L ls (ps.drop ps.length) us = r) : r = true := by
  rw [List.drop_length] at h; simp [outerB] at h; exact h
theorem innerR_start {i : Nat} {v : Int} {h : Int} {us : List Int} (ha : Asc none ps) : innerR L ls h v (ps.drop i) us (sumT ps i (i - i)) = innerB L ls h v (ps.drop i) us 0 := by
  obtain ⟨h', ha'⟩ := Asc.drop ha i
  rw [Nat.sub_self, sumT_zero, innerR_eq _ h' _ _ ha']
end
theorem allv_of_drop {vs : List Int} {k : Nat} {v : Int} {b : Bool} (hd : vs.drop k = v :: vs.drop (k + 1)) (h : (vs.drop k).all vOk = b) (hl : vOk v = true) : (vs.drop (k + 1)).all vOk = b := by
  rw [hd] at h; simpa [hl] using h
theorem badv_of_drop {vs : List Int} {k : Nat} {v : Int} (hd : vs.drop k = v :: vs.drop (k + 1)) (h : (vs.drop k).all vOk = vs.all vOk) (hl : vOk v = false) : vs.all vOk = false := by
  rw [hd] at h; rw [← h]; simp [hl]

end Go.Proofs.YtilkcailpkebdaaGreat

/-
  window.Recovery: its contract.
-/
namespace Go.Proofs.YtilkcailpkebdaaGreat
open Go.RowKit

set_option maxHeartbeats 1000000 in
theorem recovery_any (t : Int) (A : Option Addr) (c : Nat) (ls : List P2) (w : World) (hlen : ls.length ≤ 1000) (hs : Pairs w 0 A ls) :
    Calls Tryz.prog 30 #[.int .i64 t, .slice A ls.length c] w fun e w' => e = .returned (.tuple #[.int .i64 (recVal t ls), .int .i64 (recErr t ls)]) ∧ Below w.heap.size w w' := by
  obtain ⟨n, hn⟩ : ∃ n, n = ls.length := ⟨_, rfl⟩
  rw [← hn]
  have HN := Lib.hid hn
  by_cases hb : ls.length = 0 ∨ 12 < ls.length
  · have HR := Lib.hid (rec_len (t := t) hb)
    rw [← hn] at hlen hb
    clear hn hs
    rcases hb with h0 | h12
    · have e0 : ((n : Int) == 0) = true := by simp; omega
      clear h0
      go_enter Tryz.func30, Tryz.ntmps30
      go_wp2_with fail
      go_ret2
      exact ⟨ret_int2 HR.out.2.symm HR.out.1.symm, Below.refl _ _⟩
    · have e0 : ((n : Int) == 0) = false := by simp; omega
      have e1 : decide (12 < (n : Int)) = true := by simp; omega
      go_enter Tryz.func30, Tryz.ntmps30
      go_wp2_with fail
      go_ret2
      exact ⟨ret_int2 HR.out.2.symm HR.out.1.symm, Below.refl _ _⟩
  have HB := Lib.hid hb
  rw [← hn] at hb
  have h0 : 0 < n := by omega
  have h12 : n ≤ 12 := by omega
  have e0 : ((n : Int) == 0) = false := by simp; omega
  have e1 : decide (12 < (n : Int)) = false := by simp; omega
  clear hb hn hlen
  go_enter Tryz.func30, Tryz.ntmps30
  go_wp2_with fail
  go_loopw [7, 21] (fun _ i wr => ∃ k : Nat, k ≤ n ∧ i = .int .i64 k ∧ Below w.heap.size w wr ∧ (ls.drop k).all okLay = ls.all okLay) (fun _ i _ => n - (intOf i).toNat)
  case atStart => exact ⟨0, Nat.zero_le _, rfl, Below.refl _ _, rfl⟩
  case round =>
    obtain ⟨k, hk, rfl, hb, hall⟩ := hrel
    have HA := Lib.hid hall
    clear hall
    by_cases hlt : k < n
    · obtain ⟨l, hl, hd⟩ := drop_cons (xs := ls) (i := k) (by rw [← HN.out]; exact hlt)
      obtain ⟨b, off, rfl, _, hbl, c0, c1⟩ := (hs.below hb).at_ hl
      have HD := Lib.hid hd
      clear hd hl
      by_cases hok : okLay l = true
      · obtain ⟨g1, g2, g3, g4⟩ := (okLay_iff l).1 hok
        have HO := Lib.hid hok
        clear hok
        go_wp2_with fail
        go_roundw
        case rel => exact ⟨k + 1, by omega, by go_num, hb.alloc hb.size _, all_of_drop HD.out HA.out HO.out⟩
        case measure => simp [intOf]; omega
      · have HO := Lib.hid (Bool.eq_false_iff.2 hok)
        have hno : ¬ (0 ≤ l.a ∧ l.a ≤ 1073741824 ∧ 1 ≤ l.b ∧ l.b ≤ 1073741824) := fun h => hok ((okLay_iff l).2 h)
        clear hok
        have HR := Lib.hid (rec_bad (t := t) HB.out (bad_of_drop HD.out HA.out HO.out))
        go_wp2_with fail
        all_goals first | (exfalso; omega) | (go_ret2; exact ⟨ret_int2 HR.out.2.symm HR.out.1.symm, hb.alloc hb.size _⟩)
    · obtain rfl : k = n := by omega
      have HT : Hid (ls.all okLay = true) := by
        have := HA.out
        rw [HN.out, List.drop_length] at this
        exact this.symm
      by_cases ht : t < 0 ∨ 17592186044416 < t
      · have HR := Lib.hid (rec_range (t := t) HB.out HT.out ht)
        by_cases ht0 : t < 0
        · go_wp2_with fail
          go_ret2
          exact ⟨ret_int2 HR.out.2.symm HR.out.1.symm, hb⟩
        · have hv : validB t = false := by simp [validB]; omega
          have ht1 : 17592186044416 < t := by omega
          clear ht
          go_wp2_with (go_at_call 54; refine (valid_any _ _).mono ?_; rintro e w' ⟨rfl, rfl⟩)
          go_ret2
          exact ⟨ret_int2 HR.out.2.symm HR.out.1.symm, hb⟩
      · have HR := Lib.hid (rec_ok (t := t) HB.out HT.out ht)
        have ht0 : 0 ≤ t := by omega
        have ht1 : t ≤ 17592186044416 := by omega
        have hv : validB t = true := by simp [validB]; omega
        clear ht
        go_wp2_with (go_at_call 54; refine (valid_any _ _).mono ?_; rintro e w' ⟨rfl, rfl⟩)
        obtain ⟨w2, hw2⟩ : ∃ w2, w2 = wr := ⟨_, rfl⟩
        go_loopw [8, 10, 53] (fun s _ i wq => ∃ (j : Nat) (acc : Int), j ≤ k ∧ i = .int .i64 j ∧ s = .int .i64 acc ∧ 0 ≤ acc ∧ acc ≤ 17592186044416 * j ∧ Below w.heap.size w wq ∧ acc + sumL t (ls.drop j) = sumL t ls) (fun _ _ i _ => k - (intOf i).toNat)
        case atStart => exact ⟨0, 0, Nat.zero_le _, rfl, rfl, by omega, by omega, hb, by simp⟩
        case round =>
          obtain ⟨j, acc, hj, rfl, rfl, ha0, ha1, hbq, hsum⟩ := hrel
          have HS := Lib.hid hsum
          clear hsum
          by_cases hjk : j < k
          · obtain ⟨l, hl, hd⟩ := drop_cons (xs := ls) (i := j) (by rw [← HN.out]; exact hjk)
            obtain ⟨b, off, rfl, _, hbl, c0, c1⟩ := (hs.below hbq).at_ hl
            have HD := Lib.hid hd
            have hbd := layerF_bd t l.a l.b
            clear hd hl
            go_wp2_with (go_at_call 55; refine (layer_any _ _ _ _).mono ?_; rintro e w' ⟨rfl, hb'⟩)
            go_roundw
            case rel => exact ⟨j + 1, acc + layerF t l.a l.b, by omega, by go_num, rfl, by omega, by omega, (hbq.alloc hbq.size _).trans (hb'.mono (Nat.le_trans hbq.size (by simp))), sum_of_drop HD.out HS.out⟩
            case measure => simp [intOf]; omega
          · go_wp2_with fail
            go_ret2
            refine ⟨ret_int2 ?_ HR.out.1.symm, hbq⟩
            obtain rfl : j = k := by omega
            have := HS.out
            rw [HN.out, List.drop_length, sumL, Int.add_zero] at this
            rw [HR.out.2]
            exact this

end Go.Proofs.YtilkcailpkebdaaGreat

/-
  window.check: its contract.
-/
namespace Go.Proofs.YtilkcailpkebdaaGreat
open Go.RowKit

set_option maxHeartbeats 1000000 in
theorem check_any (A : Option Addr) (c : Nat) (ps : List P2) (L : Int) (B : Option Addr) (d : Nat) (ls : List P2) (w : World) (hps : ps.length ≤ 1000) (hls : ls.length ≤ 1000) (hp : Pairs w 0 A ps) (hl : Pairs w 0 B ls) :
    Calls Tryz.prog 51 #[.slice A ps.length c, .int .i64 L, .slice B ls.length d] w fun e w' => e = .returned (.int .i64 (chkErr ps L ls)) ∧ Below w.heap.size w w' := by
  have CR := Lib.hid (recovery_any 0 B d ls)
  obtain ⟨n, hn⟩ : ∃ n, n = ps.length := ⟨_, rfl⟩
  obtain ⟨m, hm⟩ : ∃ m, m = ls.length := ⟨_, rfl⟩
  rw [← hm] at CR
  rw [← hn, ← hm]
  have HN := Lib.hid hn
  have HM := Lib.hid hm
  by_cases he : recErr 0 ls = 0
  · have HE := Lib.hid he
    have q0 : (recErr 0 ls != 0) = false := by rw [he]; rfl
    clear he
    by_cases hL : L < 1 ∨ 8784 < L
    · have HR : Hid (chkErr ps L ls = 1) := by
        unfold chkErr; rw [if_neg (by rw [HE.out]; simp), if_pos hL]; rfl
      clear hn hm
      by_cases h1 : L < 1
      · go_enter Tryz.func51, Tryz.ntmps51
        go_wp2_with (go_at_call 30; refine (CR.out _ (by rw [← HM.out] at hls; exact hls) hl).mono ?_; rintro e w1 ⟨rfl, hb1⟩)
        go_ret
        exact ⟨ret_int HR.out.symm, hb1⟩
      · have h2 : 8784 < L := by omega
        clear hL
        go_enter Tryz.func51, Tryz.ntmps51
        go_wp2_with (go_at_call 30; refine (CR.out _ (by rw [← HM.out] at hls; exact hls) hl).mono ?_; rintro e w1 ⟨rfl, hb1⟩)
        go_ret
        exact ⟨ret_int HR.out.symm, hb1⟩
    have HL := Lib.hid hL
    have hL1 : 1 ≤ L := by omega
    have hL2 : L ≤ 8784 := by omega
    clear hL
    by_cases h64 : 64 < ps.length
    · have HR : Hid (chkErr ps L ls = 4) := by
        unfold chkErr; rw [if_neg (by rw [HE.out]; simp), if_neg HL.out, if_pos h64]; rfl
      have h64' : 64 < n := by omega
      clear hn hm h64
      go_enter Tryz.func51, Tryz.ntmps51
      go_wp2_with (go_at_call 30; refine (CR.out _ (by rw [← HM.out] at hls; exact hls) hl).mono ?_; rintro e w1 ⟨rfl, hb1⟩)
      go_ret
      exact ⟨ret_int HR.out.symm, hb1⟩
    have HR : Hid (chkErr ps L ls = chkLoop none ps 0) := by
      unfold chkErr; rw [if_neg (by rw [HE.out]; simp), if_neg HL.out, if_neg h64]; rfl
    have h64' : n ≤ 64 := by omega
    have g64 : decide (64 < (n : Int)) = false := by simp; omega
    clear hn hm h64
    go_enter Tryz.func51, Tryz.ntmps51
    go_wp2_with (go_at_call 30; refine (CR.out _ (by rw [← HM.out] at hls; exact hls) hl).mono ?_; rintro e w1 ⟨rfl, hb1⟩)
    go_loopw [9, 10, 11, 31] (fun s _ _ i wr => ∃ (k : Nat) (acc : Int), k ≤ n ∧ i = .int .i64 k ∧ s = .int .i64 acc ∧ 0 ≤ acc ∧ acc ≤ 17592186044416 * k ∧ Below w.heap.size w wr ∧ chkLoop (hourBefore ps k) (ps.drop k) acc = chkLoop none ps 0) (fun _ _ _ i _ => n - (intOf i).toNat)
    case atStart => exact ⟨0, 0, Nat.zero_le _, rfl, rfl, by omega, by omega, hb1, rfl⟩
    case round =>
      obtain ⟨k, acc, hk, rfl, rfl, ha0, ha1, hb, hck⟩ := hrel
      have HC := Lib.hid hck
      clear hck
      by_cases hlt : k < n
      · obtain ⟨p, hpk, hd⟩ := drop_cons (xs := ps) (i := k) (by rw [← HN.out]; exact hlt)
        obtain ⟨b, off, rfl, _, hbl, c0, c1⟩ := (hp.below hb).at_ hpk
        have HD := Lib.hid hd
        clear hd hpk
        by_cases hok : ptOk p = true
        · obtain ⟨g1, g2, g3, g4⟩ := (ptOk_iff p).1 hok
          have HO := Lib.hid hok
          have hv : validB p.b = true := by simp [validB]; omega
          clear hok
          by_cases hk0 : k < 1
          · have hd0 : decide (0 < k) = false := by simp; omega
            go_wp2_with (go_at_call 54; refine (valid_any _ _).mono ?_; rintro e w' ⟨rfl, rfl⟩)
            go_quiet (fail)
            go_wp2_with fail
            go_roundw
            case rel => exact ⟨k + 1, acc + p.b, by omega, by go_num, rfl, by omega, by omega, below_drewN (hb.alloc hb.size _) _, chk_next0 HD.out HC.out HO.out hk0⟩
            case measure => simp [intOf]; omega
          · have hd0 : decide (0 < k) = true := by simp; omega
            obtain ⟨q, hq⟩ : ∃ q, ps[k - 1]? = some q := ⟨_, List.getElem?_eq_getElem (by rw [← HN.out]; omega)⟩
            obtain ⟨b', off', hA, _, _, x0, _⟩ := (hp.below hb).at_ hq
            obtain ⟨rfl, rfl⟩ : b = b' ∧ off = off' := by simpa using hA
            have HQ := Lib.hid hq
            clear hq hA
            by_cases hle : p.a ≤ q.a
            · have HF := Lib.hid (chk_order HD.out HC.out HO.out (by omega) HQ.out hle)
              go_wp2_with (go_at_call 54; refine (valid_any _ _).mono ?_; rintro e w' ⟨rfl, rfl⟩)
              go_quiet (fail)
              go_wp2_with fail
              go_ret
              exact ⟨ret_int (HR.out.trans HF.out).symm, below_drewN (hb.alloc hb.size _) _⟩
            · have hle' : decide (p.a ≤ q.a) = false := by simpa using hle
              go_wp2_with (go_at_call 54; refine (valid_any _ _).mono ?_; rintro e w' ⟨rfl, rfl⟩)
              go_quiet (fail)
              go_wp2_with fail
              go_roundw
              case rel => exact ⟨k + 1, acc + p.b, by omega, by go_num, rfl, by omega, by omega, below_drewN (hb.alloc hb.size _) _, chk_next HD.out HC.out HO.out (by omega) HQ.out (by omega)⟩
              case measure => simp [intOf]; omega
        · have HF := Lib.hid (chk_bad HD.out HC.out (Bool.eq_false_iff.2 hok))
          have hno : ¬ (0 ≤ p.a ∧ p.a ≤ 876599 ∧ 0 ≤ p.b ∧ p.b ≤ 17592186044416) := fun h => hok ((ptOk_iff p).2 h)
          clear hok
          by_cases h3 : 0 ≤ p.a ∧ p.a ≤ 876599 ∧ 0 ≤ p.b
          · obtain ⟨g1, g2, g3⟩ := h3
            have g4 : 17592186044416 < p.b := by omega
            have hv : validB p.b = false := by simp [validB]; omega
            clear hno
            go_wp2_with (go_at_call 54; refine (valid_any _ _).mono ?_; rintro e w' ⟨rfl, rfl⟩)
            go_ret
            exact ⟨ret_int (HR.out.trans HF.out).symm, hb.alloc hb.size _⟩
          · clear hno
            have hno : ¬ (0 ≤ p.a ∧ p.a ≤ 876599 ∧ 0 ≤ p.b) := h3
            clear h3
            go_wp2_with fail
            all_goals first | (exfalso; omega) | (go_ret; exact ⟨ret_int (HR.out.trans HF.out).symm, hb.alloc hb.size _⟩)
      · obtain rfl : k = n := by omega
        have HC' := HC.out
        rw [HN.out] at HC'
        have HF := Lib.hid (chk_end HC')
        clear HC' HC
        by_cases hov : 17592186044416 < acc
        · have hv : validB acc = false := by simp [validB]; omega
          go_wp2_with (go_at_call 54; refine (valid_any _ _).mono ?_; rintro e w' ⟨rfl, rfl⟩)
          go_ret
          exact ⟨ret_int (by rw [HR.out, HF.out, if_pos hov]), hb⟩
        · have hv : validB acc = true := by simp [validB]; omega
          go_wp2_with (go_at_call 54; refine (valid_any _ _).mono ?_; rintro e w' ⟨rfl, rfl⟩)
          go_ret
          exact ⟨ret_int (by rw [HR.out, HF.out, if_neg (by omega)]), hb⟩
  · have HR : Hid (chkErr ps L ls = recErr 0 ls) := by
      unfold chkErr; rw [if_pos he]; rfl
    have q0 : (recErr 0 ls != 0) = true := by simpa using he
    clear hn hm he
    go_enter Tryz.func51, Tryz.ntmps51
    go_wp2_with (go_at_call 30; refine (CR.out _ (by rw [← HM.out] at hls; exact hls) hl).mono ?_; rintro e w1 ⟨rfl, hb1⟩)
    go_ret
    exact ⟨ret_int HR.out.symm, hb1⟩

end Go.Proofs.YtilkcailpkebdaaGreat

/-
  window.Values: its contract.
-/
namespace Go.Proofs.YtilkcailpkebdaaGreat
open Go.RowKit

theorem Tryz.infoInt : (Tryz.prog.info? 3).map (fun i => (i.zero, i.size, i.bytes)) = some (some (.int .i64 0), 1, 8) := by kernel_rfl

theorem ints_of_row {w : World} {g lo : Nat} {F : Nat → Int} {xs : List Int} (h : w.rowIs g 3 xs.length (fun j => .int .i64 (F j))) (hg : lo ≤ g) (hx : ∀ (i : Nat) (x : Int), xs[i]? = some x → F i = x) : Ints w lo (some ⟨g, 0, none⟩) xs := by
  intro hp
  refine ⟨g, 0, rfl, hg, h.lt, fun i x hi j u hu => ?_⟩
  rw [List.getElem?_map, Option.map_eq_some_iff] at hi
  obtain ⟨y, hy, rfl⟩ := hi
  have hl : i < xs.length := (List.getElem?_eq_some_iff.1 hy).1
  have := h.cell hl
  rw [hx i y hy] at this
  match j, hu with
  | 0, hu => simp only [V1, List.getElem?_cons_zero, Option.some.injEq] at hu; subst hu; simpa using this

set_option maxRecDepth 100000 in
set_option maxHeartbeats 2000000 in
theorem values_ty (A : Option Addr) (c : Nat) (ps : List P2) (L : Int) (B : Option Addr) (d : Nat) (ls : List P2) (w : World) (hps : ps.length ≤ 1000) (hls : ls.length ≤ 1000) (hp : Pairs w 0 A ps) (hl : Pairs w 0 B ls) :
    Calls Tryz.prog 22 #[.slice A ps.length c, .int .i64 L, .slice B ls.length d] w fun e w' => ∃ G cc, e = .returned (.tuple #[.slice G (valuesF ps L ls).length cc, .int .i64 (chkErr ps L ls)]) ∧ Ints w' w.heap.size G (valuesF ps L ls) ∧ Below w.heap.size w w' ∧ (∀ a, G = some a → ∃ cs fr, w'.heap[a.block]? = some (.cells cs 3 fr)) := by
  have CC := Lib.hid (check_any A c ps L B d ls w hps hls hp hl)
  by_cases hce : chkErr ps L ls = 0
  case neg =>
    have HX : Hid (valuesF ps L ls = []) := by unfold valuesF; rw [if_neg hce]; rfl
    have q0 : (chkErr ps L ls != 0) = true := by simpa using hce
    clear hce
    go_enter Tryz.func22, Tryz.ntmps22
    go_wp2_with fail
    go_step3
    go_wp2_with (go_at_call 51; refine CC.out.mono ?_; rintro e w1 ⟨rfl, hb1⟩)
    rw [Exit.noGoto_ret]
    go_ret2
    refine ⟨none, 0, by rw [HX.out]; rfl, by rw [HX.out]; exact Sl.none_, hb1, fun a h => by cases h⟩
  have HCE := Lib.hid hce
  have HX : Hid (valuesF ps L ls = valsF L ls ps) := by unfold valuesF; rw [if_pos hce]; rfl
  have G := Lib.hid (good_of hce)
  have q0 : (chkErr ps L ls != 0) = false := by rw [hce]; rfl
  clear hce
  obtain ⟨n, hn⟩ : ∃ n, n = ps.length := ⟨_, rfl⟩
  obtain ⟨m, hm⟩ : ∃ m, m = ls.length := ⟨_, rfl⟩
  have CR : Hid (∀ (t : Int) (W : World), Pairs W 0 B ls → Calls Tryz.prog 30 #[.int .i64 t, .slice B m d] W fun e w' => e = .returned (.tuple #[.int .i64 (recVal t ls), .int .i64 (recErr t ls)]) ∧ Below W.heap.size W w') := by
    intro t W h; rw [hm]; exact recovery_any t B d ls W hls h
  have hn64 : n ≤ 64 := by rw [hn]; exact G.out.len
  rw [← hn, ← hm] at CC
  rw [← hn, ← hm]
  have HN := Lib.hid hn
  clear hn hm hps hls
  have hmk := run_make_row' (P := Tryz.prog) 23 3 (.int .i64 0) 8 Tryz.underlying23 Tryz.infoInt rfl .i64 .i64 (n + 1) (by omega) (by omega)
  have ec : ((n + 1 : Nat) : Int) = (n : Int) + 1 := by omega
  rw [ec] at hmk
  clear ec
  go_enter Tryz.func22, Tryz.ntmps22
  go_wp2_with fail
  go_step3
  go_wp2_with (go_at_call 51; refine CC.out.mono ?_; rintro e w1 ⟨rfl, hb1⟩)
  go_step3
  go_wp2_with fail
  have hrow0 := World.rowIs_made w1 (.int .i64 0) (n + 1) 3
  obtain ⟨g, hg⟩ : ∃ g, g = w1.heap.size := ⟨_, rfl⟩
  rw [← hg] at hrow0 ⊢
  have hgw : w.heap.size ≤ g := by rw [hg]; exact hb1.size
  have hb2 : Below w.heap.size w (w1.alloc (.cells (madeCells #[.int .i64 0] (n + 1)) 3)) := hb1.alloc hb1.size _
  clear hg hmk
  go_loopg [10, 11, 12, 13, 14] n (fun k i _ _ _ _ wr => ∃ F : Nat → Int, k ≤ n ∧ i = .int .i64 ((k : Int) - 1) ∧ Below w.heap.size w wr ∧ wr.rowIs g 3 (n + 1) (fun x => .int .i64 (F x)) ∧ ∀ x, k ≤ x → x ≤ n → F x = valAt L ls ps x)
  case atStart =>
    refine ⟨fun _ => 0, Nat.le_refl _, rfl, hb2, hrow0, fun x h1 h2 => ?_⟩
    obtain rfl : x = n := by omega
    rw [HN.out, valAt_end]
  case round =>
    obtain ⟨F, hk, rfl, hb, hrow, hF⟩ := hrel
    have HF := Lib.hid hF
    clear hF
    by_cases hk1 : 1 ≤ gk
    case neg =>
      go_wp2_with fail
      rw [Exit.noGoto_ret]
      go_ret2
      refine ⟨some ⟨g, 0, none⟩, n + 1, ?_, ?_, hb, fun a h => by injection h with h; subst h; obtain ⟨cs, h1, _⟩ := hrow; exact ⟨cs, _, h1⟩⟩
      · rw [HX.out, valsF_length, ← HN.out, HCE.out]; rfl
      · rw [HX.out]
        refine ints_of_row (F := F) (by rw [valsF_length, ← HN.out]; exact hrow) hgw fun i x hi => ?_
        have hil : i ≤ n := by
          have := (List.getElem?_eq_some_iff.1 hi).1
          rw [valsF_length, ← HN.out] at this; omega
        rw [valsF_get L ls ps i (by rw [← HN.out]; exact hil)] at hi
        rw [HF.out i (by omega) hil]
        exact Option.some.inj hi
    obtain ⟨m1, rfl⟩ : ∃ m1, gk = m1 + 1 := ⟨gk - 1, by omega⟩
    have ei : ((m1 + 1 : Nat) : Int) - 1 = (m1 : Int) := by omega
    rw [ei]
    clear ei
    have hm1 : m1 < n := by omega
    obtain ⟨p, hpm, hdm⟩ := drop_cons (xs := ps) (i := m1) (by rw [← HN.out]; exact hm1)
    obtain ⟨b, off, rfl, _, hbl, c0, _⟩ := hp.at_ hpm
    have hpo := (ptOk_iff p).1 (G.out.pt p (List.mem_of_getElem? hpm))
    have HDM := Lib.hid hdm
    clear hpm hdm
    have hF1 : F (m1 + 1) = valAt L ls ps (m1 + 1) := HF.out _ (by omega) (by omega)
    have x1 : wr.cell? ⟨g, m1 + 1, none⟩ = some (.int .i64 (valAt L ls ps (m1 + 1))) := by rw [hrow.cell (by omega), hF1]
    have x0 := hrow.cell (i := m1) (by omega)
    have xf := hrow.frozen m1
    have HF1 := Lib.hid hF1
    clear hF1
    go_wp2_with fail
    obtain ⟨wo, hwo⟩ : ∃ wo : World, wo = wr.setCell ⟨g, m1, none⟩ (.int .i64 (valAt L ls ps (m1 + 1))) := ⟨_, rfl⟩
    have hrow1 : wo.rowIs g 3 (n + 1) (fun x => .int .i64 (if x = m1 then valAt L ls ps (m1 + 1) else F x)) := by
      rw [hwo]
      refine (hrow.set m1 _).congr fun i _ => ?_
      split <;> rfl
    have hbo : Below w.heap.size w wo := by rw [hwo]; exact hb.setCell hgw _
    rw [← hwo]
    clear hwo x0 x1 xf hrow hb
    go_loopg [11, 12, 13, 14] (n - m1) (fun q t jj _ _ wq => ∃ (j : Nat) (tot : Int) (E : Nat → Int), m1 ≤ j ∧ j ≤ n ∧ q = n - j ∧ jj = .int .i64 j ∧ t = .int .i64 tot ∧ 0 ≤ tot ∧ tot + sumB (ps.drop j) ≤ 17592186044416 ∧ Below w.heap.size w wq ∧ wq.rowIs g 3 (n + 1) (fun x => .int .i64 (E x)) ∧ (∀ x, m1 < x → x ≤ n → E x = valAt L ls ps x) ∧ 0 ≤ E m1 ∧ E m1 ≤ 1152921504606846976 ∧ scan L ls p.a (ps.drop j) (valsF L ls (ps.drop (j + 1))) tot (E m1) = valAt L ls ps m1)
    case atStart =>
      refine ⟨m1, 0, _, Nat.le_refl _, by omega, rfl, rfl, rfl, by omega, ?_, hbo, hrow1, fun x h1 h2 => ?_, ?_, ?_, ?_⟩
      · have := sumB_drop_le G.out.pt m1; have := G.out.sum; omega
      · rw [if_neg (by omega)]; exact HF.out x (by omega) h2
      · rw [if_pos rfl]; exact (valAt_bd L ls ps _).1
      · rw [if_pos rfl]; have := (valAt_bd L ls ps (m1 + 1)).2; rw [← HN.out] at this; omega
      · rw [if_pos rfl]; exact scan_start HDM.out
    case round =>
      obtain ⟨j, tot, E, hj1, hj2, hq, rfl, rfl, ht0, ht1, hbq, hrq, hE, he0, he1, hsc⟩ := hrel
      have HE := Lib.hid hE
      have HSC := Lib.hid hsc
      have HQ := Lib.hid hq
      clear hE hsc hq
      by_cases hjn : j < n
      · obtain ⟨q, hqj, hdj⟩ := drop_cons (xs := ps) (i := j) (by rw [← HN.out]; exact hjn)
        have hqo := (ptOk_iff q).1 (G.out.pt q (List.mem_of_getElem? hqj))
        obtain ⟨b', off', hA', _, _, y0, y1⟩ := (hp.below hbq).at_ hqj
        obtain ⟨rfl, rfl⟩ : b = b' ∧ off = off' := by simpa using hA'
        have z0 : wr.cell? ⟨b, off + m1 * 2, none⟩ = some (.int .i64 p.a) := (hbq.cell (p := ⟨b, _, none⟩) hbl).trans c0
        have HDJ := Lib.hid hdj
        clear hdj hqj hA' c0
        by_cases hle : L ≤ q.a - p.a
        · have hE1 := Lib.hid (scan_break HDJ.out HSC.out hle)
          go_wp2_with fail
          go_quiet (fail)
          go_wp2_with fail
          go_roundg m1
          case measure => omega
          case rel =>
            refine ⟨E, by omega, rfl, below_drewN hbq _, hrq, fun x h1 h2 => ?_⟩
            by_cases hx : x = m1
            · rw [hx]; exact hE1.out.symm
            · exact HE.out x (by omega) h2
        · have hle' : decide (L ≤ q.a - p.a) = false := by simpa using hle
          have htq : tot + q.b ≤ 17592186044416 := by
            have h1 := sumB_drop HDJ.out ht1
            have h2 := sumB_nonneg (ps := ps.drop (j + 1)) (fun u hu => G.out.pt u (List.mem_of_mem_drop hu))
            omega
          have he := (G.out.rec0 (t := tot + q.b) (by omega) htq).1
          have q1 : (recErr (tot + q.b) ls != 0) = false := by rw [he]; rfl
          have hrb := recVal_bd (tot + q.b) ls
          have hvb := valAt_bd L ls ps (j + 1)
          rw [← HN.out] at hvb
          clear he
          go_wp2_with fail
          go_quiet (fail)
          go_wp2_with (go_at_call 30; refine (CR.out _ _ (Sl.drewN (hl.below hbq) _)).mono ?_; rintro e w2 ⟨rfl, hb2⟩)
          have hr2 : w2.rowIs g 3 (n + 1) (fun x => .int .i64 (E x)) := World.rowIs.of_block hrq (hb2.block g hrq.lt)
          have hbw : Below w.heap.size w w2 := (below_drewN hbq _).trans (hb2.mono hbq.size)
          have x0 := hr2.cell (i := m1) (by omega)
          have x1 : w2.cell? ⟨g, j + 1, none⟩ = some (.int .i64 (valAt L ls ps (j + 1))) := by rw [hr2.cell (by omega), HE.out (j + 1) (by omega) (by omega)]
          have xf := hr2.frozen m1
          have hmx := @run_imax Tryz.prog
          clear hb2 hrq y0 y1 z0 hbq
          go_region
          go_wp2_with fail
          go_roundg (n - (j + 1))
          case measure => rw [HQ.out]; omega
          case rel =>
            have hsc' := scan_step HDJ.out HSC.out (by omega)
            refine ⟨j + 1, tot + q.b, fun x => if x = m1 then imax (E m1) (recVal (tot + q.b) ls + valAt L ls ps (j + 1)) else E x, by omega, by omega, rfl, by go_num, rfl, by omega, sumB_drop HDJ.out ht1, (hbw.drew).setCell hgw _, ?_, fun x h1 h2 => ?_, ?_, ?_, ?_⟩
            · refine ((World.rowIs.drew hr2).set m1 _).congr fun i _ => ?_
              by_cases hi : i = m1 <;> simp [hi]
            · dsimp only; rw [if_neg (by omega)]; exact HE.out x h1 h2
            · dsimp only; rw [if_pos rfl]; unfold imax; split <;> omega
            · dsimp only; rw [if_pos rfl]; unfold imax; split <;> omega
            · dsimp only; rw [if_pos rfl]; exact hsc'
      · obtain rfl : j = n := by omega
        have hsc := HSC.out
        rw [HN.out] at hsc
        have hE1 := Lib.hid (scan_end hsc)
        clear hsc
        go_wp2_with fail
        go_roundg m1
        case measure => omega
        case rel =>
          refine ⟨E, by omega, rfl, hbq, hrq, fun x h1 h2 => ?_⟩
          by_cases hx : x = m1
          · rw [hx]; exact hE1.out.symm
          · exact HE.out x (by omega) h2
theorem values_any (A : Option Addr) (c : Nat) (ps : List P2) (L : Int) (B : Option Addr) (d : Nat) (ls : List P2) (w : World) (hps : ps.length ≤ 1000) (hls : ls.length ≤ 1000) (hp : Pairs w 0 A ps) (hl : Pairs w 0 B ls) :
    Calls Tryz.prog 22 #[.slice A ps.length c, .int .i64 L, .slice B ls.length d] w fun e w' => ∃ G cc, e = .returned (.tuple #[.slice G (valuesF ps L ls).length cc, .int .i64 (chkErr ps L ls)]) ∧ Ints w' w.heap.size G (valuesF ps L ls) ∧ Below w.heap.size w w' := by
  refine (values_ty A c ps L B d ls w hps hls hp hl).mono ?_
  rintro e w' ⟨G, cc, h1, h2, h3, _⟩
  exact ⟨G, cc, h1, h2, h3⟩

end Go.Proofs.YtilkcailpkebdaaGreat
