/-
  The window of a loss, and the totals of the windows, in plain Lean.
-/
import Derived.Test.YtjbaildaifdgiaaWinDef
namespace Go.Proofs.Ytjbaildaifdgiaa
open Go.RowKit
set_option linter.unusedVariables false

def covers (x : Win) (l : Los) : Bool := decide (x.peril = l.peril) && decide (x.fr ≤ l.hour) && decide (l.hour < x.to)
theorem covers_iff (x : Win) (l : Los) : covers x l = true ↔ x.peril = l.peril ∧ x.fr ≤ l.hour ∧ l.hour < x.to := by simp [covers]; omega
def findW (l : Los) : List Win → Nat → Int
  | [], _ => -1
  | x :: xs, k => if covers x l = true then k else findW l xs (k + 1)
def asgAt (ws : List Win) (l : Los) : Int := findW l ws 0
def asgF (los : List Los) (ws : List Win) : List Int := los.map (asgAt ws)

theorem findW_hit {l : Los} {ws : List Win} {k : Nat} {x : Win} {r : Int} (hd : ws.drop k = x :: ws.drop (k + 1)) (h : findW l (ws.drop k) k = r) (hc : covers x l = true) : r = k := by
  rw [hd, findW, if_pos hc] at h; exact h.symm
theorem findW_next {l : Los} {ws : List Win} {k : Nat} {x : Win} {r : Int} (hd : ws.drop k = x :: ws.drop (k + 1)) (h : findW l (ws.drop k) k = r) (hc : ¬ covers x l = true) : findW l (ws.drop (k + 1)) (k + 1) = r := by
  rw [hd, findW, if_neg hc] at h; exact h
theorem findW_end {l : Los} {ws : List Win} {k : Nat} {r : Int} (h : findW l (ws.drop ws.length) k = r) : r = -1 := by
  rw [List.drop_length, findW] at h; exact h.symm
theorem findW_bd (l : Los) : ∀ (ws : List Win) (k : Nat), findW l ws k = -1 ∨ (k : Int) ≤ findW l ws k ∧ findW l ws k < k + ws.length := by
  intro ws
  induction ws with
  | nil => intro k; left; rfl
  | cons x ws ih =>
    intro k
    simp only [findW]
    split
    · right; simp only [List.length_cons]; omega
    · rcases ih (k + 1) with h | h
      · left; exact h
      · right; simp only [List.length_cons]; omega
theorem asgAt_bd (ws : List Win) (l : Los) : asgAt ws l = -1 ∨ 0 ≤ asgAt ws l ∧ asgAt ws l < ws.length := by
  have := findW_bd l ws 0
  unfold asgAt; omega
/-- The last index below k that covers, seen from above: what the reference's downward search holds. -/
theorem findW_down (l : Los) (ws : List Win) : ∀ (k : Nat), k ≤ ws.length → (∀ i x, i < k → ws[i]? = some x → covers x l = false) → findW l ws 0 = findW l (ws.drop k) k := by
  intro k
  induction k with
  | zero => intro _ _; simp
  | succ k ih =>
    intro hk hno
    obtain ⟨x, hx, hd⟩ := drop_cons (xs := ws) (i := k) (by omega)
    rw [ih (by omega) (fun i x hi hx => hno i x (by omega) hx), hd, findW, if_neg (by rw [hno k x (by omega) hx]; simp)]

/-- out after the losses from index k on were added. -/
def addTo (f : Nat → Int) (i : Int) (a : Int) : Nat → Int := fun j => if (j : Int) = i then f j + a else f j
def totLoop : List Int → List Int → (Nat → Int) → (Nat → Int)
  | i :: is, a :: l, f => totLoop is l (if 0 ≤ i then addTo f i a else f)
  | _, _, f => f
def totF (los : List Los) (am : List Int) (ws : List Win) : List Int := (List.range ws.length).map (totLoop (asgF los ws) am fun _ => 0)
def totalsF (los : List Los) (am : List Int) (ws : List Win) : List Int := if chkE los am = 0 then totF los am ws else []
theorem tot_yes {is am : List Int} {k : Nat} {i a : Int} {f r : Nat → Int} (hi : is.drop k = i :: is.drop (k + 1)) (ha : am.drop k = a :: am.drop (k + 1)) (h : totLoop (is.drop k) (am.drop k) f = r) (h0 : 0 ≤ i) : totLoop (is.drop (k + 1)) (am.drop (k + 1)) (addTo f i a) = r := by
  rw [hi, ha, totLoop, if_pos h0] at h; exact h
theorem tot_no {is am : List Int} {k : Nat} {i a : Int} {f r : Nat → Int} (hi : is.drop k = i :: is.drop (k + 1)) (ha : am.drop k = a :: am.drop (k + 1)) (h : totLoop (is.drop k) (am.drop k) f = r) (h0 : ¬ 0 ≤ i) : totLoop (is.drop (k + 1)) (am.drop (k + 1)) f = r := by
  rw [hi, ha, totLoop, if_neg h0] at h; exact h
theorem tot_end {is am : List Int} {f r : Nat → Int} (h : totLoop (is.drop is.length) (am.drop is.length) f = r) : r = f := by
  rw [List.drop_length] at h; simp [totLoop] at h; exact h.symm

end Go.Proofs.Ytjbaildaifdgiaa
