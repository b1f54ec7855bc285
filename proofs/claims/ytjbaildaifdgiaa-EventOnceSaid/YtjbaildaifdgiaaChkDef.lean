/-
  Which points, lengths and layers are accepted, in plain Lean.
-/
import Derived.Test.YtjbaildaifdgiaaRecDef
namespace Go.Proofs.Ytjbaildaifdgiaa
open Go.RowKit

def ptOk (p : P2) : Bool := decide (0 ≤ p.a) && decide (p.a ≤ 876599) && decide (0 ≤ p.b) && decide (p.b ≤ 17592186044416)
theorem ptOk_iff (p : P2) : ptOk p = true ↔ 0 ≤ p.a ∧ p.a ≤ 876599 ∧ 0 ≤ p.b ∧ p.b ≤ 17592186044416 := by
  simp [ptOk]; omega
/-- The rest of the points, behind one with the hour h (none: at the head), the sum so far. -/
def chkLoop : Option Int → List P2 → Int → Int
  | _, [], s => if 17592186044416 < s then 3 else 0
  | h, p :: ps, s => if ptOk p = false then 1 else if (h.any fun x => decide (p.a ≤ x)) = true then 13 else chkLoop (some p.a) ps (s + p.b)
def chkErr (ps : List P2) (n : Int) (ls : List P2) : Int :=
  if recErr 0 ls ≠ 0 then recErr 0 ls else if n < 1 ∨ 8784 < n then 1 else if 64 < ps.length then 4 else chkLoop none ps 0
def hourBefore (ps : List P2) (k : Nat) : Option Int := if k = 0 then none else (ps[k - 1]?).map (·.a)

section
variable {ps : List P2} {k : Nat} {p : P2} {acc r : Int}
theorem chk_bad (hd : ps.drop k = p :: ps.drop (k + 1)) (h : chkLoop (hourBefore ps k) (ps.drop k) acc = r) (hp : ptOk p = false) : r = 1 := by
  rw [hd, chkLoop, if_pos hp] at h; exact h.symm
theorem chk_order {q : P2} (hd : ps.drop k = p :: ps.drop (k + 1)) (h : chkLoop (hourBefore ps k) (ps.drop k) acc = r) (hp : ptOk p = true) (h0 : 0 < k) (hq : ps[k - 1]? = some q) (hle : p.a ≤ q.a) : r = 13 := by
  rw [hd, chkLoop, if_neg (by simp [hp]), if_pos (by unfold hourBefore; rw [if_neg (by omega), hq]; simpa using hle)] at h; exact h.symm
theorem hour_next (hd : ps.drop k = p :: ps.drop (k + 1)) : hourBefore ps (k + 1) = some p.a := by
  have : ps[k]? = some p := by
    have h := congrArg (fun l : List P2 => l[0]?) hd
    simpa using h
  unfold hourBefore; rw [if_neg (by omega)]; simp [this]
theorem chk_next0 (hd : ps.drop k = p :: ps.drop (k + 1)) (h : chkLoop (hourBefore ps k) (ps.drop k) acc = r) (hp : ptOk p = true) (h0 : k < 1) : chkLoop (hourBefore ps (k + 1)) (ps.drop (k + 1)) (acc + p.b) = r := by
  rw [hour_next hd]
  rw [hd, chkLoop, if_neg (by simp [hp]), if_neg (by unfold hourBefore; rw [if_pos (by omega)]; simp)] at h; exact h
theorem chk_next {q : P2} (hd : ps.drop k = p :: ps.drop (k + 1)) (h : chkLoop (hourBefore ps k) (ps.drop k) acc = r) (hp : ptOk p = true) (h0 : 0 < k) (hq : ps[k - 1]? = some q) (hle : q.a < p.a) : chkLoop (hourBefore ps (k + 1)) (ps.drop (k + 1)) (acc + p.b) = r := by
  rw [hour_next hd]
  rw [hd, chkLoop, if_neg (by simp [hp]), if_neg (by unfold hourBefore; rw [if_neg (by omega), hq]; simp; omega)] at h; exact h
theorem chk_end (h : chkLoop (hourBefore ps ps.length) (ps.drop ps.length) acc = r) : r = if 17592186044416 < acc then 3 else 0 := by
  rw [List.drop_length, chkLoop] at h; exact h.symm
end

end Go.Proofs.Ytjbaildaifdgiaa
