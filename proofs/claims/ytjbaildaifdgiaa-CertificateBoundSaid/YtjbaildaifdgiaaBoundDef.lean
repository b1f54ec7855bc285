/-
  Which values are bounds, in plain Lean.
-/
import Derived.Test.YtjbaildaifdgiaaSpanDef
namespace Go.Proofs.Ytjbaildaifdgiaa
open Go.RowKit

def innerB (L : Int) (ls : List P2) (h0 vi : Int) : List P2 → List Int → Int → Bool
  | q :: qs, v :: vs, tot => if L ≤ q.a - h0 then true else if vi < recVal (tot + q.b) ls + v then false else innerB L ls h0 vi qs vs (tot + q.b)
  | _, _, _ => true
def innerR (L : Int) (ls : List P2) (h0 vi : Int) : List P2 → List Int → Int → Bool
  | q :: qs, v :: vs, tot => if q.a - h0 < L ∧ vi < recVal (tot + q.b) ls + v then false else innerR L ls h0 vi qs vs (tot + q.b)
  | _, _, _ => true
def outerB (L : Int) (ls : List P2) : List P2 → List Int → Bool
  | p :: ps, v :: vs => if v < hdI vs then false else if innerB L ls p.a v (p :: ps) vs 0 = true then outerB L ls ps vs else false
  | _, _ => true
def vOk (v : Int) : Bool := decide (0 ≤ v) && decide (v ≤ 17592186044416)
theorem vOk_iff (v : Int) : vOk v = true ↔ 0 ≤ v ∧ v ≤ 17592186044416 := by simp [vOk]
def boundB (ps : List P2) (L : Int) (ls : List P2) (vs : List Int) : Bool :=
  if chkErr ps L ls ≠ 0 then false else if vs.length ≠ ps.length + 1 then false else if vs.all vOk = false then false else outerB L ls ps vs

theorem innerR_far {L : Int} {ls : List P2} {h0 vi : Int} : ∀ (qs : List P2) (vs : List Int) (t : Int), (∀ q ∈ qs, L ≤ q.a - h0) → innerR L ls h0 vi qs vs t = true := by
  intro qs
  induction qs with
  | nil => intro vs t _; simp [innerR]
  | cons q qs ih =>
    intro vs t h
    cases vs with
    | nil => simp [innerR]
    | cons v vs =>
      have := h q (by simp)
      rw [innerR, if_neg (by omega)]
      exact ih _ _ fun u hu => h u (by simp [hu])
theorem innerR_eq {L : Int} {ls : List P2} {h0 vi : Int} : ∀ (qs : List P2) (h : Option Int) (vs : List Int) (t : Int), Asc h qs → innerR L ls h0 vi qs vs t = innerB L ls h0 vi qs vs t := by
  intro qs
  induction qs with
  | nil => intro h vs t _; simp [innerR, innerB]
  | cons q qs ih =>
    intro h vs t ha
    cases vs with
    | nil => simp [innerR, innerB]
    | cons v vs =>
      rw [innerR, innerB]
      by_cases hle : L ≤ q.a - h0
      · rw [if_pos hle, if_neg (by omega)]
        exact innerR_far _ _ _ fun u hu => by have := Asc.gt ha.2 u hu; omega
      · rw [if_neg hle]
        by_cases hv : vi < recVal (t + q.b) ls + v
        · rw [if_pos ⟨by omega, hv⟩, if_pos hv]
        · rw [if_neg (by omega), if_neg hv]
          exact ih _ _ _ ha.2

section
variable {L : Int} {ls ps : List P2} {h0 vi : Int} {vs : List Int}
theorem innerB_far {j : Nat} {q : P2} {v t : Int} {r : Bool} (hd : ps.drop j = q :: ps.drop (j + 1)) (hv : vs.drop (j + 1) = v :: vs.drop (j + 2)) (h : innerB L ls h0 vi (ps.drop j) (vs.drop (j + 1)) t = r) (hle : L ≤ q.a - h0) : r = true := by
  rw [hd, hv, innerB, if_pos hle] at h; exact h.symm
theorem innerB_bad {j : Nat} {q : P2} {v t : Int} {r : Bool} (hd : ps.drop j = q :: ps.drop (j + 1)) (hv : vs.drop (j + 1) = v :: vs.drop (j + 2)) (h : innerB L ls h0 vi (ps.drop j) (vs.drop (j + 1)) t = r) (hlt : q.a - h0 < L) (hb : vi < recVal (t + q.b) ls + v) : r = false := by
  rw [hd, hv, innerB, if_neg (by omega), if_pos hb] at h; exact h.symm
theorem innerB_step {j : Nat} {q : P2} {v t : Int} {r : Bool} (hd : ps.drop j = q :: ps.drop (j + 1)) (hv : vs.drop (j + 1) = v :: vs.drop (j + 2)) (h : innerB L ls h0 vi (ps.drop j) (vs.drop (j + 1)) t = r) (hlt : q.a - h0 < L) (hb : ¬ vi < recVal (t + q.b) ls + v) : innerB L ls h0 vi (ps.drop (j + 1)) (vs.drop (j + 2)) (t + q.b) = r := by
  rw [hd, hv, innerB, if_neg (by omega), if_neg hb] at h; exact h
theorem innerB_end {t : Int} {us : List Int} {r : Bool} (h : innerB L ls h0 vi (ps.drop ps.length) us t = r) : r = true := by
  rw [List.drop_length] at h; simp [innerB] at h; exact h
theorem innerR_bad {j : Nat} {q : P2} {v t : Int} {r : Bool} (hd : ps.drop j = q :: ps.drop (j + 1)) (hv : vs.drop (j + 1) = v :: vs.drop (j + 2)) (h : innerR L ls h0 vi (ps.drop j) (vs.drop (j + 1)) t = r) (hlt : q.a - h0 < L) (hb : vi < recVal (t + q.b) ls + v) : r = false := by
  rw [hd, hv, innerR, if_pos ⟨hlt, hb⟩] at h; exact h.symm
theorem innerR_step {j : Nat} {q : P2} {v t : Int} {r : Bool} (hd : ps.drop j = q :: ps.drop (j + 1)) (hv : vs.drop (j + 1) = v :: vs.drop (j + 2)) (h : innerR L ls h0 vi (ps.drop j) (vs.drop (j + 1)) t = r) (hb : ¬ (q.a - h0 < L ∧ vi < recVal (t + q.b) ls + v)) : innerR L ls h0 vi (ps.drop (j + 1)) (vs.drop (j + 2)) (t + q.b) = r := by
  rw [hd, hv, innerR, if_neg hb] at h; exact h
theorem innerR_end {t : Int} {us : List Int} {r : Bool} (h : innerR L ls h0 vi (ps.drop ps.length) us t = r) : r = true := by
  rw [List.drop_length] at h; simp [innerR] at h; exact h
theorem outerB_less {i : Nat} {p : P2} {v v' : Int} {r : Bool} (hd : ps.drop i = p :: ps.drop (i + 1)) (hv : vs.drop i = v :: vs.drop (i + 1)) (hv' : vs.drop (i + 1) = v' :: vs.drop (i + 2)) (h : outerB L ls (ps.drop i) (vs.drop i) = r) (hl : v < v') : r = false := by
  rw [hd, hv, outerB, hv', if_pos (by simpa [hdI] using hl)] at h; exact h.symm
theorem outerB_bad {i : Nat} {p : P2} {v : Int} {r : Bool} (hd : ps.drop i = p :: ps.drop (i + 1)) (hv : vs.drop i = v :: vs.drop (i + 1)) (h : outerB L ls (ps.drop i) (vs.drop i) = r) (hi : innerB L ls p.a v (ps.drop i) (vs.drop (i + 1)) 0 = false) : r = false := by
  rw [hd] at hi
  rw [hd, hv, outerB, hi] at h
  simp at h
  exact h
theorem outerB_step {i : Nat} {p : P2} {v v' : Int} {r : Bool} (hd : ps.drop i = p :: ps.drop (i + 1)) (hv : vs.drop i = v :: vs.drop (i + 1)) (hv' : vs.drop (i + 1) = v' :: vs.drop (i + 2)) (h : outerB L ls (ps.drop i) (vs.drop i) = r) (hl : ¬ v < v') (hi : innerB L ls p.a v (ps.drop i) (vs.drop (i + 1)) 0 = true) : outerB L ls (ps.drop (i + 1)) (vs.drop (i + 1)) = r := by
  rw [hd] at hi
  rw [hd, hv, outerB, hi, if_neg (by rw [hv']; simpa [hdI] using hl), if_pos rfl] at h
  exact h
theorem outerB_end {us : List Int} {r : Bool} (h : outerB L ls (ps.drop ps.length) us = r) : r = true := by
  rw [List.drop_length] at h; simp [outerB] at h; exact h
theorem innerR_start {i : Nat} {v : Int} {h : Int} {us : List Int} (ha : Asc none ps) : innerR L ls h v (ps.drop i) us (sumT ps i (i - i)) = innerB L ls h v (ps.drop i) us 0 := by
  obtain ⟨h', ha'⟩ := Asc.drop ha i
  rw [Nat.sub_self, sumT_zero, innerR_eq _ h' _ _ ha']
end
theorem allv_of_drop {vs : List Int} {k : Nat} {v : Int} {b : Bool} (hd : vs.drop k = v :: vs.drop (k + 1)) (h : (vs.drop k).all vOk = b) (hl : vOk v = true) : (vs.drop (k + 1)).all vOk = b := by
  rw [hd] at h; simpa [hl] using h
theorem badv_of_drop {vs : List Int} {k : Nat} {v : Int} (hd : vs.drop k = v :: vs.drop (k + 1)) (h : (vs.drop k).all vOk = vs.all vOk) (hl : vOk v = false) : vs.all vOk = false := by
  rw [hd] at h; rw [← h]; simp [hl]

end Go.Proofs.Ytjbaildaifdgiaa
