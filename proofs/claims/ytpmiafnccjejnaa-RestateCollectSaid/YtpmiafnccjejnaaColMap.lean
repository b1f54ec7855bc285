/-
  What the map of restate.Collect holds behind some shares. Plain Lean.
-/
import Derived.Test.YtpmiafnccjejnaaMapH
import Derived.Test.YtpmiafnccjejnaaColErr
namespace Go.Proofs.Ytpmiafnccjejnaa
open Go.RowKit Go.Maps
set_option linter.unusedVariables false

def hOf (s : Sh) : H3 := ⟨s.loss, s.treaty, s.party⟩
def sOf (h : H3) : Sh := ⟨h.a, h.b, h.c, 0, 0⟩
def Sh.ok (s : Sh) : Prop := I64 s.loss ∧ I64 s.treaty ∧ I64 s.party
def D2 (a p : Int) : DataW Unit := .agg [.lit (.int .i64 a), .lit (.int .i64 p)]
theorem D2_inj {a p b q : Int} (h : D2 a p = D2 b q) : a = b ∧ p = q := by
  unfold D2 at h
  injection h with h
  simp at h
  exact h
def MapS (l : List Sh) (D : DataW Unit) : Prop := IsMap D ∧ ∀ h : H3, h.ok → D.atKey (kL h) (D2 0 0) = D2 (amtH l (sOf h)) (paidH l (sOf h))
theorem MapS.nil : MapS [] (.map []) := ⟨⟨[], rfl⟩, fun h _ => rfl⟩
theorem sameH_sOf (s : Sh) (h : H3) : sameH s (sOf h) ↔ hOf s = h := by
  obtain ⟨a, b, c⟩ := h
  unfold sameH sOf hOf
  simp
theorem amtH_hOf (l : List Sh) (s : Sh) : amtH l (sOf (hOf s)) = amtH l s ∧ paidH l (sOf (hOf s)) = paidH l s := by
  induction l with
  | nil => exact ⟨rfl, rfl⟩
  | cons x l ih =>
    have e : sameH x (sOf (hOf s)) ↔ sameH x s := Iff.rfl
    simp only [amtH, paidH, ih.1, ih.2]
    by_cases hc : sameH x s
    · rw [if_pos hc, if_pos (e.2 hc), if_pos hc, if_pos (e.2 hc)]; exact ⟨rfl, rfl⟩
    · rw [if_neg hc, if_neg (fun h => hc (e.1 h)), if_neg hc, if_neg (fun h => hc (e.1 h))]; exact ⟨rfl, rfl⟩
theorem sum_next {l : List Sh} {k : Nat} {s : Sh} (h : l[k]? = some s) (y : Sh) : amtH (l.take (k + 1)) y = amtH (l.take k) y + (if sameH s y then s.amt else 0) ∧ paidH (l.take (k + 1)) y = paidH (l.take k) y + (if sameH s y then s.paid else 0) := by
  rw [List.take_add_one, h, amtH_append, paidH_append]
  simp [amtH, paidH]
theorem MapS.next {l : List Sh} {k : Nat} {s : Sh} {D : DataW Unit} (h : MapS (l.take k) D) (hs : l[k]? = some s) (ho : s.ok) : MapS (l.take (k + 1)) (D.put (kL (hOf s)) (D2 (amtH (l.take k) s + s.amt) (paidH (l.take k) s + s.paid))) := by
  refine ⟨h.1.put _ _, fun x hx => ?_⟩
  obtain ⟨e1, e2⟩ := sum_next hs (sOf x)
  by_cases hc : hOf s = x
  · subst hc
    rw [atKey_put_same h.1 (lawH.key (keyH (hOf s) ho))]
    have hss : sameH s (sOf (hOf s)) := ⟨rfl, rfl, rfl⟩
    rw [if_pos hss] at e1 e2
    obtain ⟨a, b⟩ := amtH_hOf (l.take k) s
    rw [e1, e2, a, b]
  · rw [atKey_put_other (fun e => hc (kL_inj hx (show (hOf s).ok from ho) e).symm), h.2 x hx]
    have hns : ¬ sameH s (sOf x) := fun h2 => hc ((sameH_sOf s x).1 h2)
    rw [if_neg hns] at e1 e2
    rw [e1, e2, Int.add_zero, Int.add_zero]
theorem MapS.at_ {l : List Sh} {D : DataW Unit} (h : MapS l D) {s : Sh} (ho : s.ok) : D.atKey (kL (hOf s)) (D2 0 0) = D2 (amtH l s) (paidH l s) := by
  have := h.2 (hOf s) ho
  obtain ⟨a, b⟩ := amtH_hOf l s
  rw [a, b] at this
  exact this

end Go.Proofs.Ytpmiafnccjejnaa
