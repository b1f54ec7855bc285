/-
  What the decks make is accepted.
-/
import Derived.Test.YtjbaildaifdgiaaPts
namespace Go.Proofs.Ytjbaildaifdgiaa
open Go.RowKit

theorem chkLoop_made : ∀ (ps : List P2) (h : Option Int) (s : Int), (∀ p ∈ ps, 0 ≤ p.a ∧ p.a ≤ 876599 ∧ 0 ≤ p.b ∧ p.b < 268435456) → ps.Pairwise (fun p q => p.a < q.a) → (∀ x, h = some x → ∀ p ∈ ps, x < p.a) → 0 ≤ s → s + 268435456 * (ps.length : Int) ≤ 17592186044416 → chkLoop h ps s = 0 := by
  intro ps
  induction ps with
  | nil => intro h s _ _ _ h0 h1; simp only [chkLoop]; rw [if_neg (by simp at h1; omega)]
  | cons p ps ih =>
    intro h s he ha hh h0 h1
    have hp := he p (by simp)
    have hok : ptOk p = true := (ptOk_iff p).2 ⟨hp.1, hp.2.1, hp.2.2.1, by omega⟩
    rw [List.pairwise_cons] at ha
    rw [chkLoop, if_neg (by simp [hok]), if_neg]
    · refine ih _ _ (fun q hq => he q (by simp [hq])) ha.2 (fun x hx q hq => ?_) (by omega) (by simp only [List.length_cons] at h1; omega)
      injection hx with hx
      rw [← hx]; exact ha.1 q hq
    · cases h with
      | none => simp
      | some x => have := hh x rfl p (by simp); simp; omega
theorem chkErr_made {ps : List P2} {last n : Int} {ls : List P2} (hm : MadePts ps last) (hl : last ≤ 12 * (ps.length : Int)) (hp : ps.length ≤ 64) (h1 : 1 ≤ n) (h2 : n ≤ 72) (hl1 : 1 ≤ ls.length) (hl3 : ls.length ≤ 3) (hall : ls.all okLay = true) : chkErr ps n ls = 0 := by
  have hr : recErr 0 ls = 0 := (rec_ok (by omega) hall (by omega)).1
  unfold chkErr
  rw [if_neg (by simp [hr]), if_neg (by omega), if_neg (by omega)]
  refine chkLoop_made ps none 0 (fun p hp => ?_) hm.asc (fun x hx => by cases hx) (by omega) (by omega)
  have := hm.each p hp
  omega

end Go.Proofs.Ytjbaildaifdgiaa
