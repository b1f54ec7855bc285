/-
  The reference's search for the end of a span, in plain Lean.
-/
import Derived.Test.YtjbaildaifdgiaaSpansDef
namespace Go.Proofs.Ytjbaildaifdgiaa
open Go.RowKit

def Hit (L : Int) (ls ps : List P2) (i : Nat) (h0 : Int) (y : Nat) : Prop :=
  ∃ q, ps[y]? = some q ∧ q.a - h0 < L ∧ recVal (sumT ps i (y - i + 1)) ls + valAt L ls ps (y + 1) = valAt L ls ps i

theorem findJ_hits {L : Int} {ls ps : List P2} {i : Nat} {h0 : Int} {j0 : Nat} : ∀ (k j : Nat), k = ps.length - j → i ≤ j →
    findJ L ls h0 (valAt L ls ps i) (ps.drop j) (valsF L ls (ps.drop (j + 1))) (sumT ps i (j - i)) j = some j0 → Hit L ls ps i h0 j0 ∧ j ≤ j0 ∧ ∀ y, j ≤ y → y < j0 → ¬ Hit L ls ps i h0 y := by
  intro k
  induction k with
  | zero =>
    intro j hk hij h
    rw [List.drop_eq_nil_of_le (by omega), findJ_nil] at h
    cases h
  | succ k ih =>
    intro j hk hij h
    obtain ⟨q, hq, hd⟩ := drop_cons (xs := ps) (i := j) (by omega)
    have hs := sumT_snoc hij hq
    by_cases hle : L ≤ q.a - h0
    · have := findJ_far hd h hle; cases this
    by_cases he : recVal (sumT ps i (j - i) + q.b) ls + valAt L ls ps (j + 1) = valAt L ls ps i
    · have := findJ_hit hd h (by omega) he
      injection this with hj
      subst hj
      exact ⟨⟨q, hq, by omega, by rw [hs]; exact he⟩, Nat.le_refl _, fun y h1 h2 => absurd h2 (by omega)⟩
    · have hst := findJ_step hd h (by omega) he
      have hs' : sumT ps i (j + 1 - i) = sumT ps i (j - i) + q.b := by rw [show j + 1 - i = j - i + 1 by omega]; exact hs
      rw [← hs'] at hst
      obtain ⟨g1, g2, g3⟩ := ih (j + 1) (by omega) (by omega) hst
      refine ⟨g1, by omega, fun y h1 h2 hy => ?_⟩
      by_cases hyj : y = j
      · subst hyj
        obtain ⟨q', hq', _, hr⟩ := hy
        rw [hq] at hq'
        injection hq' with hq'
        subst hq'
        rw [hs] at hr
        exact he hr
      · exact g3 y (by omega) h2 hy
theorem findAt_hits {L : Int} {ls ps : List P2} {i j0 : Nat} {h0 : Int} (h : findAt L ls ps i h0 = some j0) : Hit L ls ps i h0 j0 ∧ i ≤ j0 ∧ ∀ y, i ≤ y → y < j0 → ¬ Hit L ls ps i h0 y :=
  findJ_hits (ps.length - i) i rfl (Nat.le_refl _) (by rw [Nat.sub_self, sumT_zero]; exact h)

/-- Behind the indexes from k on: the end of the first hit among them, or the length. -/
def NextIs (L : Int) (ls ps : List P2) (i : Nat) (h0 : Int) (k nx : Nat) : Prop :=
  (nx = ps.length ∧ ∀ y, k ≤ y → ¬ Hit L ls ps i h0 y) ∨ ∃ x, nx = x + 1 ∧ k ≤ x ∧ Hit L ls ps i h0 x ∧ ∀ y, k ≤ y → y < x → ¬ Hit L ls ps i h0 y
theorem NextIs.start {L : Int} {ls ps : List P2} {i : Nat} {h0 : Int} : NextIs L ls ps i h0 ps.length ps.length :=
  .inl ⟨rfl, fun y hy h => by obtain ⟨q, hq, _⟩ := h; have := (List.getElem?_eq_some_iff.1 hq).1; omega⟩
theorem NextIs.yes {L : Int} {ls ps : List P2} {i k : Nat} {h0 : Int} (h : Hit L ls ps i h0 k) : NextIs L ls ps i h0 k (k + 1) :=
  .inr ⟨k, rfl, Nat.le_refl _, h, fun y h1 h2 => absurd h2 (by omega)⟩
theorem NextIs.no {L : Int} {ls ps : List P2} {i k nx : Nat} {h0 : Int} (hn : NextIs L ls ps i h0 (k + 1) nx) (h : ¬ Hit L ls ps i h0 k) : NextIs L ls ps i h0 k nx := by
  rcases hn with ⟨e, hn⟩ | ⟨x, e, hx, hh, hn⟩
  · refine .inl ⟨e, fun y hy => ?_⟩
    by_cases hyk : y = k
    · rw [hyk]; exact h
    · exact hn y (by omega)
  · refine .inr ⟨x, e, by omega, hh, fun y hy hyx => ?_⟩
    by_cases hyk : y = k
    · rw [hyk]; exact h
    · exact hn y (by omega) hyx
theorem NextIs.find {L : Int} {ls ps : List P2} {i nx j0 : Nat} {h0 : Int} (hn : NextIs L ls ps i h0 i nx) (h : findAt L ls ps i h0 = some j0) : nx = j0 + 1 := by
  obtain ⟨g1, g2, g3⟩ := findAt_hits h
  rcases hn with ⟨_, hn⟩ | ⟨x, e, hx, hh, hn⟩
  · exact absurd g1 (hn j0 g2)
  · rcases Nat.lt_trichotomy x j0 with hlt | heq | hgt
    · exact absurd hh (g3 x hx hlt)
    · rw [e, heq]
    · exact absurd g1 (hn j0 g2 hgt)
theorem hit_iff {L : Int} {ls ps : List P2} {i j : Nat} {h0 : Int} {q : P2} (hq : ps[j]? = some q) : Hit L ls ps i h0 j ↔ q.a - h0 < L ∧ recVal (sumT ps i (j - i + 1)) ls + valAt L ls ps (j + 1) = valAt L ls ps i := by
  constructor
  · rintro ⟨q', hq', h1, h2⟩
    rw [hq] at hq'
    injection hq' with hq'
    subst hq'
    exact ⟨h1, h2⟩
  · rintro ⟨h1, h2⟩
    exact ⟨q, hq, h1, h2⟩

end Go.Proofs.Ytjbaildaifdgiaa
