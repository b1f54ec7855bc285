/-
  The headings that restate.Collect has met while it goes over its map. Plain Lean.
-/
import Derived.Test.YtpmiafnccjejnaaColMap
namespace Go.Proofs.Ytpmiafnccjejnaa
open Go.RowKit Go.Maps
set_option linter.unusedVariables false

/-- What is under a heading is something. -/
def someH (l : List Sh) (h : H3) : Prop := amtH l (sOf h) ≠ 0 ∨ paidH l (sOf h) ≠ 0
structure CollH (l : List Sh) (left : Lit → Bool) (hs : List H3) : Prop where
  uniq : hs.Pairwise (fun a b => a ≠ b)
  each : ∀ x ∈ hs, x.ok ∧ someH l x ∧ left (kL x) = false
  all : ∀ h : H3, h.ok → someH l h → left (kL h) = false → h ∈ hs
theorem CollH.start {l : List Sh} {D : DataW Unit} (h : MapS l D) : CollH l (Maps.has D) [] := by
  refine ⟨List.Pairwise.nil, fun x hx => by simp at hx, fun x hx hs hl => ?_⟩
  have := h.2 x hx
  rw [atKey_of_not_has hl] at this
  obtain ⟨a, b⟩ := D2_inj this
  unfold someH at hs
  omega
theorem CollH.keep {l : List Sh} {left : Lit → Bool} {hs : List H3} (h : CollH l left hs) {x : H3} (hx : x.ok) (hl : left (kL x) = true) (h0 : someH l x) : CollH l (fun z => left z && !z.sameKey (kL x)) (hs ++ [x]) := by
  have hself : (kL x).sameKey (kL x) = true := WideAt.sameKey_self (lawH.key (keyH x hx))
  refine ⟨?_, ?_, ?_⟩
  · refine List.pairwise_append.2 ⟨h.uniq, by simp, fun a ha b hb => ?_⟩
    obtain rfl : b = x := by simpa using hb
    intro e
    have := (h.each a ha).2.2
    rw [e, hl] at this; cases this
  · intro y hy
    rcases List.mem_append.1 hy with hy | hy
    · obtain ⟨h1, h2, h3⟩ := h.each y hy
      exact ⟨h1, h2, by simp [h3]⟩
    · obtain rfl : y = x := by simpa using hy
      exact ⟨hx, h0, by simp [hself]⟩
  · intro y hy hs' hly
    by_cases e : y = x
    · subst e; simp
    · have hne : kL y ≠ kL x := fun e2 => e (kL_inj hy hx e2)
      rw [sameKey_ne hne] at hly
      simp at hly
      exact List.mem_append.2 (.inl (h.all y hy hs' hly))
theorem CollH.skip {l : List Sh} {left : Lit → Bool} {hs : List H3} (h : CollH l left hs) {x : H3} (hx : x.ok) (h0 : ¬ someH l x) : CollH l (fun z => left z && !z.sameKey (kL x)) hs := by
  refine ⟨h.uniq, fun y hy => ?_, fun y hy hs' hly => ?_⟩
  · obtain ⟨h1, h2, h3⟩ := h.each y hy
    exact ⟨h1, h2, by simp [h3]⟩
  · have e : y ≠ x := by rintro rfl; exact h0 hs'
    have hne : kL y ≠ kL x := fun e2 => e (kL_inj hy hx e2)
    rw [sameKey_ne hne] at hly
    simp at hly
    exact h.all y hy hs' hly
/-- The share under a heading. -/
def shAt (l : List Sh) (h : H3) : Sh := ⟨h.a, h.b, h.c, amtH l (sOf h), paidH l (sOf h)⟩
/-- All headings met, in order: their shares are the collected list. -/
theorem CollH.done {l : List Sh} {hs qs : List H3} {left : Lit → Bool} (h : CollH l left hs) (hleft : ∀ z, left z = false) (hok : ∀ s ∈ l, s.ok) (hp : qs.Perm hs) (hs2 : qs.Pairwise (fun a b => ¬ h3Lt b a)) : qs.map (shAt l) = colF l := by
  have hnd : qs.Pairwise (fun a b => a ≠ b) := (hp.pairwise_iff (fun {a b} hab => fun e => hab e.symm)).2 h.uniq
  have hasc : AscS (qs.map (shAt l)) := by
    unfold AscS
    refine List.pairwise_map.2 ((List.Pairwise.and hs2 hnd).imp fun {a b} hab => ?_)
    obtain ⟨h1, h2⟩ := hab
    unfold h3Lt at h1
    unfold hLt shAt
    dsimp only
    rcases Classical.em (a.a = b.a ∧ a.b = b.b ∧ a.c = b.c) with e | e
    · exact absurd (by obtain ⟨a1, a2, a3⟩ := a; obtain ⟨b1, b2, b3⟩ := b; simp at e; simp [e]) h2
    · omega
  refine colF_of hasc (fun x hx => ?_) (fun y => ?_)
  · obtain ⟨q, hq, rfl⟩ := List.mem_map.1 hx
    have := (h.each q (hp.mem_iff.1 hq)).2.1
    exact (nzS_iff _).2 this
  · obtain ⟨a, b⟩ := amtH_hOf l y
    by_cases hm : hOf y ∈ qs
    · have hmem : shAt l (hOf y) ∈ qs.map (shAt l) := List.mem_map_of_mem hm
      obtain ⟨c, d⟩ := sum_mem hasc hmem
      obtain ⟨e, f⟩ := amtH_hOf (qs.map (shAt l)) y
      have hsame : ∀ L : List Sh, amtH L (shAt l (hOf y)) = amtH L (sOf (hOf y)) ∧ paidH L (shAt l (hOf y)) = paidH L (sOf (hOf y)) := by
        intro L
        induction L with
        | nil => exact ⟨rfl, rfl⟩
        | cons z L ih =>
          simp only [amtH, paidH, ih.1, ih.2]
          exact ⟨rfl, rfl⟩
      obtain ⟨g, k⟩ := hsame (qs.map (shAt l))
      rw [g, e] at c
      rw [k, f] at d
      exact ⟨c.trans a, d.trans b⟩
    · have hnone : ∀ x ∈ qs.map (shAt l), ¬ sameH x y := fun x hx hs' => by
        obtain ⟨q, hq, rfl⟩ := List.mem_map.1 hx
        have e : q = hOf y := by
          obtain ⟨q1, q2, q3⟩ := q
          obtain ⟨s1, s2, s3⟩ := hs'
          unfold shAt at s1 s2 s3
          dsimp only at s1 s2 s3
          unfold hOf
          rw [s1, s2, s3]
        exact hm (e ▸ hq)
      obtain ⟨c, d⟩ := sum_none hnone
      have hz : ¬ someH l (hOf y) ∨ ¬ (hOf y).ok := by
        rcases Classical.em (hOf y).ok with ho | ho
        · exact .inl fun hs' => hm (hp.mem_iff.2 (h.all _ ho hs' (hleft _)))
        · exact .inr ho
      rw [c, d]
      rcases hz with hz | hz
      · unfold someH at hz
        rw [a, b] at hz
        omega
      · obtain ⟨e, f⟩ := sum_none (l := l) (h := y) (fun x hx hs' => hz (by
          have := hok x hx
          unfold Sh.ok at this
          obtain ⟨s1, s2, s3⟩ := hs'
          unfold H3.ok hOf
          dsimp only
          rw [← s1, ← s2, ← s3]
          exact this))
        omega

end Go.Proofs.Ytpmiafnccjejnaa
