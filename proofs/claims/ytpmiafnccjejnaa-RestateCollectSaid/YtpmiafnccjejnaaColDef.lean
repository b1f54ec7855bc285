/-
  Collected shares (layer 32), in plain Lean: sums by headings, in order, without those that are nothing; differences add up.
-/
import Derived.Test.YtpmiafnccjejnaaWords
namespace Go.Proofs.Ytpmiafnccjejnaa
open Go.RowKit
set_option linter.unusedVariables false

structure Sh where
  loss : Int
  treaty : Int
  party : Int
  amt : Int
  paid : Int
def Sh.cells (s : Sh) : List Value := [.int .i64 s.loss, .int .i64 s.treaty, .int .i64 s.party, .int .i64 s.amt, .int .i64 s.paid]
/-- The same heading. -/
def sameH (a b : Sh) : Prop := a.loss = b.loss ∧ a.treaty = b.treaty ∧ a.party = b.party
instance (a b : Sh) : Decidable (sameH a b) := inferInstanceAs (Decidable (_ ∧ _ ∧ _))
def hLt (a b : Sh) : Prop := a.loss < b.loss ∨ (a.loss = b.loss ∧ (a.treaty < b.treaty ∨ (a.treaty = b.treaty ∧ a.party < b.party)))
instance (a b : Sh) : Decidable (hLt a b) := inferInstanceAs (Decidable (_ ∨ _))
theorem hLt_trans {a b c : Sh} (h : hLt a b) (h' : hLt b c) : hLt a c := by unfold hLt at *; omega
theorem hLt_not {a b : Sh} (h : hLt a b) : ¬ sameH a b := by unfold hLt sameH at *; omega
theorem hLt_tri (a b : Sh) : hLt a b ∨ sameH a b ∨ hLt b a := by unfold hLt sameH; omega
theorem sameH_symm {a b : Sh} (h : sameH a b) : sameH b a := by unfold sameH at *; omega
theorem sameH_trans {a b c : Sh} (h : sameH a b) (h' : sameH b c) : sameH a c := by unfold sameH at *; omega

/-- What a list has under a heading. -/
def amtH : List Sh → Sh → Int
  | [], _ => 0
  | x :: l, h => (if sameH x h then x.amt else 0) + amtH l h
def paidH : List Sh → Sh → Int
  | [], _ => 0
  | x :: l, h => (if sameH x h then x.paid else 0) + paidH l h
theorem amtH_append (l l' : List Sh) (h : Sh) : amtH (l ++ l') h = amtH l h + amtH l' h := by
  induction l with
  | nil => simp [amtH]
  | cons x l ih => simp only [List.cons_append, amtH, ih]; omega
theorem paidH_append (l l' : List Sh) (h : Sh) : paidH (l ++ l') h = paidH l h + paidH l' h := by
  induction l with
  | nil => simp [paidH]
  | cons x l ih => simp only [List.cons_append, paidH, ih]; omega
def negS (s : Sh) : Sh := ⟨s.loss, s.treaty, s.party, -s.amt, -s.paid⟩
theorem amtH_neg (l : List Sh) (h : Sh) : amtH (l.map negS) h = - amtH l h := by
  induction l with
  | nil => rfl
  | cons x l ih =>
    simp only [List.map_cons, amtH, ih]
    have e : sameH (negS x) h ↔ sameH x h := Iff.rfl
    by_cases hc : sameH x h
    · rw [if_pos hc, if_pos (e.2 hc)]; show -x.amt + _ = _; omega
    · rw [if_neg hc, if_neg (fun h2 => hc (e.1 h2))]; omega
theorem paidH_neg (l : List Sh) (h : Sh) : paidH (l.map negS) h = - paidH l h := by
  induction l with
  | nil => rfl
  | cons x l ih =>
    simp only [List.map_cons, paidH, ih]
    have e : sameH (negS x) h ↔ sameH x h := Iff.rfl
    by_cases hc : sameH x h
    · rw [if_pos hc, if_pos (e.2 hc)]; show -x.paid + _ = _; omega
    · rw [if_neg hc, if_neg (fun h2 => hc (e.1 h2))]; omega

/-- In order, each heading once. -/
def AscS (l : List Sh) : Prop := l.Pairwise hLt
theorem sum_none {l : List Sh} {h : Sh} (hn : ∀ x ∈ l, ¬ sameH x h) : amtH l h = 0 ∧ paidH l h = 0 := by
  induction l with
  | nil => exact ⟨rfl, rfl⟩
  | cons x l ih =>
    obtain ⟨a, b⟩ := ih (fun y hy => hn y (by simp [hy]))
    simp only [amtH, paidH, if_neg (hn x (by simp)), a, b]; exact ⟨rfl, rfl⟩
theorem sum_mem {l : List Sh} (ha : AscS l) {x : Sh} (hx : x ∈ l) : amtH l x = x.amt ∧ paidH l x = x.paid := by
  induction l with
  | nil => simp at hx
  | cons y l ih =>
    unfold AscS at ha
    rw [List.pairwise_cons] at ha
    simp only [amtH, paidH]
    rcases List.mem_cons.1 hx with rfl | hx
    · have hs : sameH x x := ⟨rfl, rfl, rfl⟩
      obtain ⟨a, b⟩ := sum_none (l := l) (h := x) (fun z hz h2 => hLt_not (ha.1 z hz) (sameH_symm h2))
      rw [if_pos hs, if_pos hs, a, b]; omega
    · obtain ⟨a, b⟩ := ih ha.2 hx
      rw [if_neg (hLt_not (ha.1 x hx)), if_neg (hLt_not (ha.1 x hx)), a, b]; omega
def nzS (s : Sh) : Bool := decide (s.amt ≠ 0) || decide (s.paid ≠ 0)
theorem nzS_iff (s : Sh) : nzS s = true ↔ s.amt ≠ 0 ∨ s.paid ≠ 0 := by simp [nzS]
/-- Collected lists are told by their sums. -/
theorem col_ext {l l' : List Sh} (ha : AscS l) (ha' : AscS l') (hn : ∀ x ∈ l, nzS x = true) (hn' : ∀ x ∈ l', nzS x = true) (he : ∀ h, amtH l h = amtH l' h ∧ paidH l h = paidH l' h) : l = l' := by
  have sub : ∀ {l l' : List Sh}, AscS l → AscS l' → (∀ x ∈ l, nzS x = true) → (∀ h, amtH l h = amtH l' h ∧ paidH l h = paidH l' h) → ∀ x ∈ l, x ∈ l' := by
    intro l l' ha ha' hn he x hx
    obtain ⟨a, b⟩ := sum_mem ha hx
    have hz := (nzS_iff x).1 (hn x hx)
    obtain ⟨e1, e2⟩ := he x
    by_cases hex : ∃ y ∈ l', sameH y x
    · obtain ⟨y, hy, hs⟩ := hex
      obtain ⟨c, d⟩ := sum_mem ha' hy
      have hA : ∀ l : List Sh, amtH l y = amtH l x ∧ paidH l y = paidH l x := by
        intro l
        induction l with
        | nil => exact ⟨rfl, rfl⟩
        | cons z l ih =>
          have e : sameH z y ↔ sameH z x := ⟨fun h => sameH_trans h hs, fun h => sameH_trans h (sameH_symm hs)⟩
          simp only [amtH, paidH, ih.1, ih.2]
          by_cases hc : sameH z x
          · rw [if_pos hc, if_pos (e.2 hc), if_pos hc, if_pos (e.2 hc)]; exact ⟨rfl, rfl⟩
          · rw [if_neg hc, if_neg (fun h => hc (e.1 h)), if_neg hc, if_neg (fun h => hc (e.1 h))]; exact ⟨rfl, rfl⟩
      obtain ⟨f, g⟩ := hA l'
      have : x = y := by
        obtain ⟨x1, x2, x3, x4, x5⟩ := x
        obtain ⟨y1, y2, y3, y4, y5⟩ := y
        obtain ⟨h1, h2, h3⟩ := hs
        simp only [Sh.mk.injEq] at *
        omega
      rw [this]; exact hy
    · obtain ⟨c, d⟩ := sum_none (l := l') (h := x) (fun y hy hs => hex ⟨y, hy, hs⟩)
      omega
  have nd : ∀ {l : List Sh}, AscS l → l.Nodup := fun h => h.imp (fun hab e => by subst e; exact hLt_not hab ⟨rfl, rfl, rfl⟩)
  refine List.Perm.eq_of_pairwise (le := hLt) (fun a b _ _ h1 h2 => absurd (hLt_trans h1 h2) (fun h => hLt_not h ⟨rfl, rfl, rfl⟩)) ha ha' ((List.perm_ext_iff_of_nodup (nd ha) (nd ha')).2 fun x => ⟨sub ha ha' hn he x, sub ha' ha hn' (fun h => ⟨(he h).1.symm, (he h).2.symm⟩) x⟩)

/-- Into a list in order, added to what is there. -/
def insS : List Sh → Sh → List Sh
  | [], s => [s]
  | x :: l, s => if hLt x s then x :: insS l s else if sameH x s then ⟨x.loss, x.treaty, x.party, x.amt + s.amt, x.paid + s.paid⟩ :: l else s :: x :: l
theorem insS_sum (l : List Sh) (s h : Sh) : amtH (insS l s) h = amtH l h + (if sameH s h then s.amt else 0) ∧ paidH (insS l s) h = paidH l h + (if sameH s h then s.paid else 0) := by
  induction l with
  | nil => simp [insS, amtH, paidH]
  | cons x l ih =>
    unfold insS
    split
    · simp only [amtH, paidH, ih.1, ih.2]; omega
    · split
      · rename_i h1 h2
        have e : sameH (⟨x.loss, x.treaty, x.party, x.amt + s.amt, x.paid + s.paid⟩ : Sh) h ↔ sameH x h := Iff.rfl
        have e2 : sameH s h ↔ sameH x h := ⟨fun h3 => sameH_trans h2 h3, fun h3 => sameH_trans (sameH_symm h2) h3⟩
        simp only [amtH, paidH]
        by_cases hc : sameH x h
        · rw [if_pos (e.2 hc), if_pos (e.2 hc), if_pos hc, if_pos hc, if_pos (e2.2 hc), if_pos (e2.2 hc)]; omega
        · rw [if_neg (fun h3 => hc (e.1 h3)), if_neg (fun h3 => hc (e.1 h3)), if_neg hc, if_neg hc, if_neg (fun h3 => hc (e2.1 h3)), if_neg (fun h3 => hc (e2.1 h3))]; omega
      · simp only [amtH, paidH]; omega
theorem insS_low {l : List Sh} {s y : Sh} (h : ∀ x ∈ l, hLt y x) (hs : hLt y s) : ∀ x ∈ insS l s, hLt y x := by
  induction l with
  | nil => intro x hx; obtain rfl : x = s := by simpa [insS] using hx
           exact hs
  | cons z l ih =>
    intro x hx
    unfold insS at hx
    split at hx
    · rcases List.mem_cons.1 hx with rfl | hx
      · exact h x (by simp)
      · exact ih (fun w hw => h w (by simp [hw])) x hx
    · split at hx
      · rcases List.mem_cons.1 hx with rfl | hx
        · exact h z (by simp)
        · exact h x (by simp [hx])
      · rcases List.mem_cons.1 hx with rfl | hx
        · exact hs
        · exact h x hx
theorem insS_asc {l : List Sh} (h : AscS l) (s : Sh) : AscS (insS l s) := by
  unfold AscS at *
  induction l with
  | nil => simp [insS]
  | cons x l ih =>
    rw [List.pairwise_cons] at h
    unfold insS
    split
    · rename_i h1
      exact List.pairwise_cons.2 ⟨insS_low h.1 h1, ih h.2⟩
    · split
      · exact List.pairwise_cons.2 ⟨fun y hy => h.1 y hy, h.2⟩
      · rename_i h1 h2
        have h3 : hLt s x := by rcases hLt_tri x s with h3 | h3 | h3
                                · exact absurd h3 h1
                                · exact absurd h3 h2
                                · exact h3
        refine List.pairwise_cons.2 ⟨fun y hy => ?_, List.pairwise_cons.2 h⟩
        rcases List.mem_cons.1 hy with rfl | hy
        · exact h3
        · exact hLt_trans h3 (h.1 y hy)
def sumsS (l : List Sh) : List Sh := l.foldl insS []
theorem sumsS_from (ws : List Sh) : ∀ l : List Sh, AscS l → AscS (ws.foldl insS l) ∧ ∀ h, amtH (ws.foldl insS l) h = amtH l h + amtH ws h ∧ paidH (ws.foldl insS l) h = paidH l h + paidH ws h := by
  induction ws with
  | nil => intro l h; exact ⟨h, fun x => by simp [amtH, paidH]⟩
  | cons w ws ih =>
    intro l h
    obtain ⟨h1, h2⟩ := ih (insS l w) (insS_asc h w)
    refine ⟨h1, fun x => ?_⟩
    obtain ⟨a, b⟩ := h2 x
    obtain ⟨c, d⟩ := insS_sum l w x
    rw [List.foldl_cons, a, b, c, d]
    simp only [amtH, paidH]; omega
theorem sumsS_asc (l : List Sh) : AscS (sumsS l) := (sumsS_from l [] List.Pairwise.nil).1
theorem sumsS_sum (l : List Sh) (h : Sh) : amtH (sumsS l) h = amtH l h ∧ paidH (sumsS l) h = paidH l h := by
  obtain ⟨a, b⟩ := (sumsS_from l [] List.Pairwise.nil).2 h
  unfold sumsS
  rw [a, b]; simp [amtH, paidH]
theorem filter_sum {l : List Sh} (h : Sh) : amtH (l.filter nzS) h = amtH l h ∧ paidH (l.filter nzS) h = paidH l h := by
  induction l with
  | nil => exact ⟨rfl, rfl⟩
  | cons x l ih =>
    by_cases hz : nzS x = true
    · rw [List.filter_cons_of_pos hz]; simp only [amtH, paidH, ih.1, ih.2]; exact ⟨by trivial, by trivial⟩
    · rw [List.filter_cons_of_neg hz]
      have e : x.amt = 0 ∧ x.paid = 0 := by
        have := (fun h2 => hz ((nzS_iff x).2 h2))
        exact ⟨Classical.byContradiction fun h3 => this (.inl h3), Classical.byContradiction fun h3 => this (.inr h3)⟩
      simp only [amtH, paidH, ih.1, ih.2, e.1, e.2, ite_self]; omega
/-- The collected shares. -/
def colF (l : List Sh) : List Sh := (sumsS l).filter nzS
theorem colF_asc (l : List Sh) : AscS (colF l) := (sumsS_asc l).sublist List.filter_sublist
theorem colF_nz (l : List Sh) : ∀ x ∈ colF l, nzS x = true := fun x hx => (List.mem_filter.1 hx).2
theorem colF_sum (l : List Sh) (h : Sh) : amtH (colF l) h = amtH l h ∧ paidH (colF l) h = paidH l h := by
  obtain ⟨a, b⟩ := filter_sum (l := sumsS l) h
  obtain ⟨c, d⟩ := sumsS_sum l h
  unfold colF; rw [a, b, c, d]; exact ⟨rfl, rfl⟩
theorem colF_eq {l l' : List Sh} (h : ∀ x, amtH l x = amtH l' x ∧ paidH l x = paidH l' x) : colF l = colF l' :=
  col_ext (colF_asc l) (colF_asc l') (colF_nz l) (colF_nz l') fun x => by
    obtain ⟨a, b⟩ := colF_sum l x
    obtain ⟨c, d⟩ := colF_sum l' x
    obtain ⟨e, f⟩ := h x
    omega
/-- Whatever is in order, has no share that is nothing, and has the sums, is the collected list. -/
theorem colF_of {l q : List Sh} (ha : AscS q) (hn : ∀ x ∈ q, nzS x = true) (hs : ∀ h, amtH q h = amtH l h ∧ paidH q h = paidH l h) : q = colF l :=
  col_ext ha (colF_asc l) hn (colF_nz l) fun h => by
    obtain ⟨a, b⟩ := colF_sum l h
    obtain ⟨c, d⟩ := hs h
    omega
def diffF (a b : List Sh) : List Sh := colF (b ++ a.map negS)
def applyF (a d : List Sh) : List Sh := colF (a ++ d)
/-- RestateBack. -/
theorem back (a b : List Sh) : applyF a (diffF a b) = colF b := by
  unfold applyF diffF
  refine colF_eq fun x => ?_
  obtain ⟨c, d⟩ := colF_sum (b ++ a.map negS) x
  rw [amtH_append, paidH_append, c, d, amtH_append, paidH_append, amtH_neg, paidH_neg]; omega
/-- RestateChain. -/
theorem chain (a b c : List Sh) : applyF (diffF a b) (diffF b c) = diffF a c ∧ applyF (diffF b c) (diffF a b) = diffF a c := by
  unfold applyF diffF
  constructor
  · refine colF_eq fun x => ?_
    obtain ⟨e, f⟩ := colF_sum (b ++ a.map negS) x
    obtain ⟨g, h⟩ := colF_sum (c ++ b.map negS) x
    rw [amtH_append, paidH_append, e, f, g, h]
    simp only [amtH_append, paidH_append, amtH_neg, paidH_neg]; omega
  · refine colF_eq fun x => ?_
    obtain ⟨e, f⟩ := colF_sum (b ++ a.map negS) x
    obtain ⟨g, h⟩ := colF_sum (c ++ b.map negS) x
    rw [amtH_append, paidH_append, e, f, g, h]
    simp only [amtH_append, paidH_append, amtH_neg, paidH_neg]; omega
theorem sum_reverse (l : List Sh) (x : Sh) : amtH l.reverse x = amtH l x ∧ paidH l.reverse x = paidH l x := by
  induction l with
  | nil => exact ⟨rfl, rfl⟩
  | cons y l ih =>
    rw [List.reverse_cons, amtH_append, paidH_append, ih.1, ih.2]
    simp only [amtH, paidH]; omega
/-- RestateNothing. -/
theorem nothing (l : List Sh) : diffF l l.reverse = [] := by
  unfold diffF
  have : colF (l.reverse ++ l.map negS) = colF [] := colF_eq fun x => by
    obtain ⟨a, b⟩ := sum_reverse l x
    rw [amtH_append, paidH_append, a, b, amtH_neg, paidH_neg]
    simp only [amtH, paidH]; omega
  rw [this]; rfl

end Go.Proofs.Ytpmiafnccjejnaa
