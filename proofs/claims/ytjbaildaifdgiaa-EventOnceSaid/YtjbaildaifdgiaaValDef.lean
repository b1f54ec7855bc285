/-
  The greatest recoveries of the points from each index on, in plain Lean.
-/
import Derived.Test.YtjbaildaifdgiaaChkDef
namespace Go.Proofs.Ytjbaildaifdgiaa
open Go.RowKit

def hdI : List Int → Int
  | [] => 0
  | v :: _ => v
/-- The best of the spans that begin at the hour h0: the points left, the values behind each of them, the amount so far, the best so far. -/
def scan (L : Int) (ls : List P2) (h0 : Int) : List P2 → List Int → Int → Int → Int
  | q :: qs, v :: vs, tot, best => if L ≤ q.a - h0 then best else scan L ls h0 qs vs (tot + q.b) (imax best (recVal (tot + q.b) ls + v))
  | _, _, _, best => best
def valsF (L : Int) (ls : List P2) : List P2 → List Int
  | [] => [0]
  | p :: ps => scan L ls p.a (p :: ps) (valsF L ls ps) 0 (hdI (valsF L ls ps)) :: valsF L ls ps
def valAt (L : Int) (ls ps : List P2) (j : Nat) : Int := hdI (valsF L ls (ps.drop j))
def valuesF (ps : List P2) (L : Int) (ls : List P2) : List Int := if chkErr ps L ls = 0 then valsF L ls ps else []

theorem valsF_length (L : Int) (ls ps : List P2) : (valsF L ls ps).length = ps.length + 1 := by
  induction ps with
  | nil => rfl
  | cons p ps ih => simp [valsF, ih]
theorem valsF_get (L : Int) (ls : List P2) : ∀ (ps : List P2) (j : Nat), j ≤ ps.length → (valsF L ls ps)[j]? = some (valAt L ls ps j) := by
  intro ps
  induction ps with
  | nil => intro j hj; obtain rfl : j = 0 := by simpa using hj
           rfl
  | cons p ps ih =>
    intro j hj
    cases j with
    | zero => simp [valsF, valAt, hdI]
    | succ j =>
      have := ih j (by simpa using hj)
      simpa [valsF, valAt] using this
theorem valAt_end (L : Int) (ls ps : List P2) : valAt L ls ps ps.length = 0 := by simp [valAt, valsF, hdI]
theorem valsF_split (L : Int) (ls ps : List P2) : valsF L ls ps = hdI (valsF L ls ps) :: (valsF L ls ps).tail := by
  cases ps <;> simp [valsF, hdI]
theorem scan_nil (L : Int) (ls : List P2) (h0 : Int) (vs : List Int) (t b : Int) : scan L ls h0 [] vs t b = b := by simp [scan]

section
variable {L : Int} {ls ps : List P2} {h0 : Int}
theorem scan_step {j : Nat} {q : P2} {t b r : Int} (hd : ps.drop j = q :: ps.drop (j + 1)) (h : scan L ls h0 (ps.drop j) (valsF L ls (ps.drop (j + 1))) t b = r) (hlt : q.a - h0 < L) :
    scan L ls h0 (ps.drop (j + 1)) (valsF L ls (ps.drop (j + 2))) (t + q.b) (imax b (recVal (t + q.b) ls + valAt L ls ps (j + 1))) = r := by
  rw [hd, valsF_split, scan, if_neg (by omega)] at h
  rw [← h]
  show _ = scan _ _ _ _ _ _ (imax b (recVal (t + q.b) ls + hdI (valsF L ls (ps.drop (j + 1)))))
  rcases hc : ps.drop (j + 1) with _ | ⟨q', qs⟩
  · rw [scan_nil, scan_nil]; simp [valAt, hc]
  · have : ps.drop (j + 2) = qs := by
      have h2 := congrArg List.tail hc
      simpa [List.tail_drop] using h2
    rw [this]
    simp [valsF, valAt, hc]
theorem scan_break {j : Nat} {q : P2} {t b r : Int} (hd : ps.drop j = q :: ps.drop (j + 1)) (h : scan L ls h0 (ps.drop j) (valsF L ls (ps.drop (j + 1))) t b = r) (hle : L ≤ q.a - h0) : r = b := by
  rw [hd, valsF_split, scan, if_pos hle] at h
  exact h.symm
theorem scan_end {t b r : Int} {vs : List Int} (h : scan L ls h0 (ps.drop ps.length) vs t b = r) : r = b := by
  rw [List.drop_length, scan_nil] at h; exact h.symm
theorem scan_start {m : Nat} {p : P2} (hd : ps.drop m = p :: ps.drop (m + 1)) : scan L ls p.a (ps.drop m) (valsF L ls (ps.drop (m + 1))) 0 (valAt L ls ps (m + 1)) = valAt L ls ps m := by
  rw [valAt, valAt, hd, valsF]; rfl
end

/-! ### What the acceptance gives -/
def sumB : List P2 → Int
  | [] => 0
  | p :: ps => p.b + sumB ps
theorem sumB_nonneg {ps : List P2} (h : ∀ p ∈ ps, ptOk p = true) : 0 ≤ sumB ps := by
  induction ps with
  | nil => simp [sumB]
  | cons p ps ih =>
    have h1 := (ptOk_iff p).1 (h p (by simp))
    have h2 := ih (fun q hq => h q (by simp [hq]))
    simp only [sumB]; omega
def Asc : Option Int → List P2 → Prop
  | _, [] => True
  | h, p :: ps => (∀ x, h = some x → x < p.a) ∧ Asc (some p.a) ps
theorem chkLoop_ok : ∀ (ps : List P2) (h : Option Int) (s : Int), chkLoop h ps s = 0 → (∀ p ∈ ps, ptOk p = true) ∧ s + sumB ps ≤ 17592186044416 ∧ Asc h ps := by
  intro ps
  induction ps with
  | nil =>
    intro h s hs
    simp only [chkLoop] at hs
    split at hs
    · omega
    · exact ⟨by simp, by simp only [sumB]; omega, trivial⟩
  | cons p ps ih =>
    intro h s hs
    simp only [chkLoop] at hs
    split at hs
    · omega
    · rename_i h1
      split at hs
      · omega
      · rename_i h2
        obtain ⟨g1, g2, g3⟩ := ih _ _ hs
        have hp : ptOk p = true := by simpa using h1
        refine ⟨fun q hq => ?_, by simp only [sumB]; omega, fun x hx => ?_, g3⟩
        · rcases List.mem_cons.1 hq with rfl | hq
          · exact hp
          · exact g1 q hq
        · subst hx
          have : ¬ p.a ≤ x := by simpa using h2
          omega
structure Good (ps : List P2) (L : Int) (ls : List P2) : Prop where
  len : ps.length ≤ 64
  pt : ∀ p ∈ ps, ptOk p = true
  sum : sumB ps ≤ 17592186044416
  asc : Asc none ps
  l1 : 1 ≤ L
  l2 : L ≤ 8784
  ls0 : ls.length ≠ 0
  ls12 : ls.length ≤ 12
  lay : ls.all okLay = true
theorem recErr_ok {t : Int} {ls : List P2} (h : recErr t ls = 0) : ls.length ≠ 0 ∧ ls.length ≤ 12 ∧ ls.all okLay = true := by
  unfold recErr at h
  split at h
  · omega
  · rename_i h1
    split at h
    · omega
    · rename_i h2
      exact ⟨by omega, by omega, by simpa using h2⟩
theorem good_of {ps : List P2} {L : Int} {ls : List P2} (h : chkErr ps L ls = 0) : Good ps L ls := by
  unfold chkErr at h
  split at h
  · rename_i h1; exact absurd h h1
  · rename_i h1
    obtain ⟨e0, e1, e2⟩ := recErr_ok (t := 0) (ls := ls) (by simpa using h1)
    split at h
    · omega
    · rename_i h2
      split at h
      · omega
      · rename_i h3
        obtain ⟨g1, g2, g3⟩ := chkLoop_ok _ _ _ h
        exact ⟨by omega, g1, by omega, g3, by omega, by omega, e0, e1, e2⟩
theorem Good.rec0 {ps : List P2} {L : Int} {ls : List P2} (h : Good ps L ls) {t : Int} (h0 : 0 ≤ t) (h1 : t ≤ 17592186044416) : recErr t ls = 0 ∧ recVal t ls = sumL t ls :=
  rec_ok (by have := h.ls0; have := h.ls12; omega) h.lay (by omega)
theorem recVal_bd (t : Int) (ls : List P2) : 0 ≤ recVal t ls ∧ recVal t ls ≤ 281474976710656 := by
  unfold recVal
  split
  · rename_i h
    have h2 := (recErr_ok h).2.1
    have := sumL_bd t ls
    omega
  · omega
theorem scan_bd (L : Int) (ls : List P2) (h0 M : Int) : ∀ (qs : List P2) (vs : List Int) (t b : Int), (∀ v ∈ vs, 0 ≤ v ∧ v ≤ M) → 0 ≤ b → b ≤ M + 281474976710656 → 0 ≤ scan L ls h0 qs vs t b ∧ scan L ls h0 qs vs t b ≤ M + 281474976710656 := by
  intro qs
  induction qs with
  | nil => intro vs t b _ h1 h2; rw [scan_nil]; exact ⟨h1, h2⟩
  | cons q qs ih =>
    intro vs t b hv h1 h2
    cases vs with
    | nil => simp only [scan]; exact ⟨h1, h2⟩
    | cons v vs =>
      simp only [scan]
      split
      · exact ⟨h1, h2⟩
      · have hb := recVal_bd (t + q.b) ls
        have hvv := hv v (by simp)
        refine ih vs _ _ (fun u hu => hv u (by simp [hu])) ?_ ?_ <;> (unfold imax; split <;> omega)
theorem valsF_bd (L : Int) (ls : List P2) : ∀ ps : List P2, ∀ v ∈ valsF L ls ps, 0 ≤ v ∧ v ≤ 281474976710656 * ps.length := by
  intro ps
  induction ps with
  | nil => intro v hv; simp [valsF] at hv; subst hv; simp
  | cons p ps ih =>
    intro v hv
    have hh : ∀ u ∈ valsF L ls ps, 0 ≤ u ∧ u ≤ 281474976710656 * (ps.length : Int) := ih
    have hd : 0 ≤ hdI (valsF L ls ps) ∧ hdI (valsF L ls ps) ≤ 281474976710656 * (ps.length : Int) := by
      apply ih; rw [valsF_split]; exact List.mem_cons_self
    simp only [valsF, List.mem_cons] at hv
    simp only [List.length_cons]
    rcases hv with rfl | hv
    · have := scan_bd L ls p.a (281474976710656 * (ps.length : Int)) (p :: ps) (valsF L ls ps) 0 (hdI (valsF L ls ps)) hh hd.1 (by omega)
      omega
    · have := ih v hv; omega
theorem valAt_bd (L : Int) (ls ps : List P2) (j : Nat) : 0 ≤ valAt L ls ps j ∧ valAt L ls ps j ≤ 281474976710656 * ps.length := by
  have := valsF_bd L ls (ps.drop j) (valAt L ls ps j) (by unfold valAt; rw [valsF_split]; exact List.mem_cons_self)
  have hl : (ps.drop j).length ≤ ps.length := by simp
  omega
theorem sumB_drop {ps : List P2} {j : Nat} {q : P2} {t : Int} (hd : ps.drop j = q :: ps.drop (j + 1)) (h : t + sumB (ps.drop j) ≤ 17592186044416) : (t + q.b) + sumB (ps.drop (j + 1)) ≤ 17592186044416 := by
  rw [hd, sumB] at h; omega
theorem sumB_drop_le {ps : List P2} (hp : ∀ p ∈ ps, ptOk p = true) (j : Nat) : sumB (ps.drop j) ≤ sumB ps := by
  induction ps generalizing j with
  | nil => simp
  | cons p ps ih =>
    cases j with
    | zero => simp
    | succ j =>
      have h1 := (ptOk_iff p).1 (hp p (by simp))
      have h2 := ih (fun q hq => hp q (by simp [hq])) j
      simp only [List.drop_succ_cons, sumB]; omega

end Go.Proofs.Ytjbaildaifdgiaa
