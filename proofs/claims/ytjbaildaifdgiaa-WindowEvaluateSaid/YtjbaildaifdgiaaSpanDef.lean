/-
  The reference's way to the same values, in plain Lean: every span is looked at.
-/
import Derived.Test.YtjbaildaifdgiaaValDef
namespace Go.Proofs.Ytjbaildaifdgiaa
open Go.RowKit

/-- The amount of cnt points from index k on. -/
def sumT (ps : List P2) (k cnt : Nat) : Int := sumB ((ps.drop k).take cnt)
theorem sumB_append (a b : List P2) : sumB (a ++ b) = sumB a + sumB b := by
  induction a with
  | nil => simp [sumB]
  | cons p a ih => simp only [List.cons_append, sumB, ih]; omega
theorem sumT_zero (ps : List P2) (k : Nat) : sumT ps k 0 = 0 := by simp [sumT, sumB]
theorem sumT_cons {ps : List P2} {k : Nat} {q : P2} (hd : ps.drop k = q :: ps.drop (k + 1)) (cnt : Nat) : sumT ps k (cnt + 1) = q.b + sumT ps (k + 1) cnt := by
  unfold sumT; rw [hd, List.take_succ_cons, sumB]
theorem sumT_snoc {ps : List P2} {m j : Nat} {q : P2} (hm : m ≤ j) (hq : ps[j]? = some q) : sumT ps m (j - m + 1) = sumT ps m (j - m) + q.b := by
  unfold sumT
  have h : (ps.drop m)[j - m]? = some q := by rw [List.getElem?_drop]; rw [show m + (j - m) = j by omega]; exact hq
  have hl : j - m < (ps.drop m).length := (List.getElem?_eq_some_iff.1 h).1
  have hg : (ps.drop m)[j - m] = q := (List.getElem?_eq_some_iff.1 h).2
  rw [List.take_succ_eq_append_getElem hl, sumB_append, hg]
  simp [sumB]
theorem sumT_bd {ps : List P2} (hp : ∀ p ∈ ps, ptOk p = true) (k cnt : Nat) : 0 ≤ sumT ps k cnt ∧ sumT ps k cnt ≤ sumB ps := by
  have h1 : 0 ≤ sumT ps k cnt := sumB_nonneg fun u hu => hp u (List.mem_of_mem_drop (List.mem_of_mem_take hu))
  refine ⟨h1, ?_⟩
  have h2 : sumB (ps.drop k) = sumT ps k cnt + sumB ((ps.drop k).drop cnt) := by
    unfold sumT; rw [← sumB_append, List.take_append_drop]
  have h3 : 0 ≤ sumB ((ps.drop k).drop cnt) := sumB_nonneg fun u hu => hp u (List.mem_of_mem_drop (List.mem_of_mem_drop hu))
  have h4 := sumB_drop_le hp k
  omega

def scanR (L : Int) (ls : List P2) (h0 : Int) : List P2 → List Int → Int → Int → Int
  | q :: qs, v :: vs, tot, best => scanR L ls h0 qs vs (tot + q.b) (if L ≤ q.a - h0 then best else imax best (recVal (tot + q.b) ls + v))
  | _, _, _, best => best
theorem scanR_nil (L : Int) (ls : List P2) (h0 : Int) (vs : List Int) (t b : Int) : scanR L ls h0 [] vs t b = b := by simp [scanR]
theorem scanR_far (L : Int) (ls : List P2) (h0 : Int) : ∀ (qs : List P2) (vs : List Int) (t b : Int), (∀ q ∈ qs, L ≤ q.a - h0) → scanR L ls h0 qs vs t b = b := by
  intro qs
  induction qs with
  | nil => intro vs t b _; exact scanR_nil ..
  | cons q qs ih =>
    intro vs t b h
    cases vs with
    | nil => simp [scanR]
    | cons v vs => rw [scanR, if_pos (h q (by simp))]; exact ih _ _ _ fun u hu => h u (by simp [hu])
theorem Asc.gt : ∀ {ps : List P2} {x : Int}, Asc (some x) ps → ∀ q ∈ ps, x < q.a := by
  intro ps
  induction ps with
  | nil => intro x _ q hq; simp at hq
  | cons p ps ih =>
    intro x h q hq
    have h1 := h.1 x rfl
    rcases List.mem_cons.1 hq with rfl | hq
    · exact h1
    · have := ih h.2 q hq; omega
theorem scanR_eq (L : Int) (ls : List P2) (h0 : Int) : ∀ (qs : List P2) (h : Option Int) (vs : List Int) (t b : Int), Asc h qs → scanR L ls h0 qs vs t b = scan L ls h0 qs vs t b := by
  intro qs
  induction qs with
  | nil => intro h vs t b _; rw [scanR_nil, scan_nil]
  | cons q qs ih =>
    intro h vs t b ha
    cases vs with
    | nil => simp [scanR, scan]
    | cons v vs =>
      rw [scanR, scan]
      split
      · rename_i hle
        exact scanR_far _ _ _ _ _ _ _ fun u hu => by have := Asc.gt ha.2 u hu; omega
      · exact ih _ _ _ _ ha.2
theorem Asc.drop {ps : List P2} {h : Option Int} (ha : Asc h ps) : ∀ j, ∃ h', Asc h' (ps.drop j) := by
  induction ps generalizing h with
  | nil => intro j; exact ⟨none, by simp [Asc]⟩
  | cons p ps ih =>
    intro j
    cases j with
    | zero => exact ⟨h, ha⟩
    | succ j => simpa using ih ha.2 j

section
variable {L : Int} {ls ps : List P2} {h0 : Int}
theorem scanR_step {j : Nat} {q : P2} {t b r : Int} (hd : ps.drop j = q :: ps.drop (j + 1)) (h : scanR L ls h0 (ps.drop j) (valsF L ls (ps.drop (j + 1))) t b = r) :
    scanR L ls h0 (ps.drop (j + 1)) (valsF L ls (ps.drop (j + 2))) (t + q.b) (if L ≤ q.a - h0 then b else imax b (recVal (t + q.b) ls + valAt L ls ps (j + 1))) = r := by
  rw [hd, valsF_split, scanR] at h
  rw [← h]
  show _ = scanR _ _ _ _ _ _ (if L ≤ q.a - h0 then b else imax b (recVal (t + q.b) ls + hdI (valsF L ls (ps.drop (j + 1)))))
  rcases hc : ps.drop (j + 1) with _ | ⟨q', qs⟩
  · rw [scanR_nil, scanR_nil]; simp [valAt, hc]
  · have : ps.drop (j + 2) = qs := by
      have h2 := congrArg List.tail hc
      simpa [List.tail_drop] using h2
    rw [this]
    simp [valsF, valAt, hc]
theorem scanR_yes {j : Nat} {q : P2} {t b r : Int} (hd : ps.drop j = q :: ps.drop (j + 1)) (h : scanR L ls h0 (ps.drop j) (valsF L ls (ps.drop (j + 1))) t b = r) (hlt : q.a - h0 < L) :
    scanR L ls h0 (ps.drop (j + 1)) (valsF L ls (ps.drop (j + 2))) (t + q.b) (imax b (recVal (t + q.b) ls + valAt L ls ps (j + 1))) = r := by
  have := scanR_step hd h; rwa [if_neg (by omega)] at this
theorem scanR_no {j : Nat} {q : P2} {t b r : Int} (hd : ps.drop j = q :: ps.drop (j + 1)) (h : scanR L ls h0 (ps.drop j) (valsF L ls (ps.drop (j + 1))) t b = r) (hle : L ≤ q.a - h0) :
    scanR L ls h0 (ps.drop (j + 1)) (valsF L ls (ps.drop (j + 2))) (t + q.b) b = r := by
  have := scanR_step hd h; rwa [if_pos hle] at this
theorem scanR_end {t b r : Int} {vs : List Int} (h : scanR L ls h0 (ps.drop ps.length) vs t b = r) : r = b := by
  rw [List.drop_length, scanR_nil] at h; exact h.symm
theorem scanR_start {m : Nat} {p : P2} (ha : Asc none ps) (hd : ps.drop m = p :: ps.drop (m + 1)) : scanR L ls p.a (ps.drop m) (valsF L ls (ps.drop (m + 1))) (sumT ps m (m - m)) (valAt L ls ps (m + 1)) = valAt L ls ps m := by
  obtain ⟨h', ha'⟩ := Asc.drop ha m
  rw [Nat.sub_self, sumT_zero, scanR_eq _ _ _ _ h' _ _ _ ha']
  exact scan_start hd
end

end Go.Proofs.Ytjbaildaifdgiaa
