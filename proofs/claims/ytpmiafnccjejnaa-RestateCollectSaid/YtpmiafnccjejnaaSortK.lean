/-
  Rows of structs of a call's own behind the library's sort by a function.
-/
import Derived.Test.YtpmiafnccjejnaaSortW
import Derived.Shelf.SlSortCmp.WholeK
import Derived.Shelf.SlSortCmp.NoneTotal
namespace Go.Proofs.Ytpmiafnccjejnaa
open Go.RowKit Go.Sort
set_option linter.unusedVariables false

section
variable {α : Type} [Inhabited α] {enc : α → List Value} {k : Nat}

theorem flatK_list (hk : ∀ x, (enc x).length = k) (hk0 : 0 < k) (ys : List α) : (flatK enc k ys.toArray).toList = ys.flatMap enc := by
  apply List.ext_getElem?
  intro t
  by_cases ht : t < ys.length * k
  · have hi : t / k < ys.length := Nat.div_lt_of_lt_mul (by rw [Nat.mul_comm]; exact ht)
    have hm := Nat.mod_lt t hk0
    have hf := flat_get enc k hk ys (t / k) ys[t / k] (List.getElem?_eq_getElem hi) (t % k) hm
    rw [Nat.div_add_mod'] at hf
    rw [hf]
    have h1 : t < (flatK enc k ys.toArray).size := by simpa using ht
    have h2 : t % k < (enc ys[t / k]).length := by rw [hk]; exact hm
    have h3 := get_flatK enc k ys.toArray t (by simpa using ht)
    rw [getElem!_pos (flatK enc k ys.toArray) t h1] at h3
    rw [Array.getElem?_toList, Array.getElem?_eq_getElem h1, h3]
    simp only [List.getElem!_toArray]
    rw [getElem!_pos ys _ hi, getElem!_pos (enc ys[t / k]) (t % k) h2, List.getElem?_eq_getElem h2]
  · rw [List.getElem?_eq_none (by simp; omega), List.getElem?_eq_none (by rw [flat_len enc k hk]; omega)]
theorem holdsK_of_own (hk : ∀ x, (enc x).length = k) (hk0 : 0 < k) {w : World} {base g n cap : Nat} {e : TypeId} {zs : List α} (h : w.ownsRow base e k (.slice (some ⟨g, 0, none⟩) n cap) n (zs.flatMap enc)) (hn : n = zs.length) : HoldsK enc k w g 0 zs.toArray := by
  subst hn
  intro j hj
  have hj' : j < zs.length * k := by simpa using hj
  refine ⟨?_, by rw [Nat.zero_add]; exact h.frozenAt j⟩
  rw [Nat.zero_add, h.cellAt j (by omega), ← flatK_list hk hk0, Array.getElem?_toList, Array.getElem?_eq_getElem hj, getElem!_pos (flatK enc k zs.toArray) j hj]
  rfl
theorem own_sortK (hk : ∀ x, (enc x).length = k) (hk0 : 0 < k) {w : World} {base g n cap q : Nat} {e : TypeId} {xs : List Value} (h : w.ownsRow base e k (.slice (some ⟨g, 0, none⟩) n cap) n xs) (ys : List α) (hy : ys.length = n) :
    (putRowK enc k (Sort.ahead w q) g 0 ys.toArray).ownsRow base e k (.slice (some ⟨g, 0, none⟩) n cap) n (ys.flatMap enc) := by
  rcases h.2 with ⟨hv, _⟩ | ⟨g', cap', cur, hv, hb, hh, hnc, hcm, hsz, ht⟩
  · injection hv with h1; cases h1
  obtain ⟨rfl, rfl⟩ : g = g' ∧ cap = cap' := by injection hv with h1 h2 h3; injection h1 with h1; injection h1 with h1; exact ⟨h1, h3⟩
  have hle : n * k ≤ cap * k := Nat.mul_le_mul_right k hnc
  refine ⟨by rw [flat_len enc k hk, hy], .inr ⟨g, cap, putCells id 0 (flatK enc k ys.toArray) cur, rfl, hb, ?_, hnc, hcm, by simp [putCells, hsz], ?_⟩⟩
  · unfold putRowK; rw [heap_putRow, if_pos rfl, hh]; rfl
  · rw [← flatK_list hk hk0]
    apply List.ext_getElem?
    intro i
    by_cases hi : i < n * k
    · rw [List.getElem?_take_of_lt hi]
      have hi1 : i < cur.size := by omega
      have hi2 : i < (flatK enc k ys.toArray).size := by simp [hy]; exact hi
      have hi3 : i < ys.length * k := by rw [hy]; exact hi
      simp [putCells, hi1, hi3, getElem!_pos]
    · rw [List.getElem?_eq_none (by simp; omega), List.getElem?_eq_none (by simp [hy]; omega)]
theorem sorted_list {lt : α → α → Bool} {ds : List α} {d' : Array α} (hp : PermIn 0 ds.toArray.size ds.toArray d') (hs : SortedIn lt 0 ds.toArray.size d') : d'.toList.Perm ds ∧ d'.toList.Pairwise (fun a b => lt b a = false) := by
  obtain ⟨h1, _, h3⟩ := hp
  have e1 : (d'.extract 0 ds.toArray.size) = d' := by rw [← h1]; simp
  have e2 : (ds.toArray.extract 0 ds.toArray.size).toList = ds := by simp
  rw [e1, e2] at h3
  refine ⟨h3, List.pairwise_iff_getElem.2 fun i j hi hj hij => ?_⟩
  have hi' : i < d'.size := by simpa using hi
  have hj' : j < d'.size := by simpa using hj
  have := hs i j (Nat.zero_le _) hij (by rw [← h1]; exact hj')
  rw [getElem!_pos d' i hi', getElem!_pos d' j hj'] at this
  simpa using this
end

end Go.Proofs.Ytpmiafnccjejnaa
