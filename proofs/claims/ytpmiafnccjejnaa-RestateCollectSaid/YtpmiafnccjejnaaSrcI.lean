/-
  append of ints that may be nil, within regions that draw their order; where an int goes into an ascending list.
-/
import Derived.Test.YtpmiafnccjejnaaAscI
import Derived.Test.YtpmiafnccjejnaaOwn
import Derived.Test.YtpmiafnccjejnaaSortW
import Derived.Deep.RegionLaw
import Derived.Laws.OwnMore
namespace Go.Proofs.Ytpmiafnccjejnaa
open Go.RowKit
set_option linter.unusedVariables false

theorem insI_skip {xs : List Int} {k : Nat} {x n : Int} (hd : xs.drop k = x :: xs.drop (k + 1)) (hx : xs[k]? = some x) (h : x < n) (r : List Int) (he : r = xs.take k ++ insI (xs.drop k) n) : r = xs.take (k + 1) ++ insI (xs.drop (k + 1)) n := by
  rw [he, hd, insI, if_pos h, List.take_add_one, hx]; simp
theorem insI_stop {xs : List Int} {k : Nat} {x n : Int} (hd : xs.drop k = x :: xs.drop (k + 1)) (h : ¬ x < n) (r : List Int) (he : r = xs.take k ++ insI (xs.drop k) n) : r = if x = n then xs else xs.take k ++ (n :: xs.drop k) := by
  rw [he, hd, insI, if_neg h]
  split
  · rw [← hd, List.take_append_drop]
  · rfl
theorem insI_end {xs : List Int} {k : Nat} {n : Int} (hk : k = xs.length) (r : List Int) (he : r = xs.take k ++ insI (xs.drop k) n) : r = xs.take k ++ (n :: xs.drop k) := by
  rw [he, hk, List.drop_length]; rfl

/-- A source of an append: nil, or ints that lie at an address. -/
def Src (W : World) (X : Option Addr) (m c : Nat) (ys : List Int) : Prop :=
  (X = none ∧ m = 0 ∧ c = 0 ∧ ys = []) ∨ ∃ ad, X = some ad ∧ m = ys.length ∧ ∀ (j : Nat) (u : Value), (ys.flatMap V1)[j]? = some u → W.cell? (ad.add j) = some u
theorem step_append_src {P : Program} {w : World} {ops : Array Oper} {o : Oper} {a : Act} {K : Act → World → Prop} {Q : Exit → Act → World → Prop} {E : Prop} (hgd : o.guard = none) (s x : Operand) (t : TypeId)
    (ho : o.op = .call { callee := .builtin .append, args := #[s, x], argTypes := #[t, t] })
    (base : Nat) (e : TypeId) (i : TypeInfo) (z : Value) (ht : P.underlying t = some (.slice e)) (hi : P.info? e = some i) (hz : i.zero = some z)
    (hsize : i.size = 1) (hby : i.bytes = 8) (hzs : z.cells.size = 1)
    (v : Value) (n : Nat) (xs : List Value) (hs : a.eval s = v) (hown : w.ownsRow base e 1 v n xs)
    (X : Option Addr) (m c : Nat) (ys : List Int) (hx : a.eval x = .slice X m c) (hsrc : Src w X m c ys)
    (h63 : n + m ≤ 100000) (hbase : base ≤ w.heap.size)
    (h : ∀ v' w', w'.ownsRow base e 1 v' (n + m) (xs ++ ys.flatMap V1) → w.grownBy w' v.ownBlock → K (a.put o.dst v') w') :
    if Region.wanted o (yielded ops a.tmps) = true then Oper.wp P o a w K Q else E := by
  have hw : Region.wanted o (yielded ops a.tmps) = true := by simp [Region.wanted, hgd]
  rw [if_pos hw]
  rcases hsrc with ⟨rfl, rfl, rfl, rfl⟩ | ⟨ad, rfl, hm, hc⟩
  · have hrun := run_append_owned_none (P := P) (w := w) base t o.type e i 1 ht hi v n xs hown
    unfold Oper.wp
    simp [execOp, ho, resolve, invoke, builtin, hs, hx, hrun, Result.andThen]
    exact h v w (by simpa using hown) (World.grownBy.refl w _)
  · exact wp_append_own w s x t ho base e i z 1 8 ht hi hz hsize hby hzs (by omega) v n xs hs hown ad m c (ys.flatMap V1) hx (by rw [flat_V1, List.length_map]; omega) hc (fun u hu => by rw [flat_V1] at hu; obtain ⟨y, _, rfl⟩ := List.mem_map.1 hu; rfl) (by unfold maxLen; omega) (by omega) hbase fun v' w' h2 h3 _ => h v' w' h2 h3

theorem addr_at (b off j : Nat) : (({ block := b, off := off } : Addr).add j) = ⟨b, off + j, none⟩ := by
  unfold Addr.add; split
  · rename_i h; rw [h]; simp
  · rfl
theorem ints_at {W : World} {lo b off : Nat} {xs : List Int} (h : Ints W lo (some ⟨b, off, none⟩) xs) {j : Nat} {x : Int} (hx : xs[j]? = some x) : W.cell? ⟨b, off + j, none⟩ = some (.int .i64 x) := by
  obtain ⟨b', off', e, _, _, hc⟩ := h.at_ hx
  obtain ⟨rfl, rfl⟩ : b = b' ∧ off = off' := by simpa using e
  exact hc
theorem src_take {W : World} {b off c k : Nat} {xs : List Int} (h : Ints W 0 (some ⟨b, off, none⟩) xs) (hk : k ≤ xs.length) : Src W (some ⟨b, off, none⟩) k c (xs.take k) := by
  refine .inr ⟨_, rfl, by rw [List.length_take]; omega, fun j u hu => ?_⟩
  rw [flat_V1, List.getElem?_map, Option.map_eq_some_iff] at hu
  obtain ⟨x, hx, rfl⟩ := hu
  rw [List.getElem?_take] at hx
  split at hx
  · rw [addr_at]; exact ints_at h hx
  · cases hx
theorem src_drop {W : World} {b off c k m : Nat} {xs : List Int} (h : Ints W 0 (some ⟨b, off, none⟩) xs) (hm : m = xs.length) (hk : k ≤ m) (hc : m ≤ c) : Src W (if c = k then some ⟨b, off, none⟩ else some ⟨b, off + k, none⟩) (m - k) (c - k) (xs.drop k) := by
  by_cases hck : c = k
  · rw [if_pos hck]
    have : xs.drop k = [] := List.drop_of_length_le (by omega)
    rw [this]
    exact .inr ⟨_, rfl, by simp; omega, fun j u hu => by simp at hu⟩
  · rw [if_neg hck]
    refine .inr ⟨_, rfl, by rw [List.length_drop]; omega, fun j u hu => ?_⟩
    rw [flat_V1, List.getElem?_map, Option.map_eq_some_iff] at hu
    obtain ⟨x, hx, rfl⟩ := hu
    rw [List.getElem?_drop] at hx
    rw [addr_at, Nat.add_assoc]; exact ints_at h hx
theorem src_one {W : World} {g : Nat} {n : Int} {t : TypeId} {fr : Nat × Nat} (h : W.heap[g]? = some (.cells #[.int .i64 n] t fr)) : Src W (some ⟨g, 0, none⟩) 1 1 [n] := by
  refine .inr ⟨_, rfl, rfl, fun j u hu => ?_⟩
  rw [addr_at]
  simp only [World.cell?, h]
  simpa [V1] using hu
theorem own_e1 (w : World) (e : TypeId) : ((w.alloc (.cells #[] e)).drew).ownsRow w.heap.size e 1 (.slice (some ⟨w.heap.size, 0, none⟩) 0 0) 0 [] :=
  ⟨by simp, .inr ⟨w.heap.size, 0, #[], rfl, Nat.le_refl _, heap_alloc_new w _, Nat.le_refl _, Nat.zero_le _, by simp, by simp⟩⟩
theorem own_e2 (w : World) (e : TypeId) (o : Obj) : (((w.alloc (.cells #[] e)).alloc o).drew).ownsRow w.heap.size e 1 (.slice (some ⟨w.heap.size, 0, none⟩) 0 0) 0 [] :=
  ⟨by simp, .inr ⟨w.heap.size, 0, #[], rfl, Nat.le_refl _, (Below.heap_alloc _ _ _ (by simp)).trans (heap_alloc_new w _), Nat.le_refl _, Nat.zero_le _, by simp, by simp⟩⟩
theorem heap_2nd (w : World) (r o : Obj) : (((w.alloc r).alloc o).drew).heap[w.heap.size + 1]? = some o := by
  have h := heap_alloc_new (w.alloc r) o
  have e : (w.alloc r).heap.size = w.heap.size + 1 := by simp
  rw [e] at h; exact h
theorem own_e3 (w : World) (e : TypeId) (o : Obj) : (((w.alloc o).alloc (.cells #[] e)).drew).ownsRow w.heap.size e 1 (.slice (some ⟨w.heap.size + 1, 0, none⟩) 0 0) 0 [] :=
  ⟨by simp, .inr ⟨w.heap.size + 1, 0, #[], rfl, by omega, heap_2nd w _ _, Nat.le_refl _, Nat.zero_le _, by simp, by simp⟩⟩
theorem below_own {w0 W w1 : World} {v : Value} {n : Nat} {e : TypeId} {xs : List Value} (h : Below w0.heap.size w0 W) (hown : W.ownsRow w0.heap.size e 1 v n xs) (hg : W.grownBy w1 v.ownBlock) : Below w0.heap.size w0 w1 :=
  h.grown hg h.size (fun g hg' => own_low hown g hg')

theorem ret_slice {A : Option Addr} {n n' c : Nat} (h : n = n') : Ending.returned (.slice A n c) = .returned (.slice A n' c) := by rw [h]
theorem own_cap {w : World} {base n c : Nat} {e : TypeId} {size : Nat} {A : Option Addr} {xs : List Value} (h : w.ownsRow base e size (.slice A n c) n xs) : c ≤ maxLen := by
  rcases h.2 with ⟨hv, _⟩ | ⟨g, cap, cur, hv, _, _, _, hcm, _⟩
  · injection hv with _ _ h3; rw [h3]; exact Nat.zero_le _
  · injection hv with _ _ h3; rw [h3]; exact hcm
def Flat (A : Option Addr) : Prop := A = none ∨ ∃ b off, A = some ⟨b, off, none⟩
theorem own_flat {w : World} {base n c : Nat} {e : TypeId} {size : Nat} {A : Option Addr} {xs : List Value} (h : w.ownsRow base e size (.slice A n c) n xs) : Flat A := by
  rcases h.2 with ⟨hv, _⟩ | ⟨g, cap, cur, hv, _⟩
  · injection hv with h1; exact .inl h1
  · injection hv with h1; exact .inr ⟨g, 0, h1⟩
theorem own_nocap {w : World} {base n c : Nat} {e : TypeId} {size : Nat} {xs : List Value} (h : w.ownsRow base e size (.slice none n c) n xs) : c = 0 := by
  rcases h.2 with ⟨hv, _⟩ | ⟨g, cap, cur, hv, _⟩
  · injection hv
  · injection hv with h1; cases h1
theorem ints_of_ownS {w : World} {base n c : Nat} {e : TypeId} {A : Option Addr} {vs : List Value} {xs : List Int} (h : w.ownsRow base e 1 (.slice A n c) n vs) (hv : vs = xs.flatMap V1) : Ints w base A xs := by
  subst hv
  have hn : n = xs.length := by have := h.1; rw [flat_V1, List.length_map] at this; omega
  subst hn
  exact ints_of_own h

end Go.Proofs.Ytpmiafnccjejnaa
