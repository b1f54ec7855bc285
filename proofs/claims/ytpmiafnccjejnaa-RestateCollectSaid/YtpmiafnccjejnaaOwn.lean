/-
  Rows that a call owns, read as lists of rows of cells.
-/
import Derived.Test.YtpmiafnccjejnaaDeck
namespace Go.Proofs.Ytpmiafnccjejnaa
open Go.RowKit
set_option linter.unusedVariables false

theorem own_low {w : World} {base : Nat} {e : TypeId} {size n : Nat} {v : Value} {xs : List Value} (h : w.ownsRow base e size v n xs) : ∀ g, v.ownBlock = some g → base ≤ g := by
  intro g hg
  rcases h.2 with ⟨rfl, _⟩ | ⟨g', cap, cur, rfl, hb, _⟩
  · simp [Value.ownBlock] at hg
  · have : g' = g := by simpa [Value.ownBlock] using hg
    omega
theorem own_lt {w : World} {base : Nat} {e : TypeId} {size n : Nat} {v : Value} {xs : List Value} (h : w.ownsRow base e size v n xs) : ∀ g, v.ownBlock = some g → g < w.heap.size := by
  intro g hg
  rcases h.2 with ⟨rfl, _⟩ | ⟨g', cap, cur, rfl, hb, hh, _⟩
  · simp [Value.ownBlock] at hg
  · have : g' = g := by simpa [Value.ownBlock] using hg
    subst this
    rcases Nat.lt_or_ge g' w.heap.size with hlt | hge
    · exact hlt
    · rw [Array.getElem?_eq_none hge] at hh; cases hh
theorem own_far {w : World} {base : Nat} {e : TypeId} {size n : Nat} {v : Value} {xs : List Value} (h : w.ownsRow base e size v n xs) {bd : Nat} (hb : bd < base) : v.ownBlock = none ∨ v.ownBlock ≠ some bd := by
  right; intro he; have := own_low h bd he; omega
theorem own_below {w w' : World} {base : Nat} {e : TypeId} {size n : Nat} {v : Value} {xs : List Value} (h : w.ownsRow base e size v n xs) (hb : Below w.heap.size w w') : w'.ownsRow base e size v n xs :=
  h.kept (w' := w') (row := none) ⟨hb.os, hb.tape, hb.output, hb.size, fun k hk _ => hb.block k hk⟩ (by
    cases hv : v.ownBlock with
    | none => exact .inl rfl
    | some g => exact .inr (by simp))
theorem own_shape {w : World} {base : Nat} {e : TypeId} {size n : Nat} {v : Value} {xs : List Value} (h : w.ownsRow base e size v n xs) : ∃ A c, v = .slice A n c ∧ n ≤ c := by
  rcases h.2 with ⟨rfl, rfl⟩ | ⟨g, cap, cur, rfl, _, _, hnc, _⟩
  · exact ⟨none, 0, rfl, Nat.le_refl _⟩
  · exact ⟨_, cap, rfl, hnc⟩
theorem own_nil (w : World) (base : Nat) (e : TypeId) (size : Nat) : w.ownsRow base e size (.slice none 0 0) 0 [] := ⟨by simp, .inl ⟨rfl, rfl⟩⟩
theorem only_grown {a b c : World} {row r2 : Option Nat} (h : a.grownBy b row) (k : b.grownBy c r2) (hr : ∀ g, r2 = some g → a.heap.size ≤ g) : a.grownBy c row :=
  ⟨k.os.trans h.os, k.tape.trans h.tape, k.output.trans h.output, Nat.le_trans h.size k.size, fun i hi hne => (k.block i (Nat.lt_of_lt_of_le hi h.size) (fun e => by have := hr i e.symm; omega)).trans (h.block i hi hne)⟩

theorem flat_get {α : Type} (enc : α → List Value) (k : Nat) (hk : ∀ x, (enc x).length = k) : ∀ (xs : List α) (i : Nat) (x : α), xs[i]? = some x → ∀ j, j < k → (xs.flatMap enc)[i * k + j]? = (enc x)[j]? := by
  intro xs
  induction xs with
  | nil => intro i x h; simp at h
  | cons y ys ih =>
    intro i x h j hj
    rw [List.flatMap_cons]
    cases i with
    | zero =>
      obtain rfl : y = x := by simpa using h
      rw [Nat.zero_mul, Nat.zero_add, List.getElem?_append_left (by rw [hk]; exact hj)]
    | succ i =>
      rw [List.getElem?_append_right (by rw [hk, Nat.succ_mul]; omega), hk, show (i + 1) * k + j - k = i * k + j by rw [Nat.succ_mul]; omega]
      exact ih i x (by simpa using h) j hj
theorem flat_len {α : Type} (enc : α → List Value) (k : Nat) (hk : ∀ x, (enc x).length = k) (xs : List α) : (xs.flatMap enc).length = xs.length * k := by
  induction xs with
  | nil => simp
  | cons y ys ih => simp [hk, ih, Nat.succ_mul, Nat.add_comm]

/-- A row of the call's own reads as the list. -/
theorem sl_of_own {α : Type} {enc : α → List Value} {k : Nat} (hk : ∀ x, (enc x).length = k) {w : World} {base : Nat} {e : TypeId} {xs : List α} {A : Option Addr} {c : Nat}
    (h : w.ownsRow base e k (.slice A xs.length c) xs.length (xs.flatMap enc)) : Sl w base k A (xs.map enc) := by
  intro hp
  have hp' : 0 < xs.length := by simpa using hp
  rcases h.2 with ⟨_, h0⟩ | ⟨g, cap, cur, hv, hb, hh, hnc, _, hsz, htake⟩
  · omega
  have hA : A = some ⟨g, 0, none⟩ := by injection hv
  subst hA
  refine ⟨g, 0, rfl, hb, own_lt h g rfl, fun i x hx j u hu => ?_⟩
  rw [List.getElem?_map, Option.map_eq_some_iff] at hx
  obtain ⟨y, hy, rfl⟩ := hx
  have hj : j < k := by have := (List.getElem?_eq_some_iff.1 hu).1; rwa [hk] at this
  have hf := flat_get enc k hk xs i y hy j hj
  rw [hu, ← htake, List.getElem?_take] at hf
  split at hf
  · simpa [World.cell?, hh] using hf
  · cases hf
theorem pairs_of_own {w : World} {base : Nat} {e : TypeId} {xs : List P2} {A : Option Addr} {c : Nat} (h : w.ownsRow base e 2 (.slice A xs.length c) xs.length (xs.flatMap P2.cells)) : Pairs w base A xs :=
  sl_of_own (enc := P2.cells) (fun _ => rfl) h
theorem ints_of_own {w : World} {base : Nat} {e : TypeId} {xs : List Int} {A : Option Addr} {c : Nat} (h : w.ownsRow base e 1 (.slice A xs.length c) xs.length (xs.flatMap V1)) : Ints w base A xs :=
  sl_of_own (enc := V1) (fun _ => rfl) h

theorem val_int {k : IntKind} {a b : Int} (h : a = b) : Value.int k a = .int k b := by rw [h]
theorem cell_new (w : World) (cs : List Value) (t : TypeId) : ∀ (j : Nat) (u : Value), cs[j]? = some u → (w.alloc (.cells cs.toArray t)).cell? (({ block := w.heap.size, off := 0 } : Addr).add j) = some u := by
  intro j u hu
  have hh : (w.alloc (.cells cs.toArray t)).heap[w.heap.size]? = some (.cells cs.toArray t) := heap_alloc_new w _
  have hb : (({ block := w.heap.size, off := 0 } : Addr).add j) = ⟨w.heap.size, j, none⟩ := by
    unfold Addr.add; split
    · rename_i h; rw [h]
    · simp
  rw [hb]
  simp only [World.cell?, hh]
  simpa using hu

end Go.Proofs.Ytpmiafnccjejnaa
