/-
  append onto a row of the call's own of a slice that may be nil: one law for all kinds of elements.
-/
import Derived.Test.YtpmiafnccjejnaaOwn
import Derived.Lib.SliceRun
import Derived.Laws.OwnMore
import Derived.Laws.AppendOwn
namespace Go.Proofs.Ytpmiafnccjejnaa
open Go.RowKit
set_option linter.unusedVariables false

theorem own_void (w : World) (e : TypeId) (size : Nat) : (w.alloc (.cells #[] e)).ownsRow w.heap.size e size (.slice (some ⟨w.heap.size, 0, none⟩) 0 0) 0 [] :=
  ⟨by simp, .inr ⟨w.heap.size, 0, #[], rfl, Nat.le_refl _, heap_alloc_new w _, Nat.le_refl _, Nat.zero_le _, by simp, by simp⟩⟩
/-- The cells of a slice that reads as a list, flat. -/
theorem sl_cells {α : Type} {enc : α → List Value} {k : Nat} (hk : ∀ x, (enc x).length = k) (hk0 : 0 < k) {w : World} {lo b off : Nat} {xs : List α} (h : Sl w lo k (some ⟨b, off, none⟩) (xs.map enc)) : ∀ (j : Nat) (u : Value), (xs.flatMap enc)[j]? = some u → w.cell? (({ block := b, off := off } : Addr).add j) = some u := by
  intro j u hu
  have hl : j < xs.length * k := by
    have := (List.getElem?_eq_some_iff.1 hu).1
    rwa [flat_len enc k hk] at this
  have hi : j / k < xs.length := Nat.div_lt_of_lt_mul (by rw [Nat.mul_comm]; exact hl)
  obtain ⟨x, hx, _⟩ := drop_cons hi
  have hf := flat_get enc k hk xs (j / k) x hx (j % k) (Nat.mod_lt _ hk0)
  have hj : j / k * k + j % k = j := Nat.div_add_mod' j k
  rw [hj, hu] at hf
  obtain ⟨b', off', e, _, _, hc⟩ := h.at_ (i := j / k) (x := enc x) (by simp [hx])
  obtain ⟨rfl, rfl⟩ : b = b' ∧ off = off' := by simpa using e
  have hcc := hc (j % k) u hf.symm
  rw [Nat.add_assoc, hj] at hcc
  have ha : (({ block := b, off := off } : Addr).add j) = ⟨b, off + j, none⟩ := by
    unfold Addr.add; split
    · rename_i h0; rw [h0]; simp
    · rfl
  rw [ha]; exact hcc

/-- A source of an append: nil, or elements that lie at an address. -/
def SrcG {α : Type} (enc : α → List Value) (W : World) (X : Option Addr) (ys : List α) : Prop :=
  (X = none ∧ ys = []) ∨ ∃ ad, X = some ad ∧ ∀ (j : Nat) (u : Value), (ys.flatMap enc)[j]? = some u → W.cell? (ad.add j) = some u
theorem srcG_of_sl {α : Type} {enc : α → List Value} {k : Nat} (hk : ∀ x, (enc x).length = k) (hk0 : 0 < k) {W : World} {lo : Nat} {X : Option Addr} {ys : List α} (h : Sl W lo k X (ys.map enc)) : SrcG enc W X ys := by
  cases X with
  | none =>
    left
    refine ⟨rfl, ?_⟩
    cases ys with
    | nil => rfl
    | cons y ys => obtain ⟨b, off, e, _⟩ := h (by simp); cases e
  | some ad =>
    right
    refine ⟨ad, rfl, fun j u hu => ?_⟩
    have h0 : 0 < (ys.map enc).length := by
      have := (List.getElem?_eq_some_iff.1 hu).1
      rw [flat_len enc k hk] at this
      rw [List.length_map]
      rcases Nat.eq_zero_or_pos ys.length with e | e
      · rw [e, Nat.zero_mul] at this; omega
      · exact e
    obtain ⟨b, off, e, _⟩ := h h0
    obtain rfl : ad = ⟨b, off, none⟩ := Option.some.inj e
    exact sl_cells (enc := enc) (k := k) hk hk0 h j u hu
theorem run_append_none_c {P : Program} {w : World} (base : Nat) (t ty e : TypeId) (i : TypeInfo) (size c : Nat) (ht : P.underlying t = some (.slice e)) (hi : P.info? e = some i)
    (v : Value) (n : Nat) (xs : List Value) (hown : w.ownsRow base e size v n xs) :
    (Builtin.append_ #[t, t] ty #[v, .slice none 0 c]).run P w = .ok v w := by
  rcases hown.2 with ⟨rfl, rfl⟩ | ⟨g, cap, cur, rfl, _, _, hnc, _⟩
  · simp [Builtin.append_, run_underlying ht, sizeOf, typeInfo, hi, Builtin.lenOf, Builtin.firstCells]
  · simp [Builtin.append_, run_underlying ht, sizeOf, typeInfo, hi, Builtin.lenOf, Builtin.firstCells, hnc, storeCells]
theorem wpList_append_src {α : Type} (enc : α → List Value) {P : Program} {w : World} {ops : Array Oper} {rest : List Oper} {o : Oper} {a : Act} {Q : Exit → Act → World → Prop} (hgd : o.guard = none) (s x : Operand) (t : TypeId)
    (ho : o.op = .call { callee := .builtin .append, args := #[s, x], argTypes := #[t, t] })
    (base : Nat) (e : TypeId) (i : TypeInfo) (z : Value) (size bytes : Nat) (ht : P.underlying t = some (.slice e)) (hi : P.info? e = some i) (hz : i.zero = some z)
    (hsize : i.size = size) (hby : i.bytes = bytes) (hzs : z.cells.size = size) (hsz : 0 < size) (hb80 : bytes ≤ 80)
    (hk : ∀ y, (enc y).length = size) (h1 : ∀ y, ∀ u ∈ enc y, u.oneCell' = true)
    (v : Value) (n : Nat) (xs : List Value) (hs : a.eval s = v) (hown : w.ownsRow base e size v n xs)
    (X : Option Addr) (m c : Nat) (ys : List α) (hm : m = ys.length) (hx : a.eval x = .slice X m c) (hsrc : SrcG enc w X ys)
    (h63 : n + m ≤ 100000) (hbase : base ≤ w.heap.size)
    (h : ∀ v' w', w'.ownsRow base e size v' (n + m) (xs ++ ys.flatMap enc) → w.grownBy w' v.ownBlock → wpList P ops Q rest (a.put o.dst v') w') : wpList P ops Q (o :: rest) a w := by
  refine wpList_plain hgd fun K hK => ?_
  rcases hsrc with ⟨rfl, rfl⟩ | ⟨ad, rfl, hc⟩
  · rw [List.length_nil] at hm
    subst hm
    have hrun := run_append_none_c (P := P) (w := w) base t o.type e i size c ht hi v n xs hown
    unfold Oper.wp
    simp [execOp, ho, resolve, invoke, builtin, hs, hx, hrun, Result.andThen]
    exact hK _ _ (h v w (by simpa using hown) (World.grownBy.refl w _))
  · subst hm
    exact wp_append_own w s x t ho base e i z size bytes ht hi hz hsize hby hzs hsz v n xs hs hown ad ys.length c (ys.flatMap enc) hx (flat_len enc size hk ys) hc (fun u hu => by obtain ⟨y, _, hy⟩ := List.mem_flatMap.1 hu; exact h1 y u hy) (by unfold maxLen; omega) (by have := Nat.mul_le_mul h63 hb80; omega) hbase fun v' w' h2 h3 _ => hK _ _ (h v' w' h2 h3)
theorem addr_at0 (b off j : Nat) : (({ block := b, off := off } : Addr).add j) = ⟨b, off + j, none⟩ := by
  unfold Addr.add; split
  · rename_i h; rw [h]; simp
  · rfl
theorem int_one (y : Int) : ∀ u ∈ V1 y, u.oneCell' = true := by
  intro u hu
  simp [V1] at hu
  subst hu; rfl

end Go.Proofs.Ytpmiafnccjejnaa
