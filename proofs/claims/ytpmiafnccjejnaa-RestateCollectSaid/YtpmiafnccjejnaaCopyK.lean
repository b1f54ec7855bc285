/-
  copy within rows of elements of k cells; a store into a row of the call's own. Nothing of the program stands here.
-/
import Derived.Test.YtpmiafnccjejnaaGSrc
import Derived.Laws.CopyOwn
namespace Go.Proofs.Ytpmiafnccjejnaa
open Go.RowKit
set_option linter.unusedVariables false

theorem run_copy_rowK {P : Program} (w : World) (dT sT ty elem : TypeId) (k g o dLen dCap : Nat) (a : Addr) (sLen sCap : Nat) (cur : Array Value) (t : TypeId) (cs : List Value)
    (hu : P.underlying dT = some (.slice elem)) (hs : (P.info? elem).map (·.size) = some k)
    (hg : w.heap[g]? = some (.cells cur t (0, 0))) (hn : cs.length = Nat.min sLen dLen * k)
    (hsrc : ∀ j v, cs[j]? = some v → w.cell? (a.add j) = some v) (hfit : o + cs.length ≤ cur.size) (h1 : ∀ v ∈ cs, v.oneCell' = true) :
    (Builtin.copy_ #[dT, sT] ty #[.slice (some ⟨g, o, none⟩) dLen dCap, .slice (some a) sLen sCap]).run P w =
      .ok (goInt (Nat.min sLen dLen : Nat)) (w.setRow g (cur.toList.take o ++ cs ++ cur.toList.drop (o + cs.length)).toArray) := by
  have hl := run_loadCells_list (P := P) w a cs hsrc
  have hst := run_storeCells_at P g o t cs 0 cur w hg (by simpa using hfit) h1
  cases hq : P.info? elem with
  | none => simp [hq] at hs
  | some i =>
    have hi : i.size = k := by simpa [hq] using hs
    simp [Builtin.copy_, run_underlying hu, Builtin.lenOf, Builtin.firstCells, sizeOf, typeInfo, hq, hi, ← hn, hl, hst]
theorem run_copy_noneK {P : Program} (w : World) (dT sT ty elem : TypeId) (k : Nat) (d a : Option Addr) (dLen dCap sLen sCap : Nat) (hu : P.underlying dT = some (.slice elem)) (hs : (P.info? elem).map (·.size) = some k) (hn : Nat.min sLen dLen = 0) :
    (Builtin.copy_ #[dT, sT] ty #[.slice d dLen dCap, .slice a sLen sCap]).run P w = .ok (goInt 0) w := by
  cases hq : P.info? elem with
  | none => simp [hq] at hs
  | some i =>
    have hl : ∀ (x : Addr), (loadCells x 0).run P w = .ok #[] w := fun x => by simpa using run_loadCells_list (P := P) w x [] (by simp)
    cases d <;> cases a <;> simp [Builtin.copy_, run_underlying hu, Builtin.lenOf, Builtin.firstCells, sizeOf, typeInfo, hq, hn, storeCells, hl]

theorem take_splice {α : Type} (L : List α) (off n : Nat) (cs : List α) (h : off + cs.length ≤ n) (hn : n ≤ L.length) : (splice L off cs).take n = splice (L.take n) off cs := by
  unfold splice
  rw [List.take_append, List.take_append, List.length_take, show min off L.length = off by omega, List.take_take, show min n off = off by omega, List.take_of_length_le (l := cs) (by omega), List.take_take, show min off n = off by omega, List.drop_take, show n - off - cs.length = n - (off + cs.length) by omega]

/-- copy(s[o:], s[p:]) and the like: the row of the call's own turns; whatever the addresses of cuts without elements. -/
theorem wpList_copy_ownK {P : Program} {w : World} {ops : Array Oper} {rest : List Oper} {o : Oper} {a : Act} {Q : Exit → Act → World → Prop} (hgd : o.guard = none) (d s : Operand) (dT sT : TypeId)
    (ho : o.op = .call { callee := .builtin .copy, args := #[d, s], argTypes := #[dT, sT] }) (elem : TypeId) (k : Nat) (hu : P.underlying dT = some (.slice elem)) (hsz : (P.info? elem).map (·.size) = some k)
    (dp sp : Option Addr) (dLen dCap sLen sCap : Nat) (hd : a.eval d = .slice dp dLen dCap) (hs : a.eval s = .slice sp sLen sCap)
    (base g n cap off : Nat) (xs : List Value) (hown : w.ownsRow base elem k (.slice (some ⟨g, 0, none⟩) n cap) n xs) (cs : List Value) (hn : cs.length = Nat.min sLen dLen * k) (hk : 0 < k)
    (hpos : 0 < cs.length → dp = some ⟨g, off, none⟩ ∧ ∃ ad, sp = some ad ∧ ∀ j v, cs[j]? = some v → w.cell? (ad.add j) = some v)
    (hfit : off + cs.length ≤ n * k) (h1 : ∀ v ∈ cs, v.oneCell' = true)
    (h : ∀ w', Hid (w'.ownsRow base elem k (.slice (some ⟨g, 0, none⟩) n cap) n (splice xs off cs)) → w.grownBy w' (some g) → wpList P ops Q rest (a.put o.dst (goInt (Nat.min sLen dLen : Nat))) w') :
    wpList P ops Q (o :: rest) a w := by
  refine wpList_plain hgd fun K hK => ?_
  by_cases h0 : cs.length = 0
  · have hm : Nat.min sLen dLen = 0 := by
      rw [h0] at hn
      rcases Nat.mul_eq_zero.1 hn.symm with h | h
      · exact h
      · omega
    obtain rfl : cs = [] := List.eq_nil_of_length_eq_zero h0
    have hrun := run_copy_noneK (P := P) w dT sT o.type elem k dp sp dLen dCap sLen sCap hu hsz hm
    unfold Oper.wp
    simp [execOp, ho, resolve, invoke, builtin, hd, hs, hrun, Result.andThen]
    have := h w (show Hid _ from (by show World.ownsRow _ _ _ _ _ _ _; simpa [splice] using hown)) (only_refl _ _)
    rw [hm] at this
    exact hK _ _ this
  · obtain ⟨rfl, ad, rfl, hsrc⟩ := hpos (by omega)
    rcases hown.2 with ⟨e, _⟩ | ⟨g', cap', cur, hv, hb, hh, hnc, hcm, hsz', htake⟩
    · cases e
    obtain ⟨rfl, rfl⟩ : g' = g ∧ cap' = cap := by
      injection hv with hv1 hv2 hv3
      injection hv1 with hv1
      injection hv1 with hv1
      exact ⟨hv1.symm, hv3.symm⟩
    have hfit2 : n * k ≤ cap' * k := Nat.mul_le_mul_right _ hnc
    have hrun := run_copy_rowK (P := P) w dT sT o.type elem k g' off dLen dCap ad sLen sCap cur elem cs hu hsz hh hn hsrc (by omega) h1
    unfold Oper.wp
    simp [execOp, ho, resolve, invoke, builtin, hd, hs, hrun, Result.andThen]
    refine hK _ _ (h _ ?_ ?_)
    · show World.ownsRow _ _ _ _ _ _ _
      refine ⟨?_, .inr ⟨g', cap', _, rfl, hb, setRow_heap w g' _ _ elem _ hh, hnc, hcm, ?_, ?_⟩⟩
      · rw [length_splice _ _ _ (by rw [hown.1]; exact hfit)]; exact hown.1
      · simp; omega
      · rw [← htake, ← take_splice _ _ _ _ hfit (by rw [Array.length_toList, hsz']; exact hfit2)]
        unfold splice
        simp
    · exact ⟨rfl, rfl, rfl, by simp [World.setRow], fun i hi hne => setRow_other w g' i _ (fun e => hne (by rw [e]))⟩

/-- A store into one cell of a row of the call's own. -/
theorem own_setc {w : World} {base g n cap k : Nat} {e : TypeId} {xs : List Value} (h : w.ownsRow base e k (.slice (some ⟨g, 0, none⟩) n cap) n xs) {j : Nat} (hj : j < n * k) (u : Value) :
    (w.setCell ⟨g, j, none⟩ u).ownsRow base e k (.slice (some ⟨g, 0, none⟩) n cap) n (xs.set j u) := by
  rcases h.2 with ⟨e', _⟩ | ⟨g', cap', cur, hv, hb, hh, hnc, hcm, hsz', htake⟩
  · cases e'
  obtain ⟨rfl, rfl⟩ : g' = g ∧ cap' = cap := by
    injection hv with hv1 hv2 hv3
    injection hv1 with hv1
    injection hv1 with hv1
    exact ⟨hv1.symm, hv3.symm⟩
  refine ⟨by rw [List.length_set]; exact h.1, .inr ⟨g', cap', cur.setIfInBounds j u, rfl, hb, ?_, hnc, hcm, by simpa using hsz', ?_⟩⟩
  · simp [World.setCell, Array.getElem?_modify, hh]
  · rw [← htake, Array.toList_setIfInBounds, List.take_set]
theorem flat_set {α : Type} {enc : α → List Value} {k : Nat} (hk : ∀ x, (enc x).length = k) : ∀ (xs : List α) (i : Nat) (x y : α) (j : Nat) (u : Value), xs[i]? = some x → enc y = (enc x).set j u → j < k → (xs.flatMap enc).set (i * k + j) u = (xs.set i y).flatMap enc := by
  intro xs
  induction xs with
  | nil => intro i x y j u h; simp at h
  | cons z zs ih =>
    intro i x y j u h he hj
    cases i with
    | zero =>
      obtain rfl : z = x := by simpa using h
      rw [List.flatMap_cons, Nat.zero_mul, Nat.zero_add, List.set_append_left _ _ (by rw [hk]; exact hj), ← he]
      rfl
    | succ i =>
      rw [List.flatMap_cons, List.set_append_right _ _ (by rw [hk, Nat.succ_mul]; omega), hk, show (i + 1) * k + j - k = i * k + j by rw [Nat.succ_mul]; omega, ih i x y j u (by simpa using h) he hj]
      rfl

end Go.Proofs.Ytpmiafnccjejnaa
