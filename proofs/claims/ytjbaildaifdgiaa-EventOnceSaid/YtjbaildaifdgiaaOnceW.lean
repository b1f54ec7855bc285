/-
  What EventOnce's walk needs: lists that are turned round, rows of losses stored anew.
-/
import Derived.Test.YtjbaildaifdgiaaOnceDef
import Derived.Test.YtjbaildaifdgiaaFew25
import Derived.Test.YtjbaildaifdgiaaAwake25
import Derived.Test.YtjbaildaifdgiaaTot
import Derived.Test.YtjbaildaifdgiaaVald
import Derived.Test.YtjbaildaifdgiaaMWin
import Derived.BigRegion
namespace Go.Proofs.Ytjbaildaifdgiaa
open Go.RowKit
set_option linter.unusedVariables false

theorem sumIn_bd : ∀ (is am : List Int), (∀ a ∈ am, 0 ≤ a) → 0 ≤ sumIn is am ∧ sumIn is am ≤ sumI am := by
  intro is
  induction is with
  | nil =>
    intro am h
    have : 0 ≤ sumI am := by
      induction am with
      | nil => simp [sumI]
      | cons a l ih => have h1 := h a (by simp); have h2 := ih (fun x hx => h x (by simp [hx])); simp only [sumI]; omega
    simp only [sumIn]; omega
  | cons i is ih =>
    intro am h
    cases am with
    | nil => simp [sumIn, sumI]
    | cons a ams =>
      have h1 := h a (by simp)
      have h2 := ih ams (fun x hx => h x (by simp [hx]))
      simp only [sumIn, sumI]; split <;> omega
theorem sumIn_drop : ∀ (is am : List Int) (k : Nat), (∀ a ∈ am, 0 ≤ a) → sumIn (is.drop k) (am.drop k) ≤ sumIn is am := by
  intro is
  induction is with
  | nil => intro am k h; simp [sumIn]
  | cons i is ih =>
    intro am k h
    cases am with
    | nil => simp [sumIn]
    | cons a ams =>
      cases k with
      | zero => simp
      | succ k =>
        have h1 := h a (by simp)
        have h2 := ih ams k (fun x hx => h x (by simp [hx]))
        simp only [List.drop_succ_cons, sumIn]; split <;> omega
/-- A list with its first i and its last i exchanged. -/
def RevTo {α : Type} (xs ys : List α) (i : Nat) : Prop := ys.length = xs.length ∧ ∀ j, j < xs.length → ys[j]? = if j < i ∨ xs.length ≤ j + i then xs[xs.length - 1 - j]? else xs[j]?
theorem RevTo.start {α : Type} (xs : List α) : RevTo xs xs 0 := ⟨rfl, fun j hj => by rw [if_neg (by omega)]⟩
theorem RevTo.done {α : Type} {xs ys : List α} {i : Nat} (h : RevTo xs ys i) (hi : xs.length ≤ i + i + 1) : ys = xs.reverse := by
  apply List.ext_getElem?
  intro j
  by_cases hj : j < xs.length
  · rw [h.2 j hj, List.getElem?_reverse hj]
    by_cases hc : j < i ∨ xs.length ≤ j + i
    · rw [if_pos hc]
    · rw [if_neg hc, show xs.length - 1 - j = j by omega]
  · rw [List.getElem?_eq_none (by rw [h.1]; omega), List.getElem?_eq_none (by simp; omega)]
theorem RevTo.next {α : Type} {xs ys : List α} {i : Nat} {x y : α} (h : RevTo xs ys i) (hi : i + i + 1 < xs.length) (hx : ys[i]? = some x) (hy : ys[xs.length - 1 - i]? = some y) : RevTo xs ((ys.set i y).set (xs.length - 1 - i) x) (i + 1) := by
  refine ⟨by simp [h.1], fun j hj => ?_⟩
  have ex := h.2 i (by omega)
  rw [if_neg (by omega), hx] at ex
  have ey := h.2 (xs.length - 1 - i) (by omega)
  rw [if_neg (by omega), hy] at ey
  have hl := h.1
  rw [List.getElem?_set, List.getElem?_set]
  by_cases h1 : xs.length - 1 - i = j
  · rw [if_pos h1, if_pos (by rw [List.length_set]; omega), if_pos (by omega), ← h1, show xs.length - 1 - (xs.length - 1 - i) = i by omega]; exact ex
  · rw [if_neg h1]
    by_cases h2 : i = j
    · rw [if_pos h2, if_pos (by omega), if_pos (by omega), ← h2]; exact ey
    · rw [if_neg h2, h.2 j hj]
      by_cases hc : j < i ∨ xs.length ≤ j + i
      · rw [if_pos hc, if_pos (by omega)]
      · rw [if_neg hc, if_neg (by omega)]
theorem mem_le_sumI {am : List Int} (h : ∀ a ∈ am, 0 ≤ a) {x : Int} (hx : x ∈ am) : x ≤ sumI am := by
  induction am with
  | nil => simp at hx
  | cons a l ih =>
    have h1 := h a (by simp)
    have h2 : 0 ≤ sumI l := (sumIn_bd [] l (fun y hy => h y (by simp [hy]))).2
    rcases List.mem_cons.1 hx with rfl | hx
    · simp only [sumI]; omega
    · have := ih (fun y hy => h y (by simp [hy])) hx; simp only [sumI]; omega
theorem sumI_nn {l : List Int} (h : ∀ x ∈ l, 0 ≤ x) : 0 ≤ sumI l := by
  induction l with
  | nil => simp [sumI]
  | cons a l ih => have h1 := h a (by simp); have h2 := ih (fun x hx => h x (by simp [hx])); simp only [sumI]; omega
def put10 (W : World) (g o : Nat) (y : Los) : World := ((((((((((W).setCell ⟨g, o, none⟩ (.int .i64 y.id)).setCell ⟨g, o + 1, none⟩ (.int .i64 y.pol)).setCell ⟨g, o + 2, none⟩ (.int .i64 y.risk)).setCell ⟨g, o + 3, none⟩ (.int .i64 y.hour)).setCell ⟨g, o + 4, none⟩ (.int .i64 y.peril)).setCell ⟨g, o + 5, none⟩ (.int .i64 y.area)).setCell ⟨g, o + 6, none⟩ (.int .i64 y.cur)).setCell ⟨g, o + 7, none⟩ (.int .i64 y.sum)).setCell ⟨g, o + 8, none⟩ (.int .i64 y.amt)).setCell ⟨g, o + 9, none⟩ (.int .i64 y.paid)
theorem own_put10 {W : World} {base g n cap K : Nat} {e : TypeId} {ls : List Los} {x y : Los} (h : W.ownsRow base e 10 (.slice (some ⟨g, 0, none⟩) n cap) n (ls.flatMap Los.cells)) (hx : ls[K]? = some x) : (put10 W g (K * 10) y).ownsRow base e 10 (.slice (some ⟨g, 0, none⟩) n cap) n ((ls.set K y).flatMap Los.cells) := by
  have hK : K < ls.length := (List.getElem?_eq_some_iff.1 hx).1
  have e0 := flat_set1 Los.cells 10 (fun _ => rfl) 0 (by omega) (.int .i64 y.id) (⟨y.id, x.pol, x.risk, x.hour, x.peril, x.area, x.cur, x.sum, x.amt, x.paid⟩ : Los) K ls x hx rfl
  rw [Nat.add_zero] at e0
  have s0 := (h.stored (K * 10) (.int .i64 y.id)).1
  rw [e0] at s0
  have e1 := flat_set1 Los.cells 10 (fun _ => rfl) 1 (by omega) (.int .i64 y.pol) (⟨y.id, y.pol, x.risk, x.hour, x.peril, x.area, x.cur, x.sum, x.amt, x.paid⟩ : Los) K (ls.set K ⟨y.id, x.pol, x.risk, x.hour, x.peril, x.area, x.cur, x.sum, x.amt, x.paid⟩) (⟨y.id, x.pol, x.risk, x.hour, x.peril, x.area, x.cur, x.sum, x.amt, x.paid⟩ : Los) (by simp [hK]) rfl
  rw [List.set_set] at e1
  have s1 := (s0.stored (K * 10 + 1) (.int .i64 y.pol)).1
  rw [e1] at s1
  have e2 := flat_set1 Los.cells 10 (fun _ => rfl) 2 (by omega) (.int .i64 y.risk) (⟨y.id, y.pol, y.risk, x.hour, x.peril, x.area, x.cur, x.sum, x.amt, x.paid⟩ : Los) K (ls.set K ⟨y.id, y.pol, x.risk, x.hour, x.peril, x.area, x.cur, x.sum, x.amt, x.paid⟩) (⟨y.id, y.pol, x.risk, x.hour, x.peril, x.area, x.cur, x.sum, x.amt, x.paid⟩ : Los) (by simp [hK]) rfl
  rw [List.set_set] at e2
  have s2 := (s1.stored (K * 10 + 2) (.int .i64 y.risk)).1
  rw [e2] at s2
  have e3 := flat_set1 Los.cells 10 (fun _ => rfl) 3 (by omega) (.int .i64 y.hour) (⟨y.id, y.pol, y.risk, y.hour, x.peril, x.area, x.cur, x.sum, x.amt, x.paid⟩ : Los) K (ls.set K ⟨y.id, y.pol, y.risk, x.hour, x.peril, x.area, x.cur, x.sum, x.amt, x.paid⟩) (⟨y.id, y.pol, y.risk, x.hour, x.peril, x.area, x.cur, x.sum, x.amt, x.paid⟩ : Los) (by simp [hK]) rfl
  rw [List.set_set] at e3
  have s3 := (s2.stored (K * 10 + 3) (.int .i64 y.hour)).1
  rw [e3] at s3
  have e4 := flat_set1 Los.cells 10 (fun _ => rfl) 4 (by omega) (.int .i64 y.peril) (⟨y.id, y.pol, y.risk, y.hour, y.peril, x.area, x.cur, x.sum, x.amt, x.paid⟩ : Los) K (ls.set K ⟨y.id, y.pol, y.risk, y.hour, x.peril, x.area, x.cur, x.sum, x.amt, x.paid⟩) (⟨y.id, y.pol, y.risk, y.hour, x.peril, x.area, x.cur, x.sum, x.amt, x.paid⟩ : Los) (by simp [hK]) rfl
  rw [List.set_set] at e4
  have s4 := (s3.stored (K * 10 + 4) (.int .i64 y.peril)).1
  rw [e4] at s4
  have e5 := flat_set1 Los.cells 10 (fun _ => rfl) 5 (by omega) (.int .i64 y.area) (⟨y.id, y.pol, y.risk, y.hour, y.peril, y.area, x.cur, x.sum, x.amt, x.paid⟩ : Los) K (ls.set K ⟨y.id, y.pol, y.risk, y.hour, y.peril, x.area, x.cur, x.sum, x.amt, x.paid⟩) (⟨y.id, y.pol, y.risk, y.hour, y.peril, x.area, x.cur, x.sum, x.amt, x.paid⟩ : Los) (by simp [hK]) rfl
  rw [List.set_set] at e5
  have s5 := (s4.stored (K * 10 + 5) (.int .i64 y.area)).1
  rw [e5] at s5
  have e6 := flat_set1 Los.cells 10 (fun _ => rfl) 6 (by omega) (.int .i64 y.cur) (⟨y.id, y.pol, y.risk, y.hour, y.peril, y.area, y.cur, x.sum, x.amt, x.paid⟩ : Los) K (ls.set K ⟨y.id, y.pol, y.risk, y.hour, y.peril, y.area, x.cur, x.sum, x.amt, x.paid⟩) (⟨y.id, y.pol, y.risk, y.hour, y.peril, y.area, x.cur, x.sum, x.amt, x.paid⟩ : Los) (by simp [hK]) rfl
  rw [List.set_set] at e6
  have s6 := (s5.stored (K * 10 + 6) (.int .i64 y.cur)).1
  rw [e6] at s6
  have e7 := flat_set1 Los.cells 10 (fun _ => rfl) 7 (by omega) (.int .i64 y.sum) (⟨y.id, y.pol, y.risk, y.hour, y.peril, y.area, y.cur, y.sum, x.amt, x.paid⟩ : Los) K (ls.set K ⟨y.id, y.pol, y.risk, y.hour, y.peril, y.area, y.cur, x.sum, x.amt, x.paid⟩) (⟨y.id, y.pol, y.risk, y.hour, y.peril, y.area, y.cur, x.sum, x.amt, x.paid⟩ : Los) (by simp [hK]) rfl
  rw [List.set_set] at e7
  have s7 := (s6.stored (K * 10 + 7) (.int .i64 y.sum)).1
  rw [e7] at s7
  have e8 := flat_set1 Los.cells 10 (fun _ => rfl) 8 (by omega) (.int .i64 y.amt) (⟨y.id, y.pol, y.risk, y.hour, y.peril, y.area, y.cur, y.sum, y.amt, x.paid⟩ : Los) K (ls.set K ⟨y.id, y.pol, y.risk, y.hour, y.peril, y.area, y.cur, y.sum, x.amt, x.paid⟩) (⟨y.id, y.pol, y.risk, y.hour, y.peril, y.area, y.cur, y.sum, x.amt, x.paid⟩ : Los) (by simp [hK]) rfl
  rw [List.set_set] at e8
  have s8 := (s7.stored (K * 10 + 8) (.int .i64 y.amt)).1
  rw [e8] at s8
  have e9 := flat_set1 Los.cells 10 (fun _ => rfl) 9 (by omega) (.int .i64 y.paid) (⟨y.id, y.pol, y.risk, y.hour, y.peril, y.area, y.cur, y.sum, y.amt, y.paid⟩ : Los) K (ls.set K ⟨y.id, y.pol, y.risk, y.hour, y.peril, y.area, y.cur, y.sum, y.amt, x.paid⟩) (⟨y.id, y.pol, y.risk, y.hour, y.peril, y.area, y.cur, y.sum, y.amt, x.paid⟩ : Los) (by simp [hK]) rfl
  rw [List.set_set] at e9
  have s9 := (s8.stored (K * 10 + 9) (.int .i64 y.paid)).1
  rw [e9] at s9
  unfold put10
  exact s9
theorem grown_put10 (W : World) (g o : Nat) (y : Los) : W.grownBy (put10 W g o y) (some g) := by
  unfold put10
  exact only_setCell (p := ⟨g, o + 9, none⟩) (only_setCell (p := ⟨g, o + 8, none⟩) (only_setCell (p := ⟨g, o + 7, none⟩) (only_setCell (p := ⟨g, o + 6, none⟩) (only_setCell (p := ⟨g, o + 5, none⟩) (only_setCell (p := ⟨g, o + 4, none⟩) (only_setCell (p := ⟨g, o + 3, none⟩) (only_setCell (p := ⟨g, o + 2, none⟩) (only_setCell (p := ⟨g, o + 1, none⟩) (only_setCell (p := ⟨g, o, none⟩) (only_refl _ _) (.inl rfl) _) (.inl rfl) _) (.inl rfl) _) (.inl rfl) _) (.inl rfl) _) (.inl rfl) _) (.inl rfl) _) (.inl rfl) _) (.inl rfl) _) (.inl rfl) _
theorem own_drewW {W : World} {base e size n : Nat} {v : Value} {xs : List Value} (h : W.ownsRow base e size v n xs) : W.drew.ownsRow base e size v n xs := h
theorem wins_drewW {W : World} {lo : Nat} {A : Option Addr} {ws : List Win} (h : Wins W lo A ws) : Wins W.drew lo A ws := h
theorem ints_drewW {W : World} {lo : Nat} {A : Option Addr} {ws : List Int} (h : Ints W lo A ws) : Ints W.drew lo A ws := h
structure OnceAt (w w1 W : World) (gL gA n lc ac : Nat) (ls : List Los) (ms : List Int) (WA TG : Option Addr) (ws : List Win) (ts : List Int) : Prop where
  l : W.ownsRow w.heap.size 65 10 (.slice (some ⟨gL, 0, none⟩) n lc) n (ls.flatMap Los.cells)
  a : W.ownsRow w.heap.size 3 1 (.slice (some ⟨gA, 0, none⟩) n ac) n (ms.flatMap V1)
  ws : Wins W w1.heap.size WA ws
  ts : Ints W w1.heap.size TG ts
  below : Below w.heap.size w W
section
variable {w w1 W W' : World} {gL gA n lc ac : Nat} {ls : List Los} {ms : List Int} {WA TG : Option Addr} {ws : List Win} {ts : List Int}
theorem OnceAt.drewW (h : OnceAt w w1 W gL gA n lc ac ls ms WA TG ws ts) : OnceAt w w1 W.drew gL gA n lc ac ls ms WA TG ws ts := ⟨h.l, h.a, h.ws, h.ts, h.below.drew⟩
theorem OnceAt.stepL (h : OnceAt w w1 W gL gA n lc ac ls ms WA TG ws ts) {ls' : List Los} (hg : W.grownBy W' (some gL)) (ho : W'.ownsRow w.heap.size 65 10 (.slice (some ⟨gL, 0, none⟩) n lc) n (ls'.flatMap Los.cells)) (hne : gA ≠ gL) (h1 : w.heap.size ≤ gL) (h2 : gL < w1.heap.size) : OnceAt w w1 W' gL gA n lc ac ls' ms WA TG ws ts :=
  ⟨ho, h.a.kept hg (.inr (fun e => hne (by injection e))), h.ws.grown hg (fun g e => by injection e with e; omega), h.ts.grown hg (fun g e => by injection e with e; omega), h.below.grown hg h.below.size (fun g e => by injection e with e; omega)⟩
theorem OnceAt.stepA (h : OnceAt w w1 W gL gA n lc ac ls ms WA TG ws ts) {ms' : List Int} (hg : W.grownBy W' (some gA)) (ho : W'.ownsRow w.heap.size 3 1 (.slice (some ⟨gA, 0, none⟩) n ac) n (ms'.flatMap V1)) (hne : gL ≠ gA) (h1 : w.heap.size ≤ gA) (h2 : gA < w1.heap.size) : OnceAt w w1 W' gL gA n lc ac ls ms' WA TG ws ts :=
  ⟨h.l.kept hg (.inr (fun e => hne (by injection e))), ho, h.ws.grown hg (fun g e => by injection e with e; omega), h.ts.grown hg (fun g e => by injection e with e; omega), h.below.grown hg h.below.size (fun g e => by injection e with e; omega)⟩
theorem OnceAt.setL (h : OnceAt w w1 W gL gA n lc ac ls ms WA TG ws ts) {K : Nat} {x : Los} (y : Los) (hx : ls[K]? = some x) (hne : gA ≠ gL) (h1 : w.heap.size ≤ gL) (h2 : gL < w1.heap.size) : OnceAt w w1 (put10 W gL (K * 10) y) gL gA n lc ac (ls.set K y) ms WA TG ws ts :=
  h.stepL (grown_put10 W gL (K * 10) y) (own_put10 h.l hx) hne h1 h2
theorem OnceAt.setA (h : OnceAt w w1 W gL gA n lc ac ls ms WA TG ws ts) {K : Nat} {a : Int} (b : Int) (ha : ms[K]? = some a) (hne : gL ≠ gA) (h1 : w.heap.size ≤ gA) (h2 : gA < w1.heap.size) : OnceAt w w1 (W.setCell ⟨gA, K, none⟩ (.int .i64 b)) gL gA n lc ac ls (ms.set K b) WA TG ws ts := by
  have e1 := flat_set1 V1 1 (fun _ => rfl) 0 (by omega) (.int .i64 b) b K ms a ha rfl
  rw [Nat.mul_one, Nat.add_zero] at e1
  have b3 := (h.a.stored K (.int .i64 b)).1
  rw [e1] at b3
  exact h.stepA (only_setCell (only_refl _ _) (.inl rfl) _) b3 hne h1 h2
theorem once_round (h : OnceAt w w1 W gL gA n lc ac ls ms WA TG ws ts) {q K : Nat} {x y : Los} {a b : Int} (hLA : gL ≠ gA) (hqK : q < K) (hx : ls[q]? = some x) (hy : ls[K]? = some y) (ha : ms[q]? = some a) (hbb : ms[K]? = some b)
    (h1 : w.heap.size ≤ gL) (h2 : w.heap.size ≤ gA) (h3 : gL < w1.heap.size) (h4 : gA < w1.heap.size) :
    OnceAt w w1 ((((put10 (put10 W gL (q * 10) y) gL (K * 10) x).setCell ⟨gA, q, none⟩ (.int .i64 b)).setCell ⟨gA, K, none⟩ (.int .i64 a)).drew) gL gA n lc ac ((ls.set q y).set K x) ((ms.set q b).set K a) WA TG ws ts :=
  ((((h.setL y hx (fun e => hLA e.symm) h1 h3).setL x (by rw [List.getElem?_set_ne (by omega)]; exact hy) (fun e => hLA e.symm) h1 h3).setA b ha hLA h2 h4).setA a (by rw [List.getElem?_set_ne (by omega)]; exact hbb) hLA h2 h4).drewW
end
theorem losses_of_ownO {w : World} {base n c : Nat} {e : TypeId} {A : Option Addr} {xs : List Los} (h : w.ownsRow base e 10 (.slice A n c) n (xs.flatMap Los.cells)) (hn : n = xs.length) : Losses w base A xs := by
  subst hn; exact losses_of_own h
theorem ints_of_ownO {w : World} {base n c : Nat} {e : TypeId} {A : Option Addr} {xs : List Int} (h : w.ownsRow base e 1 (.slice A n c) n (xs.flatMap V1)) (hn : n = xs.length) : Ints w base A xs := by
  subst hn; exact ints_of_own h
theorem sameB_refl1 (xs : List Int) : sameB xs xs = true := by simp [sameB]

end Go.Proofs.Ytjbaildaifdgiaa
