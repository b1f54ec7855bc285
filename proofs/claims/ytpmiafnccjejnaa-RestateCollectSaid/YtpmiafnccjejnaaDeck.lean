/-
  The decks of numbers: New, Next, Small.
-/
import Derived.Test.YtpmiafnccjejnaaWords
import Derived.Test.YtpmiafnccjejnaaProg
import Derived.RegionTactic
namespace Go.Proofs.Ytpmiafnccjejnaa
open Go.RowKit
set_option linter.unusedVariables false

/-- Block bd is a deck: a list of ints that lies in an older block, and how many of them are used. -/
def Deck (w : World) (bd : Nat) : Prop :=
  ∃ (A : Option Addr) (c a : Nat) (xs : List Int), w.heap[bd]? = some (.cells #[.slice A xs.length c, .int .i64 (a : Int)] 61 (0, 0)) ∧ a ≤ xs.length ∧ xs.length ≤ 9223372036854775807 ∧
    (0 < xs.length → ∃ b off, A = some ⟨b, off, none⟩ ∧ b < bd ∧ ∀ (i : Nat) (x : Int), xs[i]? = some x → w.cell? ⟨b, off + i, none⟩ = some (.int .i64 x))
theorem Deck.lt {w : World} {bd : Nat} (h : Deck w bd) : bd < w.heap.size := by
  obtain ⟨A, c, a, xs, hh, _⟩ := h
  rcases Nat.lt_or_ge bd w.heap.size with hlt | hge
  · exact hlt
  · rw [Array.getElem?_eq_none hge] at hh; cases hh
theorem Deck.keep {w w' : World} {bd : Nat} (h : Deck w bd) (hb : ∀ k, k ≤ bd → w'.heap[k]? = w.heap[k]?) : Deck w' bd := by
  obtain ⟨A, c, a, xs, hh, h1, h2, h3⟩ := h
  refine ⟨A, c, a, xs, (hb bd (Nat.le_refl _)).trans hh, h1, h2, fun hp => ?_⟩
  obtain ⟨b, off, e, hlt, hc⟩ := h3 hp
  exact ⟨b, off, e, hlt, fun i x hx => (World.cell?_of_block (hb b (by omega))).trans (hc i x hx)⟩
theorem Deck.below {w w' : World} {bd : Nat} (h : Deck w bd) (hb : Below w.heap.size w w') : Deck w' bd := h.keep fun k hk => hb.block k (by have := h.lt; omega)
theorem Deck.drewN {w : World} {bd : Nat} (h : Deck w bd) (n : Nat) : Deck (w.drewN n) bd := h
theorem Deck.grown {w w' : World} {bd : Nat} {row : Option Nat} (h : Deck w bd) (hg : w.grownBy w' row) (hr : ∀ g, row = some g → bd < g) : Deck w' bd :=
  h.keep fun k hk => hg.block k (by have := h.lt; omega) (fun e => by have := hr k e.symm; omega)

theorem only_drewN {a w : World} {row : Option Nat} (h : a.grownBy w row) (n : Nat) : a.grownBy (w.drewN n) row := ⟨h.os, h.tape, h.output, h.size, h.block⟩
theorem only_alloc {a w : World} {row : Option Nat} (h : a.grownBy w row) (o : Obj) : a.grownBy (w.alloc o) row :=
  ⟨h.os, h.tape, h.output, Nat.le_trans h.size (by simp), fun i hi hne => (Below.heap_alloc w o i (Nat.lt_of_lt_of_le hi h.size)).trans (h.block i hi hne)⟩
theorem only_setCell {a w : World} {g : Nat} (h : a.grownBy w (some g)) {p : Addr} (hp : p.block = g ∨ a.heap.size ≤ p.block) (u : Value) : a.grownBy (w.setCell p u) (some g) :=
  ⟨h.os, h.tape, h.output, by simpa [World.setCell] using h.size, fun i hi hne => (Below.heap_setCell w p u i (by
    rintro rfl
    rcases hp with hp | hp
    · exact hne (by rw [hp])
    · omega)).trans (h.block i hi hne)⟩
theorem only_below {a w w' : World} {row : Option Nat} (h : a.grownBy w row) (hb : Below w.heap.size w w') : a.grownBy w' row :=
  ⟨hb.os.trans h.os, hb.tape.trans h.tape, hb.output.trans h.output, Nat.le_trans h.size hb.size, fun i hi hne => (hb.block i (Nat.lt_of_lt_of_le hi h.size)).trans (h.block i hi hne)⟩
theorem only_trans {a b c : World} {row : Option Nat} (h : a.grownBy b row) (k : b.grownBy c row) : a.grownBy c row :=
  ⟨k.os.trans h.os, k.tape.trans h.tape, k.output.trans h.output, Nat.le_trans h.size k.size, fun i hi hne => (k.block i (Nat.lt_of_lt_of_le hi h.size) hne).trans (h.block i hi hne)⟩
theorem only_refl (a : World) (row : Option Nat) : a.grownBy a row := ⟨rfl, rfl, rfl, Nat.le_refl _, fun _ _ _ => rfl⟩
/-- What has turned in a block that was made later: below all is as it was. -/
theorem below_of_only {a b c : World} {g : Nat} (h : Below a.heap.size a b) (hg : b.grownBy c (some g)) (hgb : a.heap.size ≤ g) : Below a.heap.size a c :=
  h.grown hg h.size (fun k hk => by injection hk with hk; omega)

set_option maxHeartbeats 400000 in
theorem mnew_any (A : Option Addr) (c : Nat) (n : Nat) (w : World) :
    Calls Try.prog 22 #[.slice A n c] w fun e w' => e = .returned (.pointer (some ⟨w.heap.size, 0, none⟩)) ∧ w' = w.alloc (.cells #[.slice A n c, .int .i64 0] 61) := by
  go_enter Try.func22, Try.ntmps22
  go_wp2_with fail
  go_ret
  exact ⟨rfl, rfl⟩

set_option maxHeartbeats 400000 in
theorem new_any (A : Option Addr) (c : Nat) (xs : List Int) (w : World) (hlen : xs.length ≤ 9223372036854775807) (h : Ints w 0 A xs) :
    Calls Try.prog 10 #[.slice A xs.length c] w fun e w' => e = .returned (.pointer (some ⟨w.heap.size, 0, none⟩)) ∧ Deck w' w.heap.size ∧ Below w.heap.size w w' ∧ w'.heap.size = w.heap.size + 1 := by
  have C := Lib.hid (mnew_any A c xs.length)
  obtain ⟨n, hn⟩ : ∃ n, n = xs.length := ⟨_, rfl⟩
  rw [← hn] at C ⊢
  have HN := Lib.hid hn
  clear hn
  go_enter Try.func10, Try.ntmps10
  go_wp2_with (go_at_call 22; refine (C.out _).mono ?_; rintro e w1 ⟨rfl, rfl⟩)
  go_ret
  refine ⟨rfl, ⟨A, c, 0, xs, ?_, Nat.zero_le _, hlen, fun hp => ?_⟩, (Below.refl _ _).alloc (Nat.le_refl _) _, by simp⟩
  · rw [← HN.out]; exact heap_alloc_new w _
  · obtain ⟨x, hx, _⟩ := drop_cons hp
    obtain ⟨b, off, e, _, hlt, _⟩ := h.at_ hx
    refine ⟨b, off, e, hlt, fun i y hy => ?_⟩
    obtain ⟨b', off', e', _, _, hc⟩ := h.at_ hy
    rw [e] at e'
    obtain ⟨rfl, rfl⟩ : b = b' ∧ off = off' := by simpa using e'
    rw [World.cell?_alloc_lt w _ _ (by simpa using hlt)]
    exact hc

theorem next_bd (x n : Int) (h : 1 ≤ n) (h2 : n ≤ 1152921504606846976) : 0 ≤ (wrap64 (x.tmod n + n)).tmod n ∧ (wrap64 (x.tmod n + n)).tmod n < n := by
  have h3 := Int.tmod_lt_of_pos x (b := n) (by omega)
  have h4 := Int.lt_tmod_of_pos x (b := n) (by omega)
  rw [IntWalk.wrap64_in _ ⟨by omega, by omega⟩]
  exact ⟨Int.tmod_nonneg _ (by omega), Int.tmod_lt_of_pos _ (by omega)⟩

set_option maxHeartbeats 400000 in
theorem next_any (bd : Nat) (n : Int) (w : World) (h1 : 1 ≤ n) (h2 : n ≤ 1152921504606846976) (hd : Deck w bd) :
    Calls Try.prog 21 #[.pointer (some ⟨bd, 0, none⟩), .int .i64 n] w fun e w' => ∃ r, e = .returned (.int .i64 r) ∧ 0 ≤ r ∧ r < n ∧ Deck w' bd ∧ w.grownBy w' (some bd) := by
  have HDK := Lib.hid hd
  obtain ⟨A, c, a, xs, hh, ha, hxl, hxs⟩ := hd
  have c0 : w.cell? ⟨bd, 0, none⟩ = some (.slice A xs.length c) := by simp [World.cell?, hh]
  have c1 : w.cell? ⟨bd, 1, none⟩ = some (.int .i64 (a : Int)) := by simp [World.cell?, hh]
  have cf : w.frozen? ⟨bd, 1, none⟩ = false := by simp [World.frozen?, hh]
  obtain ⟨m, hm⟩ : ∃ m, m = xs.length := ⟨_, rfl⟩
  have HM := Lib.hid hm
  rw [← hm] at c0 ha hxl
  have HH := Lib.hid hh
  have HXS := Lib.hid hxs
  clear hm hh hxs
  by_cases hlt : a < m
  · obtain ⟨x, hx, _⟩ := drop_cons (xs := xs) (i := a) (by rw [← HM.out]; exact hlt)
    obtain ⟨b, off, rfl, hbb, hcx⟩ := HXS.out (by rw [← HM.out]; omega)
    have x0 := hcx a x hx
    have e1 : decide (m ≤ a) = false := by simp; omega
    go_enter Try.func21, Try.ntmps21
    go_wp2_with fail
    go_quiet (fail)
    go_wp2_with fail
    obtain ⟨w2, hw2⟩ : ∃ w2 : World, w2 = (w.drewN nq).setCell ⟨bd, 1, none⟩ (.int .i64 ((a : Int) + 1)) := ⟨_, rfl⟩
    have hh2 : w2.heap[bd]? = some (.cells #[.slice (some ⟨b, off, none⟩) m c, .int .i64 ((a : Int) + 1)] 61 (0, 0)) := by
      have := HH.out
      rw [← HM.out] at this
      rw [hw2]
      simp [World.setCell, Array.getElem?_modify, this]
    have hcx2 : ∀ (i : Nat) (y : Int), xs[i]? = some y → w2.cell? ⟨b, off + i, none⟩ = some (.int .i64 y) := fun i y hy => by
      rw [hw2, World.cell?_setCell_other _ _ _ _ (fun e => by injection e with e1; omega)]; exact hcx i y hy
    have y0 : w2.cell? ⟨bd, 0, none⟩ = some (.slice (some ⟨b, off, none⟩) m c) := by simp [World.cell?, hh2]
    have y1 : w2.cell? ⟨bd, 1, none⟩ = some (.int .i64 ((a : Int) + 1)) := by simp [World.cell?, hh2]
    have x1 := hcx2 a x hx
    have hgr : w.grownBy w2 (some bd) := by rw [hw2]; exact only_setCell (only_drewN (only_refl _ _) _) (.inl rfl) _
    rw [← hw2]
    have HDK2 : Hid (Deck w2 bd) := by
      refine ⟨some ⟨b, off, none⟩, c, a + 1, xs, ?_, by rw [← HM.out]; omega, by rw [← HM.out]; exact hxl, fun _ => ⟨b, off, rfl, hbb, hcx2⟩⟩
      rw [← HM.out, hh2, show ((a + 1 : Nat) : Int) = (a : Int) + 1 by omega]
    clear hw2 hh2 hcx2 hcx hx x0 c0 c1 cf
    go_quiet (fail)
    go_wp2_with fail
    go_ret
    exact ⟨_, rfl, (next_bd x n h1 h2).1, (next_bd x n h1 h2).2, HDK2.out.drewN _, only_drewN hgr _⟩
  · have e1 : decide (m ≤ a) = true := by simp; omega
    go_enter Try.func21, Try.ntmps21
    go_wp2_with fail
    go_quiet (fail)
    go_wp2_with fail
    go_ret
    exact ⟨0, rfl, by omega, by omega, HDK.out.drewN _, only_drewN (only_refl _ _) _⟩

end Go.Proofs.Ytpmiafnccjejnaa
