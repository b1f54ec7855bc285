/-
  treatyref01.SameInts, treatyref01.Clamp: their contracts. Blocks that are laid as literals.
-/
import Derived.Test.YtpmiafnccjejnaaOwn
namespace Go.Proofs.Ytpmiafnccjejnaa
open Go.RowKit
set_option linter.unusedVariables false

theorem sl_new {α : Type} {enc : α → List Value} {k : Nat} (hk : ∀ x, (enc x).length = k) (w : World) (xs : List α) (t : TypeId) : Sl (w.alloc (.cells (xs.flatMap enc).toArray t)) w.heap.size k (some ⟨w.heap.size, 0, none⟩) (xs.map enc) := by
  intro hp
  refine ⟨w.heap.size, 0, rfl, Nat.le_refl _, by simp, fun i x hx j u hu => ?_⟩
  rw [List.getElem?_map, Option.map_eq_some_iff] at hx
  obtain ⟨y, hy, rfl⟩ := hx
  have hj : j < k := by have := (List.getElem?_eq_some_iff.1 hu).1; rwa [hk] at this
  have hf := flat_get enc k hk xs i y hy j hj
  rw [hu] at hf
  have hh : (w.alloc (.cells (xs.flatMap enc).toArray t)).heap[w.heap.size]? = some (.cells (xs.flatMap enc).toArray t) := heap_alloc_new w _
  simp only [World.cell?, hh]
  simpa using hf
theorem pairs_new (w : World) (xs : List P2) (t : TypeId) : Pairs (w.alloc (.cells (xs.flatMap P2.cells).toArray t)) w.heap.size (some ⟨w.heap.size, 0, none⟩) xs := sl_new (enc := P2.cells) (fun _ => rfl) w xs t
theorem ints_new (w : World) (xs : List Int) (t : TypeId) : Ints (w.alloc (.cells (xs.flatMap V1).toArray t)) w.heap.size (some ⟨w.heap.size, 0, none⟩) xs := sl_new (enc := V1) (fun _ => rfl) w xs t
theorem below_alloc (w : World) (o : Obj) : Below w.heap.size w (w.alloc o) := (Below.refl _ _).alloc (Nat.le_refl _) _

def sameB (xs ys : List Int) : Bool := decide (xs = ys)
theorem sameB_len {xs ys : List Int} (h : xs.length ≠ ys.length) : sameB xs ys = false := by
  unfold sameB; rw [decide_eq_false_iff_not]; intro e; rw [e] at h; exact h rfl
theorem sameB_diff {xs ys : List Int} {i : Nat} {x y : Int} (hx : xs[i]? = some x) (hy : ys[i]? = some y) (h : x ≠ y) : sameB xs ys = false := by
  unfold sameB; rw [decide_eq_false_iff_not]; intro e; rw [e, hy] at hx; injection hx with hx; exact h hx.symm
theorem sameB_all {xs ys : List Int} (hl : xs.length = ys.length) (h : ∀ i, i < xs.length → xs[i]? = ys[i]?) : sameB xs ys = true := by
  unfold sameB; rw [decide_eq_true_iff]
  apply List.ext_getElem? 
  intro i
  rcases Nat.lt_or_ge i xs.length with hi | hi
  · exact h i hi
  · rw [List.getElem?_eq_none hi, List.getElem?_eq_none (by omega)]

set_option maxHeartbeats 400000 in
theorem sameInts_any (A B : Option Addr) (c d : Nat) (xs ys : List Int) (w : World) (hx : Ints w 0 A xs) (hy : Ints w 0 B ys) (hxl : xs.length ≤ 9223372036854775807) (hyl : ys.length ≤ 9223372036854775807) :
    Calls Try.prog 18 #[.slice A xs.length c, .slice B ys.length d] w fun e w' => e = .returned (.bool (sameB xs ys)) ∧ Below w.heap.size w w' := by
  obtain ⟨n, hn⟩ : ∃ n, n = xs.length := ⟨_, rfl⟩
  obtain ⟨m, hm⟩ : ∃ m, m = ys.length := ⟨_, rfl⟩
  rw [← hn] at hxl ⊢
  rw [← hm] at hyl ⊢
  by_cases hnm : n = m
  case neg =>
    have HR := Lib.hid (sameB_len (xs := xs) (ys := ys) (by omega))
    have q : ((n : Int) != (m : Int)) = true := by simp; omega
    have q' : (n != m) = true := by simpa using hnm
    clear hn hm hnm
    go_enter Try.func18, Try.ntmps18
    go_wp2_with fail
    go_ret
    exact ⟨ret_bool HR.out.symm, Below.refl _ _⟩
  subst hnm
  have HN := Lib.hid hn
  have HM := Lib.hid hm
  clear hn hm
  go_enter Try.func18, Try.ntmps18
  go_wp2_with fail
  go_loopw [5] (fun ii wr => ∃ i : Nat, ii = .int .i64 i ∧ i ≤ n ∧ (∀ k, k < i → xs[k]? = ys[k]?) ∧ Below w.heap.size w wr) (fun ii _ => n - (intOf ii).toNat)
  case atStart => exact ⟨0, rfl, Nat.zero_le _, fun k hk => absurd hk (by omega), Below.refl _ _⟩
  case round =>
    obtain ⟨i, rfl, hi, hall, hb⟩ := hrel
    have HA := Lib.hid hall
    clear hall
    by_cases hin : i < n
    · obtain ⟨x, hxi, _⟩ := drop_cons (xs := xs) (i := i) (by rw [← HN.out]; exact hin)
      obtain ⟨y, hyi, _⟩ := drop_cons (xs := ys) (i := i) (by rw [← HM.out]; exact hin)
      obtain ⟨b1, o1, rfl, _, _, c1⟩ := (hx.below hb).at_ hxi
      obtain ⟨b2, o2, rfl, _, _, c2⟩ := (hy.below hb).at_ hyi
      by_cases hxy : x = y
      · have q : (x != y) = false := by simpa using hxy
        have HX := Lib.hid hxi
        have HY := Lib.hid hyi
        have HXY := Lib.hid hxy
        clear hxi hyi hxy
        go_wp2_with fail
        go_quiet (fail)
        go_wp2_with fail
        go_roundw
        case rel =>
          refine ⟨i + 1, by go_num, by omega, fun k hk => ?_, below_drewN hb _⟩
          by_cases hki : k = i
          · rw [hki, HX.out, HY.out, HXY.out]
          · exact HA.out k (by omega)
        case measure => simp [intOf]; omega
      · have q : (x != y) = true := by simpa using hxy
        have HR := Lib.hid (sameB_diff hxi hyi hxy)
        clear hxi hyi hxy
        go_wp2_with fail
        go_quiet (fail)
        go_wp2_with fail
        go_ret
        exact ⟨ret_bool HR.out.symm, below_drewN hb _⟩
    · go_wp2_with fail
      go_ret
      refine ⟨ret_bool (sameB_all (by rw [← HN.out, ← HM.out]) fun k hk => HA.out k (by rw [← HN.out] at hk; omega)).symm, hb⟩

def clampA (a : Int) : Int := if 17592186044416 < a then 17592186044416 else if a < -17592186044416 then -17592186044416 else a
theorem clampA_bd (a : Int) : -17592186044416 ≤ clampA a ∧ clampA a ≤ 17592186044416 := by
  unfold clampA; split
  · omega
  · split <;> omega

end Go.Proofs.Ytpmiafnccjejnaa
