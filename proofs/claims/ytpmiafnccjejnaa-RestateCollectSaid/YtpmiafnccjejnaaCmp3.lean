/-
  cmp.Compare, slices.Compare, and the order of headings that restate.Collect sorts by.
-/
import Derived.Test.YtpmiafnccjejnaaShMem
import Derived.Test.YtpmiafnccjejnaaProg
import Derived.Test.YtpmiafnccjejnaaSortK
import Derived.Test.YtpmiafnccjejnaaShelf
import Derived.Sort.Grow
namespace Go.Proofs.Ytpmiafnccjejnaa
open Go.RowKit Go.Sort
set_option linter.unusedVariables false

def cmpI (x y : Int) : Int := if x < y then -1 else if y < x then 1 else 0
set_option maxHeartbeats 400000 in
theorem isNaN_any (x : Int) (w : World) : Calls Try.prog 50 #[.int .i64 x] w fun e w' => e = .returned (.bool false) ∧ w = w' := by
  have q : (x != x) = false := by simp
  go_enter Try.func50, Try.ntmps50
  go_wp2_with fail
  go_ret
  exact ⟨rfl, rfl⟩
set_option maxHeartbeats 400000 in
theorem cmpI_any (x y : Int) (w : World) : Calls Try.prog 38 #[.int .i64 x, .int .i64 y] w fun e w' => e = .returned (.int .i64 (cmpI x y)) ∧ w = w' := by
  by_cases h1 : x < y
  · have q1 : decide (x < y) = true := by simpa using h1
    have HR : Hid (cmpI x y = -1) := by show _ = _; unfold cmpI; rw [if_pos h1]
    clear h1
    go_enter Try.func38, Try.ntmps38
    go_wp2_with (go_at_call 50; refine (isNaN_any _ _).mono ?_; rintro e w' ⟨rfl, rfl⟩)
    go_ret
    exact ⟨ret_int HR.out.symm, rfl⟩
  · have q1 : decide (x < y) = false := by simpa using h1
    by_cases h2 : y < x
    · have q2 : decide (y < x) = true := by simpa using h2
      have HR : Hid (cmpI x y = 1) := by show _ = _; unfold cmpI; rw [if_neg h1, if_pos h2]
      clear h1 h2
      go_enter Try.func38, Try.ntmps38
      go_wp2_with (go_at_call 50; refine (isNaN_any _ _).mono ?_; rintro e w' ⟨rfl, rfl⟩)
      go_ret
      exact ⟨ret_int HR.out.symm, rfl⟩
    · have q2 : decide (y < x) = false := by simpa using h2
      have HR : Hid (cmpI x y = 0) := by show _ = _; unfold cmpI; rw [if_neg h1, if_neg h2]
      clear h1 h2
      go_enter Try.func38, Try.ntmps38
      go_wp2_with (go_at_call 50; refine (isNaN_any _ _).mono ?_; rintro e w' ⟨rfl, rfl⟩)
      go_ret
      exact ⟨ret_int HR.out.symm, rfl⟩
/-- The first that differs. -/
def cmpL : List Int → List Int → Int
  | x :: xs, y :: ys => if cmpI x y = 0 then cmpL xs ys else cmpI x y
  | _, _ => 0
set_option maxHeartbeats 1000000 in
theorem compare_any (A B : Option Addr) (c d : Nat) (xs ys : List Int) (w : World) (hl : xs.length ≤ 1000) (he : ys.length = xs.length) (hx : Ints w 0 A xs) (hy : Ints w 0 B ys) :
    Calls Try.prog 30 #[.slice A xs.length c, .slice B ys.length d] w fun e w' => e = .returned (.int .i64 (cmpL xs ys)) ∧ w = w' := by
  rw [he]
  obtain ⟨n, hn⟩ : ∃ n, n = xs.length := ⟨_, rfl⟩
  rw [← hn] at hl he ⊢
  have HN := Lib.hid hn
  have HM := Lib.hid he
  clear hn he
  go_enter Try.func30, Try.ntmps30
  go_wp2_with fail
  go_loopw [5, 6, 7, 8, 11] (fun _ _ _ _ ii wr => ∃ k : Nat, k ≤ n ∧ ii = .int .i64 k ∧ cmpL (xs.drop k) (ys.drop k) = cmpL xs ys ∧ wr = w) (fun _ _ _ _ ii _ => n - (intOf ii).toNat)
  case atStart => exact ⟨0, Nat.zero_le _, rfl, rfl, rfl⟩
  case round =>
    obtain ⟨k, hk, rfl, hc, hwr⟩ := hrel
    rw [hwr]
    have HC := Lib.hid hc
    clear hwr hc
    by_cases hkn : k < n
    case neg =>
      obtain rfl : k = n := by omega
      have HR : Hid (cmpL xs ys = 0) := by show _ = _; rw [← HC.out, List.drop_of_length_le (by rw [← HN.out]; exact Nat.le_refl _)]; rfl
      go_wp2_with fail
      go_ret
      exact ⟨ret_int HR.out.symm, rfl⟩
    obtain ⟨x, hxk, hdx⟩ := drop_cons (xs := xs) (i := k) (by rw [← HN.out]; exact hkn)
    obtain ⟨y, hyk, hdy⟩ := drop_cons (xs := ys) (i := k) (by rw [HM.out]; exact hkn)
    obtain ⟨b1, o1, rfl, _, _, c1⟩ := hx.at_ hxk
    obtain ⟨b2, o2, rfl, _, _, c2⟩ := hy.at_ hyk
    have HD : Hid (cmpL xs ys = if cmpI x y = 0 then cmpL (xs.drop (k + 1)) (ys.drop (k + 1)) else cmpI x y) := by show _ = _; rw [← HC.out, hdx, hdy]; rfl
    have hkn' : (k : Int) < (n : Int) := by omega
    have q1 : decide ((n : Int) ≤ (k : Int)) = false := by simp; omega
    obtain ⟨cv, hcv⟩ : ∃ z, z = cmpI x y := ⟨_, rfl⟩
    have CI := Lib.hid (cmpI_any x y w)
    rw [← hcv] at HD CI
    clear hxk hyk hdx hdy hcv
    by_cases h0 : cv = 0
    · have q2 : (cv != 0) = false := by simpa using h0
      rw [if_pos h0] at HD
      clear h0
      go_wp2_with (go_at_call 38; refine CI.out.mono ?_; rintro e w' ⟨rfl, rfl⟩)
      go_roundw
      case rel => exact ⟨k + 1, by omega, by go_num, HD.out.symm, by first | rfl | trivial⟩
      case measure => simp [intOf]; omega
    · have q2 : (cv != 0) = true := by simpa using h0
      rw [if_neg h0] at HD
      clear h0
      go_wp2_with (go_at_call 38; refine CI.out.mono ?_; rintro e w' ⟨rfl, rfl⟩)
      go_ret
      exact ⟨ret_int HD.out.symm, rfl⟩

theorem lt_of_heap0C {w : World} {b : Nat} {o : Obj} (h : w.heap[b]? = some o) : b < w.heap.size := by
  rcases Nat.lt_or_ge b w.heap.size with hlt | hge
  · exact hlt
  · rw [Array.getElem?_eq_none hge] at h; cases h
/-- A heading. -/
structure H3 where
  a : Int
  b : Int
  c : Int
instance : Inhabited H3 := ⟨⟨0, 0, 0⟩⟩
def H3.cells (x : H3) : List Value := [.int .i64 x.a, .int .i64 x.b, .int .i64 x.c]
def cmpH (x y : H3) : Int := cmpL [x.a, x.b, x.c] [y.a, y.b, y.c]
def h3Lt (x y : H3) : Prop := x.a < y.a ∨ (x.a = y.a ∧ (x.b < y.b ∨ (x.b = y.b ∧ x.c < y.c)))
theorem cmpH_neg (x y : H3) : cmpH x y < 0 ↔ h3Lt x y := by
  unfold cmpH h3Lt
  simp only [cmpL]
  unfold cmpI
  repeat' split
  all_goals omega
theorem swoH : SWO (ltOf cmpH) where
  irrefl x := by
    unfold ltOf; rw [decide_eq_false_iff_not, cmpH_neg]; unfold h3Lt; omega
  trans x y z h1 h2 := by
    unfold ltOf at *
    rw [decide_eq_true_eq, cmpH_neg] at *
    unfold h3Lt at *; omega
  ntrans x y z h1 h2 := by
    unfold ltOf at *
    rw [decide_eq_false_iff_not, cmpH_neg] at *
    unfold h3Lt at *; omega

set_option maxHeartbeats 1000000 in
theorem closureH (x y : H3) (W : World) : Calls Try.prog 29 #[.agg (H3.cells x).toArray, .agg (H3.cells y).toArray] W fun e w' => e = .returned (.int .i64 (cmpH x y)) ∧ ∃ q os', w' = Sort.grow (W.drewN q) os' := by
  obtain ⟨a, b, c⟩ := x
  obtain ⟨d, e, f⟩ := y
  show Calls Try.prog 29 #[.agg #[.int .i64 a, .int .i64 b, .int .i64 c], .agg #[.int .i64 d, .int .i64 e, .int .i64 f]] W fun e' w' => e' = .returned (.int .i64 (cmpL [a, b, c] [d, e, f])) ∧ ∃ q os', w' = Sort.grow (W.drewN q) os'
  obtain ⟨w1, hw1⟩ : ∃ x : World, x = W.alloc (.cells #[.int .i64 a, .int .i64 b, .int .i64 c] 50) := ⟨_, rfl⟩
  obtain ⟨w2, hw2⟩ : ∃ x : World, x = w1.alloc (.cells #[.int .i64 d, .int .i64 e, .int .i64 f] 50) := ⟨_, rfl⟩
  have hh2 : w2.heap[w1.heap.size]? = some (.cells #[.int .i64 d, .int .i64 e, .int .i64 f] 50 (0, 0)) := by rw [hw2]; exact heap_alloc_new _ _
  have hh1 : w2.heap[W.heap.size]? = some (.cells #[.int .i64 a, .int .i64 b, .int .i64 c] 50 (0, 0)) := by
    have h1 : w1.heap[W.heap.size]? = some (.cells #[.int .i64 a, .int .i64 b, .int .i64 c] 50 (0, 0)) := by rw [hw1]; exact heap_alloc_new _ _
    rw [hw2]
    exact (Below.heap_alloc _ _ _ (by rw [hw1]; simp)).trans h1
  have hs1 : w1.heap.size = W.heap.size + 1 := by rw [hw1]; simp
  rw [hs1] at hh2
  have hI : ∀ (g : Nat) (u v z : Int), w2.heap[g]? = some (.cells #[.int .i64 u, .int .i64 v, .int .i64 z] 50 (0, 0)) → Ints w2 0 (some ⟨g, 0, none⟩) [u, v, z] := fun g u v z h _ => by
    refine ⟨g, 0, rfl, Nat.zero_le _, lt_of_heap0C h, fun i x hx j u' hu => ?_⟩
    simp only [World.cell?, h]
    match i, hx with
    | 0, hx => simp at hx; subst hx; match j, hu with | 0, hu => simpa [V1] using hu
    | 1, hx => simp at hx; subst hx; match j, hu with | 0, hu => simpa [V1] using hu
    | 2, hx => simp at hx; subst hx; match j, hu with | 0, hu => simpa [V1] using hu
    | i + 3, hx => simp at hx
  have CQ : Hid (∀ k, Calls Try.prog 30 #[.slice (some ⟨W.heap.size, 0, none⟩) 3 3, .slice (some ⟨W.heap.size + 1, 0, none⟩) 3 3] (w2.drewN k) fun e' w' => e' = .returned (.int .i64 (cmpL [a, b, c] [d, e, f])) ∧ ∃ m, w' = (w2.drewN k).drewN m) := fun k => (compare_any _ _ 3 3 [a, b, c] [d, e, f] (w2.drewN k) (by simp) rfl (Sl.drewN (hI _ _ _ _ hh1) k) (Sl.drewN (hI _ _ _ _ hh2) k)).mono fun e' w' ⟨h1, h2⟩ => ⟨h1, 0, h2.symm⟩
  have HW1 := Lib.hid hw1
  have HW2 := Lib.hid hw2
  go_enter Try.func29, Try.ntmps29
  go_wp2_with fail
  rw [← hw1, ← hw2]
  clear hw1 hw2
  go_quiet (exact Calls.quiet_of (CQ.out _))
  go_wp2_with fail
  go_ret
  exact ⟨rfl, _, _, by rw [HW2.out, HW1.out, alloc_eq_grow, alloc_eq_grow, grow_grow]; rfl⟩
theorem cmpLaysH (blk off size : Nat) (w : World) : CmpLays Try.prog 29 #[] H3.cells 3 cmpH blk off size w :=
  fun _ _ _ _ x y => closureH x y _

end Go.Proofs.Ytpmiafnccjejnaa
