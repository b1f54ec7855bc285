/-
  Texts of the proof, one after the other.
-/
import Derived.Test.YtilkcailpkebdaaGreatBase1
import Derived.Test.YtilkcailpkebdaaGreatBase2
import Derived.Test.YtilkcailpkebdaaGreatBase3
import Derived.Test.YtilkcailpkebdaaGreatBase4
import Derived.Deep.RegionLaw
import Derived.Laws.OwnMore
import Derived.Deep.DeepCutAuto
import Derived.Outline
import Derived.Test.YtilkcailpkebdaaGreatBase5
import Derived.Test.YtilkcailpkebdaaGreatBase7

/-
  treatyref25.insert: its contract.
-/
namespace Go.Proofs.YtilkcailpkebdaaGreat
open Go.RowKit
set_option linter.unusedVariables false

theorem insI_skip {xs : List Int} {k : Nat} {x n : Int} (hd : xs.drop k = x :: xs.drop (k + 1)) (hx : xs[k]? = some x) (h : x < n) (r : List Int) (he : r = xs.take k ++ insI (xs.drop k) n) : r = xs.take (k + 1) ++ insI (xs.drop (k + 1)) n := by
  rw [he, hd, insI, if_pos h, List.take_add_one, hx]; simp
theorem insI_stop {xs : List Int} {k : Nat} {x n : Int} (hd : xs.drop k = x :: xs.drop (k + 1)) (h : ¬ x < n) (r : List Int) (he : r = xs.take k ++ insI (xs.drop k) n) : r = if x = n then xs else xs.take k ++ (n :: xs.drop k) := by
  rw [he, hd, insI, if_neg h]
  split
  · rw [← hd, List.take_append_drop]
  · rfl
theorem insI_end {xs : List Int} {k : Nat} {n : Int} (hk : k = xs.length) (r : List Int) (he : r = xs.take k ++ insI (xs.drop k) n) : r = xs.take k ++ (n :: xs.drop k) := by
  rw [he, hk, List.drop_length]; rfl

/-- A source of an append: nil, or ints that lie at an address. -/
def Src (W : World) (X : Option Addr) (m c : Nat) (ys : List Int) : Prop :=
  (X = none ∧ m = 0 ∧ c = 0 ∧ ys = []) ∨ ∃ ad, X = some ad ∧ m = ys.length ∧ ∀ (j : Nat) (u : Value), (ys.flatMap V1)[j]? = some u → W.cell? (ad.add j) = some u
theorem step_append_src {P : Program} {w : World} {ops : Array Oper} {o : Oper} {a : Act} {K : Act → World → Prop} {Q : Exit → Act → World → Prop} {E : Prop} (hgd : o.guard = none) (s x : Operand) (t : TypeId)
    (ho : o.op = .call { callee := .builtin .append, args := #[s, x], argTypes := #[t, t] })
    (base : Nat) (e : TypeId) (i : TypeInfo) (z : Value) (ht : P.underlying t = some (.slice e)) (hi : P.info? e = some i) (hz : i.zero = some z)
    (hsize : i.size = 1) (hby : i.bytes = 8) (hzs : z.cells.size = 1)
    (v : Value) (n : Nat) (xs : List Value) (hs : a.eval s = v) (hown : w.ownsRow base e 1 v n xs)
    (X : Option Addr) (m c : Nat) (ys : List Int) (hx : a.eval x = .slice X m c) (hsrc : Src w X m c ys)
    (h63 : n + m ≤ 100000) (hbase : base ≤ w.heap.size)
    (h : ∀ v' w', w'.ownsRow base e 1 v' (n + m) (xs ++ ys.flatMap V1) → w.grownBy w' v.ownBlock → K (a.put o.dst v') w') :
    if Region.wanted o (yielded ops a.tmps) = true then Oper.wp P o a w K Q else E := by
  have hw : Region.wanted o (yielded ops a.tmps) = true := by simp [Region.wanted, hgd]
  rw [if_pos hw]
  rcases hsrc with ⟨rfl, rfl, rfl, rfl⟩ | ⟨ad, rfl, hm, hc⟩
  · have hrun := run_append_owned_none (P := P) (w := w) base t o.type e i 1 ht hi v n xs hown
    unfold Oper.wp
    simp [execOp, ho, resolve, invoke, builtin, hs, hx, hrun, Result.andThen]
    exact h v w (by simpa using hown) (World.grownBy.refl w _)
  · exact wp_append_own w s x t ho base e i z 1 8 ht hi hz hsize hby hzs (by omega) v n xs hs hown ad m c (ys.flatMap V1) hx (by rw [flat_V1, List.length_map]; omega) hc (fun u hu => by rw [flat_V1] at hu; obtain ⟨y, _, rfl⟩ := List.mem_map.1 hu; rfl) (by unfold maxLen; omega) (by omega) hbase fun v' w' h2 h3 _ => h v' w' h2 h3

theorem addr_at (b off j : Nat) : (({ block := b, off := off } : Addr).add j) = ⟨b, off + j, none⟩ := by
  unfold Addr.add; split
  · rename_i h; rw [h]; simp
  · rfl
theorem ints_at {W : World} {lo b off : Nat} {xs : List Int} (h : Ints W lo (some ⟨b, off, none⟩) xs) {j : Nat} {x : Int} (hx : xs[j]? = some x) : W.cell? ⟨b, off + j, none⟩ = some (.int .i64 x) := by
  obtain ⟨b', off', e, _, _, hc⟩ := h.at_ hx
  obtain ⟨rfl, rfl⟩ : b = b' ∧ off = off' := by simpa using e
  exact hc
theorem src_take {W : World} {b off c k : Nat} {xs : List Int} (h : Ints W 0 (some ⟨b, off, none⟩) xs) (hk : k ≤ xs.length) : Src W (some ⟨b, off, none⟩) k c (xs.take k) := by
  refine .inr ⟨_, rfl, by rw [List.length_take]; omega, fun j u hu => ?_⟩
  rw [flat_V1, List.getElem?_map, Option.map_eq_some_iff] at hu
  obtain ⟨x, hx, rfl⟩ := hu
  rw [List.getElem?_take] at hx
  split at hx
  · rw [addr_at]; exact ints_at h hx
  · cases hx
theorem src_drop {W : World} {b off c k m : Nat} {xs : List Int} (h : Ints W 0 (some ⟨b, off, none⟩) xs) (hm : m = xs.length) (hk : k ≤ m) (hc : m ≤ c) : Src W (if c = k then some ⟨b, off, none⟩ else some ⟨b, off + k, none⟩) (m - k) (c - k) (xs.drop k) := by
  by_cases hck : c = k
  · rw [if_pos hck]
    have : xs.drop k = [] := List.drop_of_length_le (by omega)
    rw [this]
    exact .inr ⟨_, rfl, by simp; omega, fun j u hu => by simp at hu⟩
  · rw [if_neg hck]
    refine .inr ⟨_, rfl, by rw [List.length_drop]; omega, fun j u hu => ?_⟩
    rw [flat_V1, List.getElem?_map, Option.map_eq_some_iff] at hu
    obtain ⟨x, hx, rfl⟩ := hu
    rw [List.getElem?_drop] at hx
    rw [addr_at, Nat.add_assoc]; exact ints_at h hx
theorem src_one {W : World} {g : Nat} {n : Int} {t : TypeId} {fr : Nat × Nat} (h : W.heap[g]? = some (.cells #[.int .i64 n] t fr)) : Src W (some ⟨g, 0, none⟩) 1 1 [n] := by
  refine .inr ⟨_, rfl, rfl, fun j u hu => ?_⟩
  rw [addr_at]
  simp only [World.cell?, h]
  simpa [V1] using hu
theorem own_e1 (w : World) (e : TypeId) : ((w.alloc (.cells #[] e)).drew).ownsRow w.heap.size e 1 (.slice (some ⟨w.heap.size, 0, none⟩) 0 0) 0 [] :=
  ⟨by simp, .inr ⟨w.heap.size, 0, #[], rfl, Nat.le_refl _, heap_alloc_new w _, Nat.le_refl _, Nat.zero_le _, by simp, by simp⟩⟩
theorem own_e2 (w : World) (e : TypeId) (o : Obj) : (((w.alloc (.cells #[] e)).alloc o).drew).ownsRow w.heap.size e 1 (.slice (some ⟨w.heap.size, 0, none⟩) 0 0) 0 [] :=
  ⟨by simp, .inr ⟨w.heap.size, 0, #[], rfl, Nat.le_refl _, (Below.heap_alloc _ _ _ (by simp)).trans (heap_alloc_new w _), Nat.le_refl _, Nat.zero_le _, by simp, by simp⟩⟩
theorem heap_2nd (w : World) (r o : Obj) : (((w.alloc r).alloc o).drew).heap[w.heap.size + 1]? = some o := by
  have h := heap_alloc_new (w.alloc r) o
  have e : (w.alloc r).heap.size = w.heap.size + 1 := by simp
  rw [e] at h; exact h
theorem own_e3 (w : World) (e : TypeId) (o : Obj) : (((w.alloc o).alloc (.cells #[] e)).drew).ownsRow w.heap.size e 1 (.slice (some ⟨w.heap.size + 1, 0, none⟩) 0 0) 0 [] :=
  ⟨by simp, .inr ⟨w.heap.size + 1, 0, #[], rfl, by omega, heap_2nd w _ _, Nat.le_refl _, Nat.zero_le _, by simp, by simp⟩⟩
theorem below_own {w0 W w1 : World} {v : Value} {n : Nat} {e : TypeId} {xs : List Value} (h : Below w0.heap.size w0 W) (hown : W.ownsRow w0.heap.size e 1 v n xs) (hg : W.grownBy w1 v.ownBlock) : Below w0.heap.size w0 w1 :=
  h.grown hg h.size (fun g hg' => own_low hown g hg')

theorem ret_slice {A : Option Addr} {n n' c : Nat} (h : n = n') : Ending.returned (.slice A n c) = .returned (.slice A n' c) := by rw [h]
theorem own_cap {w : World} {base n c : Nat} {e : TypeId} {size : Nat} {A : Option Addr} {xs : List Value} (h : w.ownsRow base e size (.slice A n c) n xs) : c ≤ maxLen := by
  rcases h.2 with ⟨hv, _⟩ | ⟨g, cap, cur, hv, _, _, _, hcm, _⟩
  · injection hv with _ _ h3; rw [h3]; exact Nat.zero_le _
  · injection hv with _ _ h3; rw [h3]; exact hcm
def Flat (A : Option Addr) : Prop := A = none ∨ ∃ b off, A = some ⟨b, off, none⟩
theorem own_flat {w : World} {base n c : Nat} {e : TypeId} {size : Nat} {A : Option Addr} {xs : List Value} (h : w.ownsRow base e size (.slice A n c) n xs) : Flat A := by
  rcases h.2 with ⟨hv, _⟩ | ⟨g, cap, cur, hv, _⟩
  · injection hv with h1; exact .inl h1
  · injection hv with h1; exact .inr ⟨g, 0, h1⟩
theorem own_nocap {w : World} {base n c : Nat} {e : TypeId} {size : Nat} {xs : List Value} (h : w.ownsRow base e size (.slice none n c) n xs) : c = 0 := by
  rcases h.2 with ⟨hv, _⟩ | ⟨g, cap, cur, hv, _⟩
  · injection hv
  · injection hv with h1; cases h1
theorem ints_of_ownS {w : World} {base n c : Nat} {e : TypeId} {A : Option Addr} {vs : List Value} {xs : List Int} (h : w.ownsRow base e 1 (.slice A n c) n vs) (hv : vs = xs.flatMap V1) : Ints w base A xs := by
  subst hv
  have hn : n = xs.length := by have := h.1; rw [flat_V1, List.length_map] at this; omega
  subst hn
  exact ints_of_own h

set_option maxRecDepth 100000 in
set_option maxHeartbeats 1000000 in
theorem insert_any (A : Option Addr) (c : Nat) (xs : List Int) (n : Int) (w : World) (hl : xs.length ≤ 1000) (hlc : xs.length ≤ c) (hcm : c ≤ 9223372036854775807) (hAn : A = none → c = 0) (hAf : Flat A) (hX : Ints w 0 A xs) :
    Calls Tryz.prog 65 #[.slice A xs.length c, .int .i64 n] w fun e w' => ∃ (B : Option Addr) (d : Nat), e = .returned (.slice B (insI xs n).length d) ∧ (insI xs n).length ≤ d ∧ d ≤ 9223372036854775807 ∧ (B = none → d = 0) ∧ Flat B ∧ Ints w' 0 B (insI xs n) ∧ Below w.heap.size w w' := by
  obtain ⟨m, hm⟩ : ∃ m, m = xs.length := ⟨_, rfl⟩
  rw [← hm] at hl hlc ⊢
  have HM := Lib.hid hm
  clear hm
  go_enter Tryz.func65, Tryz.ntmps65
  go_wp2_with fail
  go_loop [5] (fun ii => ∃ k : Nat, ii = .int .i64 k ∧ k ≤ m ∧ insI xs n = xs.take k ++ insI (xs.drop k) n) (fun ii => m - (intOf ii).toNat)
  case atStart => exact ⟨0, rfl, Nat.zero_le _, by simp⟩
  case round =>
    obtain ⟨k, rfl, hk, hI⟩ := hrel
    have HI := Lib.hid hI
    clear hI
    by_cases hkm : k < m
    · obtain ⟨x, hx, hd⟩ := drop_cons (xs := xs) (i := k) (by rw [← HM.out]; exact hkm)
      obtain ⟨b, off, rfl, _, hbl, c0⟩ := hX.at_ hx
      have HXX := Lib.hid hx
      have HD := Lib.hid hd
      clear hx hd
      by_cases hlt : x < n
      · have q1 : decide (x < n) = true := by simpa using hlt
        have q0 : decide ((k : Int) < (m : Int)) = true := by simp; omega
        have HI2 := Lib.hid (insI_skip HD.out HXX.out hlt _ HI.out)
        clear hlt
        go_wp2_with fail
        go_round
        case rel => exact ⟨k + 1, by go_num, by omega, HI2.out⟩
        case measure => simp [intOf]; omega
      · have q1 : decide (x < n) = false := by simpa using hlt
        by_cases heq : x = n
        · have q2 : (x == n) = true := by simpa using heq
          have HI2 := Lib.hid (insI_stop HD.out hlt _ HI.out)
          have HI3 : Hid (insI xs n = xs) := by show insI xs n = xs; rw [HI2.out, if_pos heq]
          clear hlt heq
          go_wp2_with fail
          go_ret
          refine ⟨some ⟨b, off, none⟩, c, by rw [HI3.out, ← HM.out]; rfl, by rw [HI3.out, ← HM.out]; exact hlc, hcm, (fun h => by cases h), .inr ⟨b, off, rfl⟩, by rw [HI3.out]; exact hX, Below.refl _ _⟩
        · have q2 : (x == n) = false := by simpa using heq
          have HI2 := Lib.hid (insI_stop HD.out hlt _ HI.out)
          have HIF : Hid (insI xs n = xs.take k ++ (n :: xs.drop k)) := by show _ = _; rw [HI2.out, if_neg heq]
          have HIL : Hid ((insI xs n).length = m + 1) := by show _ = _; rw [HIF.out, List.length_append, List.length_cons, List.length_take, List.length_drop, ← HM.out]; omega
          clear hlt
          obtain ⟨i0, hi, hz0, hz1, hz2⟩ := info_parts Tryz.infoInt
          have hkc : k ≤ c := by omega
          have HT : Hid (∀ W, Below w.heap.size w W → Src W (some ⟨b, off, none⟩) k c (xs.take k)) := fun W h => src_take (hX.below h) (by rw [← HM.out]; omega)
          have HDR : Hid (∀ W, Below w.heap.size w W → Src W (if c = k then some ⟨b, off, none⟩ else some ⟨b, off + k, none⟩) (m - k) (c - k) (xs.drop k)) := fun W h => src_drop (hX.below h) HM.out (by omega) hlc
          go_wp2_with fail
          go_region_law (first
            | (refine step_append_src rfl (.tmp 33) (.tmp 36) 23 rfl w.heap.size 3 i0 _ Tryz.underlying23 hi hz0 hz1 hz2 rfl (.slice (some ⟨w.heap.size, 0, none⟩) 0 0) 0 [] (by first | rfl | (simp [Act.eval]; done)) (own_e1 _ _) (some ⟨b, off, none⟩) k c (xs.take k) (by first | rfl | (simp [Act.eval]; done)) (HT.out _ (by repeat (first | exact Below.refl _ _ | refine Below.drew ?_ | refine Below.alloc ?_ (by simp) _))) (by omega) (by first | (simp; done) | (simp; omega)) ?_; intro v1 w1 hown1 hg1; have hb1 : Below w.heap.size w w1 := below_own (by repeat (first | exact Below.refl _ _ | refine Below.drew ?_ | refine Below.alloc ?_ (by simp) _)) (own_e1 _ _) hg1; obtain ⟨V1', c1', rfl, _⟩ := own_shape hown1; simp only [Nat.zero_add, List.nil_append] at hown1 ⊢)
            | (refine step_append_src rfl (.tmp 33) (.tmp 36) 23 rfl w.heap.size 3 i0 _ Tryz.underlying23 hi hz0 hz1 hz2 rfl (.slice (some ⟨w.heap.size, 0, none⟩) 0 0) 0 [] (by first | rfl | (simp [Act.eval]; done)) (own_e2 _ _ _) (some ⟨b, off, none⟩) k c (xs.take k) (by first | rfl | (simp [Act.eval]; done)) (HT.out _ (by repeat (first | exact Below.refl _ _ | refine Below.drew ?_ | refine Below.alloc ?_ (by simp) _))) (by omega) (by first | (simp; done) | (simp; omega)) ?_; intro v1 w1 hown1 hg1; have hb1 : Below w.heap.size w w1 := below_own (by repeat (first | exact Below.refl _ _ | refine Below.drew ?_ | refine Below.alloc ?_ (by simp) _)) (own_e2 _ _ _) hg1; have hone : w1.heap[w.heap.size + 1]? = some (.cells #[.int .i64 n] 3 (0, 0)) := (hg1.block _ (by simp) (by simp [Value.ownBlock])).trans (heap_2nd _ _ _); obtain ⟨V1', c1', rfl, _⟩ := own_shape hown1; simp only [Nat.zero_add, List.nil_append] at hown1 ⊢)
            | (refine step_append_src rfl (.tmp 33) (.tmp 36) 23 rfl w.heap.size 3 i0 _ Tryz.underlying23 hi hz0 hz1 hz2 rfl (.slice (some ⟨w.heap.size + 1, 0, none⟩) 0 0) 0 [] (by first | rfl | (simp [Act.eval]; done)) (own_e3 _ _ _) (some ⟨b, off, none⟩) k c (xs.take k) (by first | rfl | (simp [Act.eval]; done)) (HT.out _ (by repeat (first | exact Below.refl _ _ | refine Below.drew ?_ | refine Below.alloc ?_ (by simp) _))) (by omega) (by first | (simp; done) | (simp; omega)) ?_; intro v1 w1 hown1 hg1; have hb1 : Below w.heap.size w w1 := below_own (by repeat (first | exact Below.refl _ _ | refine Below.drew ?_ | refine Below.alloc ?_ (by simp) _)) (own_e3 _ _ _) hg1; have hone : w1.heap[w.heap.size]? = some (.cells #[.int .i64 n] 3 (0, 0)) := (hg1.block _ (by simp; omega) (by simp [Value.ownBlock])).trans ((Below.heap_alloc _ _ _ (by simp)).trans (heap_alloc_new _ _)); obtain ⟨V1', c1', rfl, _⟩ := own_shape hown1; simp only [Nat.zero_add, List.nil_append] at hown1 ⊢)
            | (refine step_append_src rfl (.tmp 37) (.tmp 39) 23 rfl w.heap.size 3 i0 _ Tryz.underlying23 hi hz0 hz1 hz2 rfl (.slice V1' k c1') k _ (by first | rfl | (simp [Act.eval]; done)) (own_below hown1 ((Below.refl _ _).alloc (Nat.le_refl _) _)) (some ⟨w1.heap.size, 0, none⟩) 1 1 [n] (by first | rfl | (simp [Act.eval]; done)) (src_one (heap_alloc_new _ _)) (by omega) (by have := hb1.size; simp; omega) ?_; intro v2 w2 hown2 hg2; have hb2 : Below w.heap.size w w2 := below_own (hb1.alloc hb1.size _) (own_below hown1 ((Below.refl _ _).alloc (Nat.le_refl _) _)) hg2; obtain ⟨V2', c2', rfl, _⟩ := own_shape hown2)
            | (refine step_append_src rfl (.tmp 37) (.tmp 39) 23 rfl w.heap.size 3 i0 _ Tryz.underlying23 hi hz0 hz1 hz2 rfl (.slice V1' k c1') k _ (by first | rfl | (simp [Act.eval]; done)) (hown1) (some ⟨w.heap.size + 1, 0, none⟩) 1 1 [n] (by first | rfl | (simp [Act.eval]; done)) (src_one hone) (by omega) (hb1.size) ?_; intro v2 w2 hown2 hg2; have hb2 : Below w.heap.size w w2 := below_own (hb1) (hown1) hg2; obtain ⟨V2', c2', rfl, _⟩ := own_shape hown2)
            | (refine step_append_src rfl (.tmp 37) (.tmp 39) 23 rfl w.heap.size 3 i0 _ Tryz.underlying23 hi hz0 hz1 hz2 rfl (.slice V1' k c1') k _ (by first | rfl | (simp [Act.eval]; done)) (hown1) (some ⟨w.heap.size, 0, none⟩) 1 1 [n] (by first | rfl | (simp [Act.eval]; done)) (src_one hone) (by omega) (hb1.size) ?_; intro v2 w2 hown2 hg2; have hb2 : Below w.heap.size w w2 := below_own (hb1) (hown1) hg2; obtain ⟨V2', c2', rfl, _⟩ := own_shape hown2)
            | (refine step_append_src rfl (.tmp 40) (.tmp 43) 23 rfl w.heap.size 3 i0 _ Tryz.underlying23 hi hz0 hz1 hz2 rfl (.slice V2' (k + 1) c2') (k + 1) _ (by first | rfl | (simp [Act.eval]; done)) hown2 (if c = k then some ⟨b, off, none⟩ else some ⟨b, off + k, none⟩) (m - k) (c - k) (xs.drop k) (by first | rfl | (simp [Act.eval]; done)) (HDR.out _ hb2) (by omega) hb2.size ?_; intro v3 w3 hown3 hg3; have hb3 : Below w.heap.size w w3 := below_own hb2 hown2 hg3; obtain ⟨V3', c3', rfl, hc3'⟩ := own_shape hown3))
          all_goals go_wp2_with fail
          all_goals go_ret
          all_goals exact ⟨V3', c3', by rw [HIL.out]; exact ret_slice (by omega), by rw [HIL.out]; omega, (by have := own_cap hown3; unfold maxLen at this; omega), (fun h => by subst h; exact own_nocap hown3), own_flat hown3, (by rw [HIF.out]; exact (ints_of_ownS hown3 (by simp)).low (Nat.zero_le _)), hb3⟩
    · obtain rfl : k = m := by omega
      have HIF := Lib.hid (insI_end HM.out _ HI.out)
      have HIL : Hid ((insI xs n).length = k + 1) := by show _ = _; rw [HIF.out, List.length_append, List.length_cons, List.length_take, List.length_drop, ← HM.out]; omega
      rcases hAf with rfl | ⟨b, off, rfl⟩
      · obtain rfl : c = 0 := hAn rfl
        obtain rfl : k = 0 := by omega
        clear hAn
        obtain ⟨i0, hi, hz0, hz1, hz2⟩ := info_parts Tryz.infoInt
        have HT : Hid (∀ W, Below w.heap.size w W → Src W none 0 0 (xs.take 0)) := fun W h => .inl ⟨rfl, rfl, rfl, by simp⟩
        have HDR : Hid (∀ W, Below w.heap.size w W → Src W none 0 0 (xs.drop 0)) := fun W h => .inl ⟨rfl, rfl, rfl, by simp; exact List.eq_nil_of_length_eq_zero HM.out.symm⟩
        go_wp2_with fail
        go_region_law (first
          | (refine step_append_src rfl (.tmp 33) (.tmp 36) 23 rfl w.heap.size 3 i0 _ Tryz.underlying23 hi hz0 hz1 hz2 rfl (.slice (some ⟨w.heap.size, 0, none⟩) 0 0) 0 [] (by first | rfl | (simp [Act.eval]; done)) (own_e1 _ _) none 0 0 (xs.take 0) (by first | rfl | (simp [Act.eval]; done)) (HT.out _ (by repeat (first | exact Below.refl _ _ | refine Below.drew ?_ | refine Below.alloc ?_ (by simp) _))) (by omega) (by first | (simp; done) | (simp; omega)) ?_; intro v1 w1 hown1 hg1; have hb1 : Below w.heap.size w w1 := below_own (by repeat (first | exact Below.refl _ _ | refine Below.drew ?_ | refine Below.alloc ?_ (by simp) _)) (own_e1 _ _) hg1; obtain ⟨V1', c1', rfl, _⟩ := own_shape hown1; simp only [Nat.zero_add, List.nil_append] at hown1 ⊢)
          | (refine step_append_src rfl (.tmp 33) (.tmp 36) 23 rfl w.heap.size 3 i0 _ Tryz.underlying23 hi hz0 hz1 hz2 rfl (.slice (some ⟨w.heap.size, 0, none⟩) 0 0) 0 [] (by first | rfl | (simp [Act.eval]; done)) (own_e2 _ _ _) none 0 0 (xs.take 0) (by first | rfl | (simp [Act.eval]; done)) (HT.out _ (by repeat (first | exact Below.refl _ _ | refine Below.drew ?_ | refine Below.alloc ?_ (by simp) _))) (by omega) (by first | (simp; done) | (simp; omega)) ?_; intro v1 w1 hown1 hg1; have hb1 : Below w.heap.size w w1 := below_own (by repeat (first | exact Below.refl _ _ | refine Below.drew ?_ | refine Below.alloc ?_ (by simp) _)) (own_e2 _ _ _) hg1; have hone : w1.heap[w.heap.size + 1]? = some (.cells #[.int .i64 n] 3 (0, 0)) := (hg1.block _ (by simp) (by simp [Value.ownBlock])).trans (heap_2nd _ _ _); obtain ⟨V1', c1', rfl, _⟩ := own_shape hown1; simp only [Nat.zero_add, List.nil_append] at hown1 ⊢)
          | (refine step_append_src rfl (.tmp 33) (.tmp 36) 23 rfl w.heap.size 3 i0 _ Tryz.underlying23 hi hz0 hz1 hz2 rfl (.slice (some ⟨w.heap.size + 1, 0, none⟩) 0 0) 0 [] (by first | rfl | (simp [Act.eval]; done)) (own_e3 _ _ _) none 0 0 (xs.take 0) (by first | rfl | (simp [Act.eval]; done)) (HT.out _ (by repeat (first | exact Below.refl _ _ | refine Below.drew ?_ | refine Below.alloc ?_ (by simp) _))) (by omega) (by first | (simp; done) | (simp; omega)) ?_; intro v1 w1 hown1 hg1; have hb1 : Below w.heap.size w w1 := below_own (by repeat (first | exact Below.refl _ _ | refine Below.drew ?_ | refine Below.alloc ?_ (by simp) _)) (own_e3 _ _ _) hg1; have hone : w1.heap[w.heap.size]? = some (.cells #[.int .i64 n] 3 (0, 0)) := (hg1.block _ (by simp; omega) (by simp [Value.ownBlock])).trans ((Below.heap_alloc _ _ _ (by simp)).trans (heap_alloc_new _ _)); obtain ⟨V1', c1', rfl, _⟩ := own_shape hown1; simp only [Nat.zero_add, List.nil_append] at hown1 ⊢)
          | (refine step_append_src rfl (.tmp 37) (.tmp 39) 23 rfl w.heap.size 3 i0 _ Tryz.underlying23 hi hz0 hz1 hz2 rfl (.slice V1' 0 c1') 0 _ (by first | rfl | (simp [Act.eval]; done)) (own_below hown1 ((Below.refl _ _).alloc (Nat.le_refl _) _)) (some ⟨w1.heap.size, 0, none⟩) 1 1 [n] (by first | rfl | (simp [Act.eval]; done)) (src_one (heap_alloc_new _ _)) (by omega) (by have := hb1.size; simp; omega) ?_; intro v2 w2 hown2 hg2; have hb2 : Below w.heap.size w w2 := below_own (hb1.alloc hb1.size _) (own_below hown1 ((Below.refl _ _).alloc (Nat.le_refl _) _)) hg2; obtain ⟨V2', c2', rfl, _⟩ := own_shape hown2)
          | (refine step_append_src rfl (.tmp 37) (.tmp 39) 23 rfl w.heap.size 3 i0 _ Tryz.underlying23 hi hz0 hz1 hz2 rfl (.slice V1' 0 c1') 0 _ (by first | rfl | (simp [Act.eval]; done)) (hown1) (some ⟨w.heap.size + 1, 0, none⟩) 1 1 [n] (by first | rfl | (simp [Act.eval]; done)) (src_one hone) (by omega) (hb1.size) ?_; intro v2 w2 hown2 hg2; have hb2 : Below w.heap.size w w2 := below_own (hb1) (hown1) hg2; obtain ⟨V2', c2', rfl, _⟩ := own_shape hown2)
          | (refine step_append_src rfl (.tmp 37) (.tmp 39) 23 rfl w.heap.size 3 i0 _ Tryz.underlying23 hi hz0 hz1 hz2 rfl (.slice V1' 0 c1') 0 _ (by first | rfl | (simp [Act.eval]; done)) (hown1) (some ⟨w.heap.size, 0, none⟩) 1 1 [n] (by first | rfl | (simp [Act.eval]; done)) (src_one hone) (by omega) (hb1.size) ?_; intro v2 w2 hown2 hg2; have hb2 : Below w.heap.size w w2 := below_own (hb1) (hown1) hg2; obtain ⟨V2', c2', rfl, _⟩ := own_shape hown2)
          | (refine step_append_src rfl (.tmp 40) (.tmp 43) 23 rfl w.heap.size 3 i0 _ Tryz.underlying23 hi hz0 hz1 hz2 rfl (.slice V2' 1 c2') 1 _ (by first | rfl | (simp [Act.eval]; done)) hown2 none 0 0 (xs.drop 0) (by first | rfl | (simp [Act.eval]; done)) (HDR.out _ hb2) (by omega) hb2.size ?_; intro v3 w3 hown3 hg3; have hb3 : Below w.heap.size w w3 := below_own hb2 hown2 hg3; obtain ⟨V3', c3', rfl, hc3'⟩ := own_shape hown3))
        all_goals go_wp2_with fail
        all_goals go_ret
        all_goals exact ⟨V3', c3', by rw [HIL.out]; exact ret_slice (by omega), by rw [HIL.out]; omega, (by have := own_cap hown3; unfold maxLen at this; omega), (fun h => by subst h; exact own_nocap hown3), own_flat hown3, (by rw [HIF.out]; exact (ints_of_ownS hown3 (by simp)).low (Nat.zero_le _)), hb3⟩
      · clear hAn
        obtain ⟨i0, hi, hz0, hz1, hz2⟩ := info_parts Tryz.infoInt
        have hkc : k ≤ c := by omega
        have HT : Hid (∀ W, Below w.heap.size w W → Src W (some ⟨b, off, none⟩) k c (xs.take k)) := fun W h => src_take (hX.below h) (by rw [← HM.out]; omega)
        have HDR : Hid (∀ W, Below w.heap.size w W → Src W (if c = k then some ⟨b, off, none⟩ else some ⟨b, off + k, none⟩) (k - k) (c - k) (xs.drop k)) := fun W h => src_drop (hX.below h) HM.out (by omega) hlc
        go_wp2_with fail
        go_region_law (first
          | (refine step_append_src rfl (.tmp 33) (.tmp 36) 23 rfl w.heap.size 3 i0 _ Tryz.underlying23 hi hz0 hz1 hz2 rfl (.slice (some ⟨w.heap.size, 0, none⟩) 0 0) 0 [] (by first | rfl | (simp [Act.eval]; done)) (own_e1 _ _) (some ⟨b, off, none⟩) k c (xs.take k) (by first | rfl | (simp [Act.eval]; done)) (HT.out _ (by repeat (first | exact Below.refl _ _ | refine Below.drew ?_ | refine Below.alloc ?_ (by simp) _))) (by omega) (by first | (simp; done) | (simp; omega)) ?_; intro v1 w1 hown1 hg1; have hb1 : Below w.heap.size w w1 := below_own (by repeat (first | exact Below.refl _ _ | refine Below.drew ?_ | refine Below.alloc ?_ (by simp) _)) (own_e1 _ _) hg1; obtain ⟨V1', c1', rfl, _⟩ := own_shape hown1; simp only [Nat.zero_add, List.nil_append] at hown1 ⊢)
          | (refine step_append_src rfl (.tmp 33) (.tmp 36) 23 rfl w.heap.size 3 i0 _ Tryz.underlying23 hi hz0 hz1 hz2 rfl (.slice (some ⟨w.heap.size, 0, none⟩) 0 0) 0 [] (by first | rfl | (simp [Act.eval]; done)) (own_e2 _ _ _) (some ⟨b, off, none⟩) k c (xs.take k) (by first | rfl | (simp [Act.eval]; done)) (HT.out _ (by repeat (first | exact Below.refl _ _ | refine Below.drew ?_ | refine Below.alloc ?_ (by simp) _))) (by omega) (by first | (simp; done) | (simp; omega)) ?_; intro v1 w1 hown1 hg1; have hb1 : Below w.heap.size w w1 := below_own (by repeat (first | exact Below.refl _ _ | refine Below.drew ?_ | refine Below.alloc ?_ (by simp) _)) (own_e2 _ _ _) hg1; have hone : w1.heap[w.heap.size + 1]? = some (.cells #[.int .i64 n] 3 (0, 0)) := (hg1.block _ (by simp) (by simp [Value.ownBlock])).trans (heap_2nd _ _ _); obtain ⟨V1', c1', rfl, _⟩ := own_shape hown1; simp only [Nat.zero_add, List.nil_append] at hown1 ⊢)
          | (refine step_append_src rfl (.tmp 33) (.tmp 36) 23 rfl w.heap.size 3 i0 _ Tryz.underlying23 hi hz0 hz1 hz2 rfl (.slice (some ⟨w.heap.size + 1, 0, none⟩) 0 0) 0 [] (by first | rfl | (simp [Act.eval]; done)) (own_e3 _ _ _) (some ⟨b, off, none⟩) k c (xs.take k) (by first | rfl | (simp [Act.eval]; done)) (HT.out _ (by repeat (first | exact Below.refl _ _ | refine Below.drew ?_ | refine Below.alloc ?_ (by simp) _))) (by omega) (by first | (simp; done) | (simp; omega)) ?_; intro v1 w1 hown1 hg1; have hb1 : Below w.heap.size w w1 := below_own (by repeat (first | exact Below.refl _ _ | refine Below.drew ?_ | refine Below.alloc ?_ (by simp) _)) (own_e3 _ _ _) hg1; have hone : w1.heap[w.heap.size]? = some (.cells #[.int .i64 n] 3 (0, 0)) := (hg1.block _ (by simp; omega) (by simp [Value.ownBlock])).trans ((Below.heap_alloc _ _ _ (by simp)).trans (heap_alloc_new _ _)); obtain ⟨V1', c1', rfl, _⟩ := own_shape hown1; simp only [Nat.zero_add, List.nil_append] at hown1 ⊢)
          | (refine step_append_src rfl (.tmp 37) (.tmp 39) 23 rfl w.heap.size 3 i0 _ Tryz.underlying23 hi hz0 hz1 hz2 rfl (.slice V1' k c1') k _ (by first | rfl | (simp [Act.eval]; done)) (own_below hown1 ((Below.refl _ _).alloc (Nat.le_refl _) _)) (some ⟨w1.heap.size, 0, none⟩) 1 1 [n] (by first | rfl | (simp [Act.eval]; done)) (src_one (heap_alloc_new _ _)) (by omega) (by have := hb1.size; simp; omega) ?_; intro v2 w2 hown2 hg2; have hb2 : Below w.heap.size w w2 := below_own (hb1.alloc hb1.size _) (own_below hown1 ((Below.refl _ _).alloc (Nat.le_refl _) _)) hg2; obtain ⟨V2', c2', rfl, _⟩ := own_shape hown2)
          | (refine step_append_src rfl (.tmp 37) (.tmp 39) 23 rfl w.heap.size 3 i0 _ Tryz.underlying23 hi hz0 hz1 hz2 rfl (.slice V1' k c1') k _ (by first | rfl | (simp [Act.eval]; done)) (hown1) (some ⟨w.heap.size + 1, 0, none⟩) 1 1 [n] (by first | rfl | (simp [Act.eval]; done)) (src_one hone) (by omega) (hb1.size) ?_; intro v2 w2 hown2 hg2; have hb2 : Below w.heap.size w w2 := below_own (hb1) (hown1) hg2; obtain ⟨V2', c2', rfl, _⟩ := own_shape hown2)
          | (refine step_append_src rfl (.tmp 37) (.tmp 39) 23 rfl w.heap.size 3 i0 _ Tryz.underlying23 hi hz0 hz1 hz2 rfl (.slice V1' k c1') k _ (by first | rfl | (simp [Act.eval]; done)) (hown1) (some ⟨w.heap.size, 0, none⟩) 1 1 [n] (by first | rfl | (simp [Act.eval]; done)) (src_one hone) (by omega) (hb1.size) ?_; intro v2 w2 hown2 hg2; have hb2 : Below w.heap.size w w2 := below_own (hb1) (hown1) hg2; obtain ⟨V2', c2', rfl, _⟩ := own_shape hown2)
          | (refine step_append_src rfl (.tmp 40) (.tmp 43) 23 rfl w.heap.size 3 i0 _ Tryz.underlying23 hi hz0 hz1 hz2 rfl (.slice V2' (k + 1) c2') (k + 1) _ (by first | rfl | (simp [Act.eval]; done)) hown2 (if c = k then some ⟨b, off, none⟩ else some ⟨b, off + k, none⟩) (k - k) (c - k) (xs.drop k) (by first | rfl | (simp [Act.eval]; done)) (HDR.out _ hb2) (by omega) hb2.size ?_; intro v3 w3 hown3 hg3; have hb3 : Below w.heap.size w w3 := below_own hb2 hown2 hg3; obtain ⟨V3', c3', rfl, hc3'⟩ := own_shape hown3))
        all_goals go_wp2_with fail
        all_goals go_ret
        all_goals exact ⟨V3', c3', by rw [HIL.out]; exact ret_slice (by omega), by rw [HIL.out]; omega, (by have := own_cap hown3; unfold maxLen at this; omega), (fun h => by subst h; exact own_nocap hown3), own_flat hown3, (by rw [HIF.out]; exact (ints_of_ownS hown3 (by simp)).low (Nat.zero_le _)), hb3⟩

end Go.Proofs.YtilkcailpkebdaaGreat

/-
  treatyref25.Recovery: its contract, at the same plain function as window.Recovery's.
-/
namespace Go.Proofs.YtilkcailpkebdaaGreat
open Go.RowKit

set_option maxHeartbeats 1000000 in
theorem rrecovery_any (t : Int) (A : Option Addr) (c : Nat) (ls : List P2) (w : World) (hlen : ls.length ≤ 1000) (hs : Pairs w 0 A ls) :
    Calls Tryz.prog 64 #[.int .i64 t, .slice A ls.length c] w fun e w' => e = .returned (.tuple #[.int .i64 (recVal t ls), .int .i64 (recErr t ls)]) ∧ Below w.heap.size w w' := by
  obtain ⟨n, hn⟩ : ∃ n, n = ls.length := ⟨_, rfl⟩
  rw [← hn]
  have HN := Lib.hid hn
  by_cases hb : ls.length = 0 ∨ 12 < ls.length
  · have HR := Lib.hid (rec_len (t := t) hb)
    rw [← hn] at hlen hb
    clear hn hs
    rcases hb with h0 | h12
    · have e0 : ((n : Int) == 0) = true := by simp; omega
      clear h0
      go_enter Tryz.func64, Tryz.ntmps64
      go_wp2_with fail
      go_ret2
      exact ⟨ret_int2 HR.out.2.symm HR.out.1.symm, Below.refl _ _⟩
    · have e0 : ((n : Int) == 0) = false := by simp; omega
      have e1 : decide (12 < (n : Int)) = true := by simp; omega
      go_enter Tryz.func64, Tryz.ntmps64
      go_wp2_with fail
      go_ret2
      exact ⟨ret_int2 HR.out.2.symm HR.out.1.symm, Below.refl _ _⟩
  have HB := Lib.hid hb
  rw [← hn] at hb
  have h0 : 0 < n := by omega
  have h12 : n ≤ 12 := by omega
  have e0 : ((n : Int) == 0) = false := by simp; omega
  have e1 : decide (12 < (n : Int)) = false := by simp; omega
  clear hb hn hlen
  go_enter Tryz.func64, Tryz.ntmps64
  go_wp2_with fail
  go_loopw [6, 8, 19] (fun s _ i wr => ∃ (k : Nat) (acc : Int), k ≤ n ∧ i = .int .i64 k ∧ s = .int .i64 acc ∧ 0 ≤ acc ∧ acc ≤ 17592186044416 * k ∧ Below w.heap.size w wr ∧ (ls.drop k).all okLay = ls.all okLay ∧ acc + sumL t (ls.drop k) = sumL t ls) (fun _ _ i _ => n - (intOf i).toNat)
  case atStart => exact ⟨0, 0, Nat.zero_le _, rfl, rfl, by omega, by omega, Below.refl _ _, rfl, by simp⟩
  case round =>
    obtain ⟨k, acc, hk, rfl, rfl, ha0, ha1, hb, hall, hsum⟩ := hrel
    have HA := Lib.hid hall
    have HS := Lib.hid hsum
    clear hall hsum
    by_cases hlt : k < n
    · obtain ⟨l, hl, hd⟩ := drop_cons (xs := ls) (i := k) (by rw [← HN.out]; exact hlt)
      obtain ⟨b, off, rfl, _, hbl, c0, c1⟩ := (hs.below hb).at_ hl
      have HD := Lib.hid hd
      clear hd hl
      by_cases hok : okLay l = true
      · obtain ⟨g1, g2, g3, g4⟩ := (okLay_iff l).1 hok
        have HO := Lib.hid hok
        have hbd := layerF_bd t l.a l.b
        clear hok
        go_wp2_with (go_at_call 88; refine (rlayer_any _ _ _ _).mono ?_; rintro e w' ⟨rfl, rfl⟩)
        go_roundw
        case rel => exact ⟨k + 1, acc + layerF t l.a l.b, by omega, by go_num, rfl, by omega, by omega, hb.alloc hb.size _, all_of_drop HD.out HA.out HO.out, sum_of_drop HD.out HS.out⟩
        case measure => simp [intOf]; omega
      · have HO := Lib.hid (Bool.eq_false_iff.2 hok)
        have hno : ¬ (0 ≤ l.a ∧ l.a ≤ 1073741824 ∧ 1 ≤ l.b ∧ l.b ≤ 1073741824) := fun h => hok ((okLay_iff l).2 h)
        clear hok
        have HR := Lib.hid (rec_bad (t := t) HB.out (bad_of_drop HD.out HA.out HO.out))
        go_wp2_with fail
        all_goals first | (exfalso; omega) | (go_ret2; exact ⟨ret_int2 HR.out.2.symm HR.out.1.symm, hb.alloc hb.size _⟩)
    · obtain rfl : k = n := by omega
      have HT : Hid (ls.all okLay = true) := by
        have := HA.out
        rw [HN.out, List.drop_length] at this
        exact this.symm
      by_cases ht : t < 0 ∨ 17592186044416 < t
      · have HR := Lib.hid (rec_range (t := t) HB.out HT.out ht)
        by_cases ht0 : t < 0
        · go_wp2_with fail
          go_ret2
          exact ⟨ret_int2 HR.out.2.symm HR.out.1.symm, hb⟩
        · have ht1 : 17592186044416 < t := by omega
          clear ht
          go_wp2_with fail
          go_ret2
          exact ⟨ret_int2 HR.out.2.symm HR.out.1.symm, hb⟩
      · have HR := Lib.hid (rec_ok (t := t) HB.out HT.out ht)
        have ht0 : 0 ≤ t := by omega
        have ht1 : t ≤ 17592186044416 := by omega
        clear ht
        go_wp2_with fail
        go_ret2
        refine ⟨ret_int2 ?_ HR.out.1.symm, hb⟩
        have := HS.out
        rw [HN.out, List.drop_length, sumL, Int.add_zero] at this
        rw [HR.out.2]
        exact this

end Go.Proofs.YtilkcailpkebdaaGreat

/-
  treatyref25.arguments; appends of windows onto a row of the call's own; insertion into a list of windows.
-/
namespace Go.Proofs.YtilkcailpkebdaaGreat
open Go.RowKit
set_option linter.unusedVariables false

theorem insW_skip {xs : List Win} {k : Nat} {x w : Win} (hd : xs.drop k = x :: xs.drop (k + 1)) (hx : xs[k]? = some x) (h : winLt x w) (r : List Win) (he : r = xs.take k ++ insW (xs.drop k) w) : r = xs.take (k + 1) ++ insW (xs.drop (k + 1)) w := by
  rw [he, hd, insW, if_pos h, List.take_add_one, hx]; simp
theorem insW_stop {xs : List Win} {k : Nat} {x w : Win} (hd : xs.drop k = x :: xs.drop (k + 1)) (h : ¬ winLt x w) (r : List Win) (he : r = xs.take k ++ insW (xs.drop k) w) : r = xs.take k ++ (w :: xs.drop k) := by
  rw [he, hd, insW, if_neg h]
theorem insW_end {xs : List Win} {k : Nat} {w : Win} (hk : k = xs.length) (r : List Win) (he : r = xs.take k ++ insW (xs.drop k) w) : r = xs.take k ++ (w :: xs.drop k) := by
  rw [he, hk, List.drop_length]; rfl
def SrcW (W : World) (X : Option Addr) (m c : Nat) (ys : List Win) : Prop :=
  (X = none ∧ m = 0 ∧ c = 0 ∧ ys = []) ∨ ∃ ad, X = some ad ∧ m = ys.length ∧ ∀ (j : Nat) (u : Value), (ys.flatMap Win.cells)[j]? = some u → W.cell? (ad.add j) = some u
theorem step_append_srcW {P : Program} {w : World} {ops : Array Oper} {o : Oper} {a : Act} {K : Act → World → Prop} {Q : Exit → Act → World → Prop} {E : Prop} (hgd : o.guard = none) (s x : Operand) (t : TypeId)
    (ho : o.op = .call { callee := .builtin .append, args := #[s, x], argTypes := #[t, t] })
    (base : Nat) (e : TypeId) (i : TypeInfo) (z : Value) (ht : P.underlying t = some (.slice e)) (hi : P.info? e = some i) (hz : i.zero = some z)
    (hsize : i.size = 3) (hby : i.bytes = 24) (hzs : z.cells.size = 3)
    (v : Value) (n : Nat) (xs : List Value) (hs : a.eval s = v) (hown : w.ownsRow base e 3 v n xs)
    (X : Option Addr) (m c : Nat) (ys : List Win) (hx : a.eval x = .slice X m c) (hsrc : SrcW w X m c ys)
    (h63 : n + m ≤ 100000) (hbase : base ≤ w.heap.size)
    (h : ∀ v' w', w'.ownsRow base e 3 v' (n + m) (xs ++ ys.flatMap Win.cells) → w.grownBy w' v.ownBlock → K (a.put o.dst v') w') :
    if Region.wanted o (yielded ops a.tmps) = true then Oper.wp P o a w K Q else E := by
  have hw : Region.wanted o (yielded ops a.tmps) = true := by simp [Region.wanted, hgd]
  rw [if_pos hw]
  rcases hsrc with ⟨rfl, rfl, rfl, rfl⟩ | ⟨ad, rfl, hm, hc⟩
  · have hrun := run_append_owned_none (P := P) (w := w) base t o.type e i 3 ht hi v n xs hown
    unfold Oper.wp
    simp [execOp, ho, resolve, invoke, builtin, hs, hx, hrun, Result.andThen]
    exact h v w (by simpa using hown) (World.grownBy.refl w _)
  · exact wp_append_own w s x t ho base e i z 3 24 ht hi hz hsize hby hzs (by omega) v n xs hs hown ad m c (ys.flatMap Win.cells) hx (by rw [flat_len Win.cells 3 (fun _ => rfl)]; omega) hc (fun u hu => by obtain ⟨y, _, hy⟩ := List.mem_flatMap.1 hu; simp [Win.cells] at hy; rcases hy with rfl | rfl | rfl <;> rfl) (by unfold maxLen; omega) (by omega) hbase fun v' w' h2 h3 _ => h v' w' h2 h3
theorem flat_td (xs : List Win) (k : Nat) : xs.flatMap Win.cells = (xs.take k).flatMap Win.cells ++ (xs.drop k).flatMap Win.cells := by
  rw [← List.flatMap_append, List.take_append_drop]
theorem win_cells {W : World} {b off : Nat} {xs : List Win} (h : Wins W 0 (some ⟨b, off, none⟩) xs) : ∀ (j : Nat) (u : Value), (xs.flatMap Win.cells)[j]? = some u → W.cell? (({ block := b, off := off } : Addr).add j) = some u :=
  sl_cells (enc := Win.cells) (k := 3) (fun _ => rfl) (by omega) h
theorem srcW_take {W : World} {b off c k : Nat} {xs : List Win} (h : Wins W 0 (some ⟨b, off, none⟩) xs) (hk : k ≤ xs.length) : SrcW W (some ⟨b, off, none⟩) k c (xs.take k) := by
  refine .inr ⟨_, rfl, by rw [List.length_take]; omega, fun j u hu => ?_⟩
  refine win_cells h j u ?_
  rw [flat_td xs k, List.getElem?_append_left (List.getElem?_eq_some_iff.1 hu).1]; exact hu
theorem srcW_drop {W : World} {b off c k m : Nat} {xs : List Win} (h : Wins W 0 (some ⟨b, off, none⟩) xs) (hm : m = xs.length) (hk : k ≤ m) (hc : m ≤ c) : SrcW W (if c = k then some ⟨b, off, none⟩ else some ⟨b, off + k * 3, none⟩) (m - k) (c - k) (xs.drop k) := by
  by_cases hck : c = k
  · rw [if_pos hck]
    have : xs.drop k = [] := List.drop_of_length_le (by omega)
    rw [this]
    exact .inr ⟨_, rfl, by simp; omega, fun j u hu => by simp at hu⟩
  · rw [if_neg hck]
    refine .inr ⟨_, rfl, by rw [List.length_drop]; omega, fun j u hu => ?_⟩
    have := win_cells h (k * 3 + j) u (by
      rw [flat_td xs k, List.getElem?_append_right (by rw [flat_len Win.cells 3 (fun _ => rfl), List.length_take]; omega), flat_len Win.cells 3 (fun _ => rfl), List.length_take, Nat.min_eq_left (by omega), Nat.add_sub_cancel_left]; exact hu)
    rw [addr_at] at this ⊢
    rw [← this, Nat.add_assoc]
theorem srcW_one {W : World} {g : Nat} {x : Win} {t : TypeId} {fr : Nat × Nat} (h : W.heap[g]? = some (.cells #[.int .i64 x.peril, .int .i64 x.fr, .int .i64 x.to] t fr)) : SrcW W (some ⟨g, 0, none⟩) 1 1 [x] := by
  refine .inr ⟨_, rfl, rfl, fun j u hu => ?_⟩
  rw [addr_at]
  simp only [World.cell?, h]
  simpa [Win.cells] using hu
theorem own_e1W (w : World) (e : TypeId) : ((w.alloc (.cells #[] e)).drew).ownsRow w.heap.size e 3 (.slice (some ⟨w.heap.size, 0, none⟩) 0 0) 0 [] :=
  ⟨by simp, .inr ⟨w.heap.size, 0, #[], rfl, Nat.le_refl _, heap_alloc_new w _, Nat.le_refl _, Nat.zero_le _, by simp, by simp⟩⟩
theorem own_e2W (w : World) (e : TypeId) (o : Obj) : (((w.alloc (.cells #[] e)).alloc o).drew).ownsRow w.heap.size e 3 (.slice (some ⟨w.heap.size, 0, none⟩) 0 0) 0 [] :=
  ⟨by simp, .inr ⟨w.heap.size, 0, #[], rfl, Nat.le_refl _, (Below.heap_alloc _ _ _ (by simp)).trans (heap_alloc_new w _), Nat.le_refl _, Nat.zero_le _, by simp, by simp⟩⟩
theorem own_e3W (w : World) (e : TypeId) (o : Obj) : (((w.alloc o).alloc (.cells #[] e)).drew).ownsRow w.heap.size e 3 (.slice (some ⟨w.heap.size + 1, 0, none⟩) 0 0) 0 [] :=
  ⟨by simp, .inr ⟨w.heap.size + 1, 0, #[], rfl, by omega, heap_2nd w _ _, Nat.le_refl _, Nat.zero_le _, by simp, by simp⟩⟩
theorem below_ownW {w0 W w1 : World} {v : Value} {n : Nat} {e : TypeId} {xs : List Value} (h : Below w0.heap.size w0 W) (hown : W.ownsRow w0.heap.size e 3 v n xs) (hg : W.grownBy w1 v.ownBlock) : Below w0.heap.size w0 w1 :=
  h.grown hg h.size (fun g hg' => own_low hown g hg')
theorem wins_of_ownS {w : World} {base n c : Nat} {e : TypeId} {A : Option Addr} {vs : List Value} {xs : List Win} (h : w.ownsRow base e 3 (.slice A n c) n vs) (hv : vs = xs.flatMap Win.cells) : Wins w base A xs := by
  subst hv
  have hn : n = xs.length := by have := h.1; rw [flat_len Win.cells 3 (fun _ => rfl)] at this; omega
  subst hn
  exact wins_of_own h

set_option maxHeartbeats 1000000 in
theorem rargs_any (A : Option Addr) (c : Nat) (los : List Los) (M : Option Addr) (mc : Nat) (am : List Int) (n : Int) (E : Option Addr) (ec : Nat) (ls : List P2) (w : World)
    (hll : los.length ≤ 1000) (hal : am.length ≤ 1000) (hel : ls.length ≤ 1000) (hL : Losses w 0 A los) (hM : Ints w 0 M am) (hE : Pairs w 0 E ls) :
    Calls Tryz.prog 37 #[.slice A los.length c, .slice M am.length mc, .int .i64 n, .slice E ls.length ec] w fun e w' => e = .returned (.int .i64 (bestA los am n ls)) ∧ Below w.heap.size w w' := by
  have C1 := Lib.hid (rcheckE_any A c los M mc am w (by omega) (by omega) hL hM)
  have C2 : Hid (∀ (t : Int) W, Pairs W 0 E ls → _) := fun t W h => rrecovery_any t E ec ls W hel h
  obtain ⟨nl, hnl⟩ : ∃ k, k = los.length := ⟨_, rfl⟩
  obtain ⟨na, hna⟩ : ∃ k, k = am.length := ⟨_, rfl⟩
  obtain ⟨ne, hne⟩ : ∃ k, k = ls.length := ⟨_, rfl⟩
  rw [← hnl, ← hna] at C1
  rw [← hne] at C2
  rw [← hnl, ← hna, ← hne]
  clear hnl hna hne hll hal hel
  go_enter Tryz.func37, Tryz.ntmps37
  go_wp2_with fail
  refine C1.out.mono ?_
  rintro e w1 ⟨rfl, hb1⟩
  by_cases h1 : chkE los am = 0
  case neg =>
    have q : (chkE los am != 0) = true := by simpa using h1
    have HB : Hid (bestA los am n ls = chkE los am) := by unfold bestA; rw [if_pos h1]; rfl
    clear h1
    go_wp2_with fail
    go_ret
    exact ⟨ret_int HB.out.symm, hb1⟩
  have q1 : (chkE los am != 0) = false := by rw [h1]; rfl
  have H1 := Lib.hid h1
  clear h1
  go_wp2_with fail
  refine (C2.out 0 _ (hE.below hb1)).mono ?_
  rintro e w2 ⟨rfl, hb2⟩
  have hb02 := hb1.trans (hb2.mono hb1.size)
  by_cases h2 : recErr 0 ls = 0
  case neg =>
    have q : (recErr 0 ls != 0) = true := by simpa using h2
    have HB : Hid (bestA los am n ls = recErr 0 ls) := by unfold bestA; rw [if_neg (by simpa using H1.out), if_pos h2]; rfl
    clear h2
    go_wp2_with fail
    go_ret
    exact ⟨ret_int HB.out.symm, hb02⟩
  have q2 : (recErr 0 ls != 0) = false := by rw [h2]; rfl
  have H2 := Lib.hid h2
  clear h2
  by_cases h3 : n < 1 ∨ 8784 < n
  · have HB : Hid (bestA los am n ls = 1) := by unfold bestA; rw [if_neg (by simpa using H1.out), if_neg (by simpa using H2.out), if_pos h3]; rfl
    have hcases : (decide (n < 1) = true) ∨ (decide (n < 1) = false ∧ decide (8784 < n) = true) := by simp; omega
    rcases hcases with q | ⟨q, q'⟩
    all_goals
      go_wp2_with fail
      go_ret
      exact ⟨ret_int HB.out.symm, hb02⟩
  · have HB : Hid (bestA los am n ls = 0) := by unfold bestA; rw [if_neg (by simpa using H1.out), if_neg (by simpa using H2.out), if_neg h3]; rfl
    have q3 : decide (n < 1) = false := by simp; omega
    have q4 : decide (8784 < n) = false := by simp; omega
    clear h3
    go_wp2_with fail
    go_ret
    exact ⟨ret_int HB.out.symm, hb02⟩

end Go.Proofs.YtilkcailpkebdaaGreat

/-
  treatyref25.Perils: its contract.
-/
namespace Go.Proofs.YtilkcailpkebdaaGreat
open Go.RowKit
set_option linter.unusedVariables false

theorem perilsF_eq (los : List Los) : perilsF los = insAll (perilsL los) := compact_sorted _
theorem ins_next (xs : List Int) {k : Nat} {x : Int} (h : xs[k]? = some x) : insI (insAll (xs.take k)) x = insAll (xs.take (k + 1)) := by
  unfold insAll
  rw [List.take_add_one, h]; simp
theorem insAll_take_len (xs : List Int) (k : Nat) : (insAll (xs.take k)).length ≤ xs.length := Nat.le_trans (insAll_len _) (by rw [List.length_take]; omega)

set_option maxRecDepth 100000 in
set_option maxHeartbeats 1000000 in
theorem rperils_any (A : Option Addr) (c : Nat) (los : List Los) (w : World) (hll : los.length ≤ 900) (hL : Losses w 0 A los) :
    Calls Tryz.prog 38 #[.slice A los.length c] w fun e w' => ∃ (B : Option Addr) (d : Nat), e = .returned (.slice B (perilsF los).length d) ∧ Ints w' 0 B (perilsF los) ∧ Below w.heap.size w w' := by
  rw [perilsF_eq]
  obtain ⟨n, hn⟩ : ∃ n, n = los.length := ⟨_, rfl⟩
  rw [← hn] at hll ⊢
  have HN := Lib.hid hn
  have HPL : Hid ((perilsL los).length = n) := by show _ = _; unfold perilsL; rw [List.length_map]; exact hn.symm
  clear hn
  go_enter Tryz.func38, Tryz.ntmps38
  go_wp2_with fail
  go_loopw [3, 4, 7] (fun v _ ii wr => ∃ (k : Nat) (B : Option Addr) (d : Nat), k ≤ n ∧ ii = .int .i64 k ∧ v = .slice B (insAll ((perilsL los).take k)).length d ∧ (insAll ((perilsL los).take k)).length ≤ d ∧ d ≤ 9223372036854775807 ∧ (B = none → d = 0) ∧ Flat B ∧ Ints wr 0 B (insAll ((perilsL los).take k)) ∧ Below w.heap.size w wr) (fun _ _ ii _ => n - (intOf ii).toNat)
  case atStart => exact ⟨0, none, 0, Nat.zero_le _, rfl, rfl, Nat.le_refl _, by omega, fun _ => rfl, .inl rfl, Sl.none_, Below.refl _ _⟩
  case round =>
    obtain ⟨k, B, d, hk, rfl, rfl, hd1, hd2, hBn, hBf, hI, hb⟩ := hrel
    have hlen := insAll_take_len (perilsL los) k
    rw [HPL.out] at hlen
    by_cases hkn : k < n
    · obtain ⟨x, hx, _⟩ := drop_cons (xs := los) (i := k) (by rw [← HN.out]; exact hkn)
      obtain ⟨b, off, rfl, _, hbl, c0, c1, c2, c3, c4, c5, c6, c7, c8, c9⟩ := (hL.below hb).at_ hx
      have HX : Hid ((perilsL los)[k]? = some x.peril) := by show _ = _; unfold perilsL; rw [List.getElem?_map, hx]; rfl
      have C1 := Lib.hid (insert_any B d (insAll ((perilsL los).take k)) x.peril wr (by omega) hd1 hd2 hBn hBf hI)
      rw [ins_next _ HX.out] at C1
      obtain ⟨m, hm⟩ : ∃ m, m = (insAll ((perilsL los).take k)).length := ⟨_, rfl⟩
      rw [← hm] at C1 ⊢
      clear hx c0 c1 c2 c3 c5 c6 c7 c8 c9 hm hd1 hd2 hBn hBf hI hlen
      go_wp2_with fail
      refine C1.out.mono ?_
      rintro e w2 ⟨B2, d2, rfl, h1, h2, h3, h4, h5, hb2⟩
      have hb02 := hb.trans (hb2.mono hb.size)
      obtain ⟨m2, hm2⟩ : ∃ m, m = (insAll ((perilsL los).take (k + 1))).length := ⟨_, rfl⟩
      rw [← hm2] at h1 ⊢
      have HM2 := Lib.hid hm2
      have H5 := Lib.hid h5
      have H3 := Lib.hid h3
      have H4 := Lib.hid h4
      clear hm2 h5 h3 h4 C1 hb2
      go_wp2_with fail
      go_roundw
      case rel => exact ⟨k + 1, B2, d2, by omega, by go_num, by rw [← HM2.out], by rw [← HM2.out]; exact h1, h2, H3.out, H4.out, H5.out, hb02⟩
      case measure => simp [intOf]; omega
    · obtain rfl : k = n := by omega
      rw [List.take_of_length_le (by rw [HPL.out]; exact Nat.le_refl _)] at hI ⊢
      go_wp2_with fail
      go_ret
      exact ⟨B, d, rfl, hI, hb⟩

end Go.Proofs.YtilkcailpkebdaaGreat
