/-
  treatyref25.insert: its contract.
-/
import Derived.Test.YtilkcailpkebdaaEPDef
import Derived.Test.YtilkcailpkebdaaOwn
import Derived.Test.YtilkcailpkebdaaVal
import Derived.Test.YtilkcailpkebdaaSortW
import Derived.Test.YtilkcailpkebdaaFew25
import Derived.Deep.RegionLaw
import Derived.Laws.OwnMore
import Derived.Deep.DeepCutAuto
import Derived.Outline
namespace Go.Proofs.Ytilkcailpkebdaa
open Go.RowKit
set_option linter.unusedVariables false

theorem insI_skip {xs : List Int} {k : Nat} {x n : Int} (hd : xs.drop k = x :: xs.drop (k + 1)) (hx : xs[k]? = some x) (h : x < n) (r : List Int) (he : r = xs.take k ++ insI (xs.drop k) n) : r = xs.take (k + 1) ++ insI (xs.drop (k + 1)) n := by
  rw [he, hd, insI, if_pos h, List.take_add_one, hx]; simp
theorem insI_stop {xs : List Int} {k : Nat} {x n : Int} (hd : xs.drop k = x :: xs.drop (k + 1)) (h : ¬ x < n) (r : List Int) (he : r = xs.take k ++ insI (xs.drop k) n) : r = if x = n then xs else xs.take k ++ (n :: xs.drop k) := by
  rw [he, hd, insI, if_neg h]
  split
  · rw [← hd, List.take_append_drop]
  · rfl
theorem insI_end {xs : List Int} {k : Nat} {n : Int} (hk : k = xs.length) (r : List Int) (he : r = xs.take k ++ insI (xs.drop k) n) : r = xs.take k ++ (n :: xs.drop k) := by
  rw [he, hk, List.drop_length]; rfl

/-- A source of an append: nil, or ints that lie at an address. -/
def Src (W : World) (X : Option Addr) (m c : Nat) (ys : List Int) : Prop :=
  (X = none ∧ m = 0 ∧ c = 0 ∧ ys = []) ∨ ∃ ad, X = some ad ∧ m = ys.length ∧ ∀ (j : Nat) (u : Value), (ys.flatMap V1)[j]? = some u → W.cell? (ad.add j) = some u
theorem step_append_src {P : Program} {w : World} {ops : Array Oper} {o : Oper} {a : Act} {K : Act → World → Prop} {Q : Exit → Act → World → Prop} {E : Prop} (hgd : o.guard = none) (s x : Operand) (t : TypeId)
    (ho : o.op = .call { callee := .builtin .append, args := #[s, x], argTypes := #[t, t] })
    (base : Nat) (e : TypeId) (i : TypeInfo) (z : Value) (ht : P.underlying t = some (.slice e)) (hi : P.info? e = some i) (hz : i.zero = some z)
    (hsize : i.size = 1) (hby : i.bytes = 8) (hzs : z.cells.size = 1)
    (v : Value) (n : Nat) (xs : List Value) (hs : a.eval s = v) (hown : w.ownsRow base e 1 v n xs)
    (X : Option Addr) (m c : Nat) (ys : List Int) (hx : a.eval x = .slice X m c) (hsrc : Src w X m c ys)
    (h63 : n + m ≤ 100000) (hbase : base ≤ w.heap.size)
    (h : ∀ v' w', w'.ownsRow base e 1 v' (n + m) (xs ++ ys.flatMap V1) → w.grownBy w' v.ownBlock → K (a.put o.dst v') w') :
    if Region.wanted o (yielded ops a.tmps) = true then Oper.wp P o a w K Q else E := by
  have hw : Region.wanted o (yielded ops a.tmps) = true := by simp [Region.wanted, hgd]
  rw [if_pos hw]
  rcases hsrc with ⟨rfl, rfl, rfl, rfl⟩ | ⟨ad, rfl, hm, hc⟩
  · have hrun := run_append_owned_none (P := P) (w := w) base t o.type e i 1 ht hi v n xs hown
    unfold Oper.wp
    simp [execOp, ho, resolve, invoke, builtin, hs, hx, hrun, Result.andThen]
    exact h v w (by simpa using hown) (World.grownBy.refl w _)
  · exact wp_append_own w s x t ho base e i z 1 8 ht hi hz hsize hby hzs (by omega) v n xs hs hown ad m c (ys.flatMap V1) hx (by rw [flat_V1, List.length_map]; omega) hc (fun u hu => by rw [flat_V1] at hu; obtain ⟨y, _, rfl⟩ := List.mem_map.1 hu; rfl) (by unfold maxLen; omega) (by omega) hbase fun v' w' h2 h3 _ => h v' w' h2 h3

theorem addr_at (b off j : Nat) : (({ block := b, off := off } : Addr).add j) = ⟨b, off + j, none⟩ := by
  unfold Addr.add; split
  · rename_i h; rw [h]; simp
  · rfl
theorem ints_at {W : World} {lo b off : Nat} {xs : List Int} (h : Ints W lo (some ⟨b, off, none⟩) xs) {j : Nat} {x : Int} (hx : xs[j]? = some x) : W.cell? ⟨b, off + j, none⟩ = some (.int .i64 x) := by
  obtain ⟨b', off', e, _, _, hc⟩ := h.at_ hx
  obtain ⟨rfl, rfl⟩ : b = b' ∧ off = off' := by simpa using e
  exact hc
theorem src_take {W : World} {b off c k : Nat} {xs : List Int} (h : Ints W 0 (some ⟨b, off, none⟩) xs) (hk : k ≤ xs.length) : Src W (some ⟨b, off, none⟩) k c (xs.take k) := by
  refine .inr ⟨_, rfl, by rw [List.length_take]; omega, fun j u hu => ?_⟩
  rw [flat_V1, List.getElem?_map, Option.map_eq_some_iff] at hu
  obtain ⟨x, hx, rfl⟩ := hu
  rw [List.getElem?_take] at hx
  split at hx
  · rw [addr_at]; exact ints_at h hx
  · cases hx
theorem src_drop {W : World} {b off c k m : Nat} {xs : List Int} (h : Ints W 0 (some ⟨b, off, none⟩) xs) (hm : m = xs.length) (hk : k ≤ m) (hc : m ≤ c) : Src W (if c = k then some ⟨b, off, none⟩ else some ⟨b, off + k, none⟩) (m - k) (c - k) (xs.drop k) := by
  by_cases hck : c = k
  · rw [if_pos hck]
    have : xs.drop k = [] := List.drop_of_length_le (by omega)
    rw [this]
    exact .inr ⟨_, rfl, by simp; omega, fun j u hu => by simp at hu⟩
  · rw [if_neg hck]
    refine .inr ⟨_, rfl, by rw [List.length_drop]; omega, fun j u hu => ?_⟩
    rw [flat_V1, List.getElem?_map, Option.map_eq_some_iff] at hu
    obtain ⟨x, hx, rfl⟩ := hu
    rw [List.getElem?_drop] at hx
    rw [addr_at, Nat.add_assoc]; exact ints_at h hx
theorem src_one {W : World} {g : Nat} {n : Int} {t : TypeId} {fr : Nat × Nat} (h : W.heap[g]? = some (.cells #[.int .i64 n] t fr)) : Src W (some ⟨g, 0, none⟩) 1 1 [n] := by
  refine .inr ⟨_, rfl, rfl, fun j u hu => ?_⟩
  rw [addr_at]
  simp only [World.cell?, h]
  simpa [V1] using hu
theorem own_e1 (w : World) (e : TypeId) : ((w.alloc (.cells #[] e)).drew).ownsRow w.heap.size e 1 (.slice (some ⟨w.heap.size, 0, none⟩) 0 0) 0 [] :=
  ⟨by simp, .inr ⟨w.heap.size, 0, #[], rfl, Nat.le_refl _, heap_alloc_new w _, Nat.le_refl _, Nat.zero_le _, by simp, by simp⟩⟩
theorem own_e2 (w : World) (e : TypeId) (o : Obj) : (((w.alloc (.cells #[] e)).alloc o).drew).ownsRow w.heap.size e 1 (.slice (some ⟨w.heap.size, 0, none⟩) 0 0) 0 [] :=
  ⟨by simp, .inr ⟨w.heap.size, 0, #[], rfl, Nat.le_refl _, (Below.heap_alloc _ _ _ (by simp)).trans (heap_alloc_new w _), Nat.le_refl _, Nat.zero_le _, by simp, by simp⟩⟩
theorem heap_2nd (w : World) (r o : Obj) : (((w.alloc r).alloc o).drew).heap[w.heap.size + 1]? = some o := by
  have h := heap_alloc_new (w.alloc r) o
  have e : (w.alloc r).heap.size = w.heap.size + 1 := by simp
  rw [e] at h; exact h
theorem own_e3 (w : World) (e : TypeId) (o : Obj) : (((w.alloc o).alloc (.cells #[] e)).drew).ownsRow w.heap.size e 1 (.slice (some ⟨w.heap.size + 1, 0, none⟩) 0 0) 0 [] :=
  ⟨by simp, .inr ⟨w.heap.size + 1, 0, #[], rfl, by omega, heap_2nd w _ _, Nat.le_refl _, Nat.zero_le _, by simp, by simp⟩⟩
theorem below_own {w0 W w1 : World} {v : Value} {n : Nat} {e : TypeId} {xs : List Value} (h : Below w0.heap.size w0 W) (hown : W.ownsRow w0.heap.size e 1 v n xs) (hg : W.grownBy w1 v.ownBlock) : Below w0.heap.size w0 w1 :=
  h.grown hg h.size (fun g hg' => own_low hown g hg')

theorem ret_slice {A : Option Addr} {n n' c : Nat} (h : n = n') : Ending.returned (.slice A n c) = .returned (.slice A n' c) := by rw [h]
theorem own_cap {w : World} {base n c : Nat} {e : TypeId} {size : Nat} {A : Option Addr} {xs : List Value} (h : w.ownsRow base e size (.slice A n c) n xs) : c ≤ maxLen := by
  rcases h.2 with ⟨hv, _⟩ | ⟨g, cap, cur, hv, _, _, _, hcm, _⟩
  · injection hv with _ _ h3; rw [h3]; exact Nat.zero_le _
  · injection hv with _ _ h3; rw [h3]; exact hcm
def Flat (A : Option Addr) : Prop := A = none ∨ ∃ b off, A = some ⟨b, off, none⟩
theorem own_flat {w : World} {base n c : Nat} {e : TypeId} {size : Nat} {A : Option Addr} {xs : List Value} (h : w.ownsRow base e size (.slice A n c) n xs) : Flat A := by
  rcases h.2 with ⟨hv, _⟩ | ⟨g, cap, cur, hv, _⟩
  · injection hv with h1; exact .inl h1
  · injection hv with h1; exact .inr ⟨g, 0, h1⟩
theorem own_nocap {w : World} {base n c : Nat} {e : TypeId} {size : Nat} {xs : List Value} (h : w.ownsRow base e size (.slice none n c) n xs) : c = 0 := by
  rcases h.2 with ⟨hv, _⟩ | ⟨g, cap, cur, hv, _⟩
  · injection hv
  · injection hv with h1; cases h1
theorem ints_of_ownS {w : World} {base n c : Nat} {e : TypeId} {A : Option Addr} {vs : List Value} {xs : List Int} (h : w.ownsRow base e 1 (.slice A n c) n vs) (hv : vs = xs.flatMap V1) : Ints w base A xs := by
  subst hv
  have hn : n = xs.length := by have := h.1; rw [flat_V1, List.length_map] at this; omega
  subst hn
  exact ints_of_own h

set_option maxRecDepth 100000 in
set_option maxHeartbeats 1000000 in
theorem insert_any (A : Option Addr) (c : Nat) (xs : List Int) (n : Int) (w : World) (hl : xs.length ≤ 1000) (hlc : xs.length ≤ c) (hcm : c ≤ 9223372036854775807) (hAn : A = none → c = 0) (hAf : Flat A) (hX : Ints w 0 A xs) :
    Calls Try.prog 40 #[.slice A xs.length c, .int .i64 n] w fun e w' => ∃ (B : Option Addr) (d : Nat), e = .returned (.slice B (insI xs n).length d) ∧ (insI xs n).length ≤ d ∧ d ≤ 9223372036854775807 ∧ (B = none → d = 0) ∧ Flat B ∧ Ints w' 0 B (insI xs n) ∧ Below w.heap.size w w' := by
  obtain ⟨m, hm⟩ : ∃ m, m = xs.length := ⟨_, rfl⟩
  rw [← hm] at hl hlc ⊢
  have HM := Lib.hid hm
  clear hm
  go_enter Try.func40, Try.ntmps40
  go_wp2_with fail
  go_loop [5] (fun ii => ∃ k : Nat, ii = .int .i64 k ∧ k ≤ m ∧ insI xs n = xs.take k ++ insI (xs.drop k) n) (fun ii => m - (intOf ii).toNat)
  case atStart => exact ⟨0, rfl, Nat.zero_le _, by simp⟩
  case round =>
    obtain ⟨k, rfl, hk, hI⟩ := hrel
    have HI := Lib.hid hI
    clear hI
    by_cases hkm : k < m
    · obtain ⟨x, hx, hd⟩ := drop_cons (xs := xs) (i := k) (by rw [← HM.out]; exact hkm)
      obtain ⟨b, off, rfl, _, hbl, c0⟩ := hX.at_ hx
      have HXX := Lib.hid hx
      have HD := Lib.hid hd
      clear hx hd
      by_cases hlt : x < n
      · have q1 : decide (x < n) = true := by simpa using hlt
        have q0 : decide ((k : Int) < (m : Int)) = true := by simp; omega
        have HI2 := Lib.hid (insI_skip HD.out HXX.out hlt _ HI.out)
        clear hlt
        go_wp2_with fail
        go_round
        case rel => exact ⟨k + 1, by go_num, by omega, HI2.out⟩
        case measure => simp [intOf]; omega
      · have q1 : decide (x < n) = false := by simpa using hlt
        by_cases heq : x = n
        · have q2 : (x == n) = true := by simpa using heq
          have HI2 := Lib.hid (insI_stop HD.out hlt _ HI.out)
          have HI3 : Hid (insI xs n = xs) := by show insI xs n = xs; rw [HI2.out, if_pos heq]
          clear hlt heq
          go_wp2_with fail
          go_ret
          refine ⟨some ⟨b, off, none⟩, c, by rw [HI3.out, ← HM.out]; rfl, by rw [HI3.out, ← HM.out]; exact hlc, hcm, (fun h => by cases h), .inr ⟨b, off, rfl⟩, by rw [HI3.out]; exact hX, Below.refl _ _⟩
        · have q2 : (x == n) = false := by simpa using heq
          have HI2 := Lib.hid (insI_stop HD.out hlt _ HI.out)
          have HIF : Hid (insI xs n = xs.take k ++ (n :: xs.drop k)) := by show _ = _; rw [HI2.out, if_neg heq]
          have HIL : Hid ((insI xs n).length = m + 1) := by show _ = _; rw [HIF.out, List.length_append, List.length_cons, List.length_take, List.length_drop, ← HM.out]; omega
          clear hlt
          obtain ⟨i0, hi, hz0, hz1, hz2⟩ := info_parts Try.infoInt
          have hkc : k ≤ c := by omega
          have HT : Hid (∀ W, Below w.heap.size w W → Src W (some ⟨b, off, none⟩) k c (xs.take k)) := fun W h => src_take (hX.below h) (by rw [← HM.out]; omega)
          have HDR : Hid (∀ W, Below w.heap.size w W → Src W (if c = k then some ⟨b, off, none⟩ else some ⟨b, off + k, none⟩) (m - k) (c - k) (xs.drop k)) := fun W h => src_drop (hX.below h) HM.out (by omega) hlc
          go_wp2_with fail
          go_region_law (first
            | (refine step_append_src rfl (.tmp 33) (.tmp 36) 23 rfl w.heap.size 3 i0 _ Try.underlying23 hi hz0 hz1 hz2 rfl (.slice (some ⟨w.heap.size, 0, none⟩) 0 0) 0 [] (by first | rfl | (simp [Act.eval]; done)) (own_e1 _ _) (some ⟨b, off, none⟩) k c (xs.take k) (by first | rfl | (simp [Act.eval]; done)) (HT.out _ (by repeat (first | exact Below.refl _ _ | refine Below.drew ?_ | refine Below.alloc ?_ (by simp) _))) (by omega) (by first | (simp; done) | (simp; omega)) ?_; intro v1 w1 hown1 hg1; have hb1 : Below w.heap.size w w1 := below_own (by repeat (first | exact Below.refl _ _ | refine Below.drew ?_ | refine Below.alloc ?_ (by simp) _)) (own_e1 _ _) hg1; obtain ⟨V1', c1', rfl, _⟩ := own_shape hown1; simp only [Nat.zero_add, List.nil_append] at hown1 ⊢)
            | (refine step_append_src rfl (.tmp 33) (.tmp 36) 23 rfl w.heap.size 3 i0 _ Try.underlying23 hi hz0 hz1 hz2 rfl (.slice (some ⟨w.heap.size, 0, none⟩) 0 0) 0 [] (by first | rfl | (simp [Act.eval]; done)) (own_e2 _ _ _) (some ⟨b, off, none⟩) k c (xs.take k) (by first | rfl | (simp [Act.eval]; done)) (HT.out _ (by repeat (first | exact Below.refl _ _ | refine Below.drew ?_ | refine Below.alloc ?_ (by simp) _))) (by omega) (by first | (simp; done) | (simp; omega)) ?_; intro v1 w1 hown1 hg1; have hb1 : Below w.heap.size w w1 := below_own (by repeat (first | exact Below.refl _ _ | refine Below.drew ?_ | refine Below.alloc ?_ (by simp) _)) (own_e2 _ _ _) hg1; have hone : w1.heap[w.heap.size + 1]? = some (.cells #[.int .i64 n] 3 (0, 0)) := (hg1.block _ (by simp) (by simp [Value.ownBlock])).trans (heap_2nd _ _ _); obtain ⟨V1', c1', rfl, _⟩ := own_shape hown1; simp only [Nat.zero_add, List.nil_append] at hown1 ⊢)
            | (refine step_append_src rfl (.tmp 33) (.tmp 36) 23 rfl w.heap.size 3 i0 _ Try.underlying23 hi hz0 hz1 hz2 rfl (.slice (some ⟨w.heap.size + 1, 0, none⟩) 0 0) 0 [] (by first | rfl | (simp [Act.eval]; done)) (own_e3 _ _ _) (some ⟨b, off, none⟩) k c (xs.take k) (by first | rfl | (simp [Act.eval]; done)) (HT.out _ (by repeat (first | exact Below.refl _ _ | refine Below.drew ?_ | refine Below.alloc ?_ (by simp) _))) (by omega) (by first | (simp; done) | (simp; omega)) ?_; intro v1 w1 hown1 hg1; have hb1 : Below w.heap.size w w1 := below_own (by repeat (first | exact Below.refl _ _ | refine Below.drew ?_ | refine Below.alloc ?_ (by simp) _)) (own_e3 _ _ _) hg1; have hone : w1.heap[w.heap.size]? = some (.cells #[.int .i64 n] 3 (0, 0)) := (hg1.block _ (by simp; omega) (by simp [Value.ownBlock])).trans ((Below.heap_alloc _ _ _ (by simp)).trans (heap_alloc_new _ _)); obtain ⟨V1', c1', rfl, _⟩ := own_shape hown1; simp only [Nat.zero_add, List.nil_append] at hown1 ⊢)
            | (refine step_append_src rfl (.tmp 37) (.tmp 39) 23 rfl w.heap.size 3 i0 _ Try.underlying23 hi hz0 hz1 hz2 rfl (.slice V1' k c1') k _ (by first | rfl | (simp [Act.eval]; done)) (own_below hown1 ((Below.refl _ _).alloc (Nat.le_refl _) _)) (some ⟨w1.heap.size, 0, none⟩) 1 1 [n] (by first | rfl | (simp [Act.eval]; done)) (src_one (heap_alloc_new _ _)) (by omega) (by have := hb1.size; simp; omega) ?_; intro v2 w2 hown2 hg2; have hb2 : Below w.heap.size w w2 := below_own (hb1.alloc hb1.size _) (own_below hown1 ((Below.refl _ _).alloc (Nat.le_refl _) _)) hg2; obtain ⟨V2', c2', rfl, _⟩ := own_shape hown2)
            | (refine step_append_src rfl (.tmp 37) (.tmp 39) 23 rfl w.heap.size 3 i0 _ Try.underlying23 hi hz0 hz1 hz2 rfl (.slice V1' k c1') k _ (by first | rfl | (simp [Act.eval]; done)) (hown1) (some ⟨w.heap.size + 1, 0, none⟩) 1 1 [n] (by first | rfl | (simp [Act.eval]; done)) (src_one hone) (by omega) (hb1.size) ?_; intro v2 w2 hown2 hg2; have hb2 : Below w.heap.size w w2 := below_own (hb1) (hown1) hg2; obtain ⟨V2', c2', rfl, _⟩ := own_shape hown2)
            | (refine step_append_src rfl (.tmp 37) (.tmp 39) 23 rfl w.heap.size 3 i0 _ Try.underlying23 hi hz0 hz1 hz2 rfl (.slice V1' k c1') k _ (by first | rfl | (simp [Act.eval]; done)) (hown1) (some ⟨w.heap.size, 0, none⟩) 1 1 [n] (by first | rfl | (simp [Act.eval]; done)) (src_one hone) (by omega) (hb1.size) ?_; intro v2 w2 hown2 hg2; have hb2 : Below w.heap.size w w2 := below_own (hb1) (hown1) hg2; obtain ⟨V2', c2', rfl, _⟩ := own_shape hown2)
            | (refine step_append_src rfl (.tmp 40) (.tmp 43) 23 rfl w.heap.size 3 i0 _ Try.underlying23 hi hz0 hz1 hz2 rfl (.slice V2' (k + 1) c2') (k + 1) _ (by first | rfl | (simp [Act.eval]; done)) hown2 (if c = k then some ⟨b, off, none⟩ else some ⟨b, off + k, none⟩) (m - k) (c - k) (xs.drop k) (by first | rfl | (simp [Act.eval]; done)) (HDR.out _ hb2) (by omega) hb2.size ?_; intro v3 w3 hown3 hg3; have hb3 : Below w.heap.size w w3 := below_own hb2 hown2 hg3; obtain ⟨V3', c3', rfl, hc3'⟩ := own_shape hown3))
          all_goals go_wp2_with fail
          all_goals go_ret
          all_goals exact ⟨V3', c3', by rw [HIL.out]; exact ret_slice (by omega), by rw [HIL.out]; omega, (by have := own_cap hown3; unfold maxLen at this; omega), (fun h => by subst h; exact own_nocap hown3), own_flat hown3, (by rw [HIF.out]; exact (ints_of_ownS hown3 (by simp)).low (Nat.zero_le _)), hb3⟩
    · obtain rfl : k = m := by omega
      have HIF := Lib.hid (insI_end HM.out _ HI.out)
      have HIL : Hid ((insI xs n).length = k + 1) := by show _ = _; rw [HIF.out, List.length_append, List.length_cons, List.length_take, List.length_drop, ← HM.out]; omega
      rcases hAf with rfl | ⟨b, off, rfl⟩
      · obtain rfl : c = 0 := hAn rfl
        obtain rfl : k = 0 := by omega
        clear hAn
        obtain ⟨i0, hi, hz0, hz1, hz2⟩ := info_parts Try.infoInt
        have HT : Hid (∀ W, Below w.heap.size w W → Src W none 0 0 (xs.take 0)) := fun W h => .inl ⟨rfl, rfl, rfl, by simp⟩
        have HDR : Hid (∀ W, Below w.heap.size w W → Src W none 0 0 (xs.drop 0)) := fun W h => .inl ⟨rfl, rfl, rfl, by simp; exact List.eq_nil_of_length_eq_zero HM.out.symm⟩
        go_wp2_with fail
        go_region_law (first
          | (refine step_append_src rfl (.tmp 33) (.tmp 36) 23 rfl w.heap.size 3 i0 _ Try.underlying23 hi hz0 hz1 hz2 rfl (.slice (some ⟨w.heap.size, 0, none⟩) 0 0) 0 [] (by first | rfl | (simp [Act.eval]; done)) (own_e1 _ _) none 0 0 (xs.take 0) (by first | rfl | (simp [Act.eval]; done)) (HT.out _ (by repeat (first | exact Below.refl _ _ | refine Below.drew ?_ | refine Below.alloc ?_ (by simp) _))) (by omega) (by first | (simp; done) | (simp; omega)) ?_; intro v1 w1 hown1 hg1; have hb1 : Below w.heap.size w w1 := below_own (by repeat (first | exact Below.refl _ _ | refine Below.drew ?_ | refine Below.alloc ?_ (by simp) _)) (own_e1 _ _) hg1; obtain ⟨V1', c1', rfl, _⟩ := own_shape hown1; simp only [Nat.zero_add, List.nil_append] at hown1 ⊢)
          | (refine step_append_src rfl (.tmp 33) (.tmp 36) 23 rfl w.heap.size 3 i0 _ Try.underlying23 hi hz0 hz1 hz2 rfl (.slice (some ⟨w.heap.size, 0, none⟩) 0 0) 0 [] (by first | rfl | (simp [Act.eval]; done)) (own_e2 _ _ _) none 0 0 (xs.take 0) (by first | rfl | (simp [Act.eval]; done)) (HT.out _ (by repeat (first | exact Below.refl _ _ | refine Below.drew ?_ | refine Below.alloc ?_ (by simp) _))) (by omega) (by first | (simp; done) | (simp; omega)) ?_; intro v1 w1 hown1 hg1; have hb1 : Below w.heap.size w w1 := below_own (by repeat (first | exact Below.refl _ _ | refine Below.drew ?_ | refine Below.alloc ?_ (by simp) _)) (own_e2 _ _ _) hg1; have hone : w1.heap[w.heap.size + 1]? = some (.cells #[.int .i64 n] 3 (0, 0)) := (hg1.block _ (by simp) (by simp [Value.ownBlock])).trans (heap_2nd _ _ _); obtain ⟨V1', c1', rfl, _⟩ := own_shape hown1; simp only [Nat.zero_add, List.nil_append] at hown1 ⊢)
          | (refine step_append_src rfl (.tmp 33) (.tmp 36) 23 rfl w.heap.size 3 i0 _ Try.underlying23 hi hz0 hz1 hz2 rfl (.slice (some ⟨w.heap.size + 1, 0, none⟩) 0 0) 0 [] (by first | rfl | (simp [Act.eval]; done)) (own_e3 _ _ _) none 0 0 (xs.take 0) (by first | rfl | (simp [Act.eval]; done)) (HT.out _ (by repeat (first | exact Below.refl _ _ | refine Below.drew ?_ | refine Below.alloc ?_ (by simp) _))) (by omega) (by first | (simp; done) | (simp; omega)) ?_; intro v1 w1 hown1 hg1; have hb1 : Below w.heap.size w w1 := below_own (by repeat (first | exact Below.refl _ _ | refine Below.drew ?_ | refine Below.alloc ?_ (by simp) _)) (own_e3 _ _ _) hg1; have hone : w1.heap[w.heap.size]? = some (.cells #[.int .i64 n] 3 (0, 0)) := (hg1.block _ (by simp; omega) (by simp [Value.ownBlock])).trans ((Below.heap_alloc _ _ _ (by simp)).trans (heap_alloc_new _ _)); obtain ⟨V1', c1', rfl, _⟩ := own_shape hown1; simp only [Nat.zero_add, List.nil_append] at hown1 ⊢)
          | (refine step_append_src rfl (.tmp 37) (.tmp 39) 23 rfl w.heap.size 3 i0 _ Try.underlying23 hi hz0 hz1 hz2 rfl (.slice V1' 0 c1') 0 _ (by first | rfl | (simp [Act.eval]; done)) (own_below hown1 ((Below.refl _ _).alloc (Nat.le_refl _) _)) (some ⟨w1.heap.size, 0, none⟩) 1 1 [n] (by first | rfl | (simp [Act.eval]; done)) (src_one (heap_alloc_new _ _)) (by omega) (by have := hb1.size; simp; omega) ?_; intro v2 w2 hown2 hg2; have hb2 : Below w.heap.size w w2 := below_own (hb1.alloc hb1.size _) (own_below hown1 ((Below.refl _ _).alloc (Nat.le_refl _) _)) hg2; obtain ⟨V2', c2', rfl, _⟩ := own_shape hown2)
          | (refine step_append_src rfl (.tmp 37) (.tmp 39) 23 rfl w.heap.size 3 i0 _ Try.underlying23 hi hz0 hz1 hz2 rfl (.slice V1' 0 c1') 0 _ (by first | rfl | (simp [Act.eval]; done)) (hown1) (some ⟨w.heap.size + 1, 0, none⟩) 1 1 [n] (by first | rfl | (simp [Act.eval]; done)) (src_one hone) (by omega) (hb1.size) ?_; intro v2 w2 hown2 hg2; have hb2 : Below w.heap.size w w2 := below_own (hb1) (hown1) hg2; obtain ⟨V2', c2', rfl, _⟩ := own_shape hown2)
          | (refine step_append_src rfl (.tmp 37) (.tmp 39) 23 rfl w.heap.size 3 i0 _ Try.underlying23 hi hz0 hz1 hz2 rfl (.slice V1' 0 c1') 0 _ (by first | rfl | (simp [Act.eval]; done)) (hown1) (some ⟨w.heap.size, 0, none⟩) 1 1 [n] (by first | rfl | (simp [Act.eval]; done)) (src_one hone) (by omega) (hb1.size) ?_; intro v2 w2 hown2 hg2; have hb2 : Below w.heap.size w w2 := below_own (hb1) (hown1) hg2; obtain ⟨V2', c2', rfl, _⟩ := own_shape hown2)
          | (refine step_append_src rfl (.tmp 40) (.tmp 43) 23 rfl w.heap.size 3 i0 _ Try.underlying23 hi hz0 hz1 hz2 rfl (.slice V2' 1 c2') 1 _ (by first | rfl | (simp [Act.eval]; done)) hown2 none 0 0 (xs.drop 0) (by first | rfl | (simp [Act.eval]; done)) (HDR.out _ hb2) (by omega) hb2.size ?_; intro v3 w3 hown3 hg3; have hb3 : Below w.heap.size w w3 := below_own hb2 hown2 hg3; obtain ⟨V3', c3', rfl, hc3'⟩ := own_shape hown3))
        all_goals go_wp2_with fail
        all_goals go_ret
        all_goals exact ⟨V3', c3', by rw [HIL.out]; exact ret_slice (by omega), by rw [HIL.out]; omega, (by have := own_cap hown3; unfold maxLen at this; omega), (fun h => by subst h; exact own_nocap hown3), own_flat hown3, (by rw [HIF.out]; exact (ints_of_ownS hown3 (by simp)).low (Nat.zero_le _)), hb3⟩
      · clear hAn
        obtain ⟨i0, hi, hz0, hz1, hz2⟩ := info_parts Try.infoInt
        have hkc : k ≤ c := by omega
        have HT : Hid (∀ W, Below w.heap.size w W → Src W (some ⟨b, off, none⟩) k c (xs.take k)) := fun W h => src_take (hX.below h) (by rw [← HM.out]; omega)
        have HDR : Hid (∀ W, Below w.heap.size w W → Src W (if c = k then some ⟨b, off, none⟩ else some ⟨b, off + k, none⟩) (k - k) (c - k) (xs.drop k)) := fun W h => src_drop (hX.below h) HM.out (by omega) hlc
        go_wp2_with fail
        go_region_law (first
          | (refine step_append_src rfl (.tmp 33) (.tmp 36) 23 rfl w.heap.size 3 i0 _ Try.underlying23 hi hz0 hz1 hz2 rfl (.slice (some ⟨w.heap.size, 0, none⟩) 0 0) 0 [] (by first | rfl | (simp [Act.eval]; done)) (own_e1 _ _) (some ⟨b, off, none⟩) k c (xs.take k) (by first | rfl | (simp [Act.eval]; done)) (HT.out _ (by repeat (first | exact Below.refl _ _ | refine Below.drew ?_ | refine Below.alloc ?_ (by simp) _))) (by omega) (by first | (simp; done) | (simp; omega)) ?_; intro v1 w1 hown1 hg1; have hb1 : Below w.heap.size w w1 := below_own (by repeat (first | exact Below.refl _ _ | refine Below.drew ?_ | refine Below.alloc ?_ (by simp) _)) (own_e1 _ _) hg1; obtain ⟨V1', c1', rfl, _⟩ := own_shape hown1; simp only [Nat.zero_add, List.nil_append] at hown1 ⊢)
          | (refine step_append_src rfl (.tmp 33) (.tmp 36) 23 rfl w.heap.size 3 i0 _ Try.underlying23 hi hz0 hz1 hz2 rfl (.slice (some ⟨w.heap.size, 0, none⟩) 0 0) 0 [] (by first | rfl | (simp [Act.eval]; done)) (own_e2 _ _ _) (some ⟨b, off, none⟩) k c (xs.take k) (by first | rfl | (simp [Act.eval]; done)) (HT.out _ (by repeat (first | exact Below.refl _ _ | refine Below.drew ?_ | refine Below.alloc ?_ (by simp) _))) (by omega) (by first | (simp; done) | (simp; omega)) ?_; intro v1 w1 hown1 hg1; have hb1 : Below w.heap.size w w1 := below_own (by repeat (first | exact Below.refl _ _ | refine Below.drew ?_ | refine Below.alloc ?_ (by simp) _)) (own_e2 _ _ _) hg1; have hone : w1.heap[w.heap.size + 1]? = some (.cells #[.int .i64 n] 3 (0, 0)) := (hg1.block _ (by simp) (by simp [Value.ownBlock])).trans (heap_2nd _ _ _); obtain ⟨V1', c1', rfl, _⟩ := own_shape hown1; simp only [Nat.zero_add, List.nil_append] at hown1 ⊢)
          | (refine step_append_src rfl (.tmp 33) (.tmp 36) 23 rfl w.heap.size 3 i0 _ Try.underlying23 hi hz0 hz1 hz2 rfl (.slice (some ⟨w.heap.size + 1, 0, none⟩) 0 0) 0 [] (by first | rfl | (simp [Act.eval]; done)) (own_e3 _ _ _) (some ⟨b, off, none⟩) k c (xs.take k) (by first | rfl | (simp [Act.eval]; done)) (HT.out _ (by repeat (first | exact Below.refl _ _ | refine Below.drew ?_ | refine Below.alloc ?_ (by simp) _))) (by omega) (by first | (simp; done) | (simp; omega)) ?_; intro v1 w1 hown1 hg1; have hb1 : Below w.heap.size w w1 := below_own (by repeat (first | exact Below.refl _ _ | refine Below.drew ?_ | refine Below.alloc ?_ (by simp) _)) (own_e3 _ _ _) hg1; have hone : w1.heap[w.heap.size]? = some (.cells #[.int .i64 n] 3 (0, 0)) := (hg1.block _ (by simp; omega) (by simp [Value.ownBlock])).trans ((Below.heap_alloc _ _ _ (by simp)).trans (heap_alloc_new _ _)); obtain ⟨V1', c1', rfl, _⟩ := own_shape hown1; simp only [Nat.zero_add, List.nil_append] at hown1 ⊢)
          | (refine step_append_src rfl (.tmp 37) (.tmp 39) 23 rfl w.heap.size 3 i0 _ Try.underlying23 hi hz0 hz1 hz2 rfl (.slice V1' k c1') k _ (by first | rfl | (simp [Act.eval]; done)) (own_below hown1 ((Below.refl _ _).alloc (Nat.le_refl _) _)) (some ⟨w1.heap.size, 0, none⟩) 1 1 [n] (by first | rfl | (simp [Act.eval]; done)) (src_one (heap_alloc_new _ _)) (by omega) (by have := hb1.size; simp; omega) ?_; intro v2 w2 hown2 hg2; have hb2 : Below w.heap.size w w2 := below_own (hb1.alloc hb1.size _) (own_below hown1 ((Below.refl _ _).alloc (Nat.le_refl _) _)) hg2; obtain ⟨V2', c2', rfl, _⟩ := own_shape hown2)
          | (refine step_append_src rfl (.tmp 37) (.tmp 39) 23 rfl w.heap.size 3 i0 _ Try.underlying23 hi hz0 hz1 hz2 rfl (.slice V1' k c1') k _ (by first | rfl | (simp [Act.eval]; done)) (hown1) (some ⟨w.heap.size + 1, 0, none⟩) 1 1 [n] (by first | rfl | (simp [Act.eval]; done)) (src_one hone) (by omega) (hb1.size) ?_; intro v2 w2 hown2 hg2; have hb2 : Below w.heap.size w w2 := below_own (hb1) (hown1) hg2; obtain ⟨V2', c2', rfl, _⟩ := own_shape hown2)
          | (refine step_append_src rfl (.tmp 37) (.tmp 39) 23 rfl w.heap.size 3 i0 _ Try.underlying23 hi hz0 hz1 hz2 rfl (.slice V1' k c1') k _ (by first | rfl | (simp [Act.eval]; done)) (hown1) (some ⟨w.heap.size, 0, none⟩) 1 1 [n] (by first | rfl | (simp [Act.eval]; done)) (src_one hone) (by omega) (hb1.size) ?_; intro v2 w2 hown2 hg2; have hb2 : Below w.heap.size w w2 := below_own (hb1) (hown1) hg2; obtain ⟨V2', c2', rfl, _⟩ := own_shape hown2)
          | (refine step_append_src rfl (.tmp 40) (.tmp 43) 23 rfl w.heap.size 3 i0 _ Try.underlying23 hi hz0 hz1 hz2 rfl (.slice V2' (k + 1) c2') (k + 1) _ (by first | rfl | (simp [Act.eval]; done)) hown2 (if c = k then some ⟨b, off, none⟩ else some ⟨b, off + k, none⟩) (k - k) (c - k) (xs.drop k) (by first | rfl | (simp [Act.eval]; done)) (HDR.out _ hb2) (by omega) hb2.size ?_; intro v3 w3 hown3 hg3; have hb3 : Below w.heap.size w w3 := below_own hb2 hown2 hg3; obtain ⟨V3', c3', rfl, hc3'⟩ := own_shape hown3))
        all_goals go_wp2_with fail
        all_goals go_ret
        all_goals exact ⟨V3', c3', by rw [HIL.out]; exact ret_slice (by omega), by rw [HIL.out]; omega, (by have := own_cap hown3; unfold maxLen at this; omega), (fun h => by subst h; exact own_nocap hown3), own_flat hown3, (by rw [HIF.out]; exact (ints_of_ownS hown3 (by simp)).low (Nat.zero_le _)), hb3⟩

end Go.Proofs.Ytilkcailpkebdaa
