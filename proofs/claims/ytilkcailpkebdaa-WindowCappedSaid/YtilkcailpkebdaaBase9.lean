/-
  Texts of the proof, one after the other.
-/
import Derived.Test.YtilkcailpkebdaaBase8
import Derived.Test.YtilkcailpkebdaaBase3
import Derived.Test.YtilkcailpkebdaaBase4
import Derived.Test.YtilkcailpkebdaaBase5
import Derived.Test.YtilkcailpkebdaaBase1
import Derived.Laws.OwnMore
import Derived.Laws.AppendOwn
import Derived.WalkKit
import Derived.Laws.BitsLemmas
import Derived.ProofKit
import Derived.OpenShut
import Derived.ChangeOld
import Derived.Below
import Derived.Deep.Slices
import Derived.Deep.Fields
import Derived.ChangeSame

/-
  Greater amounts, further losses and a greater length never make the total less. Plain Lean.
-/
namespace Go.Proofs.Ytilkcailpkebdaa
open Go.RowKit
set_option linter.unusedVariables false

theorem valid_more {ws : List Win} {n n' : Int} (h : winsE ws n = 0) (h1 : n ≤ n') (h2 : n' ≤ 8784) : winsE ws n' = 0 := by
  obtain ⟨hl, g1, g2, g3⟩ := winsE_parts h
  unfold winsE
  rw [if_neg (by omega), if_neg (by omega)]
  have : ∀ (xs before : List Win), winsLoop n before xs = 0 → winsLoop n' before xs = 0 := by
    intro xs
    induction xs with
    | nil => intro before _; rfl
    | cons x xs ih =>
      intro before hw
      unfold winsLoop at hw ⊢
      split at hw
      · rename_i hne; exact absurd hw hne
      · rename_i hne
        have h0 : oneE before x n = 0 := by omega
        obtain ⟨r1, r2, r3, r4⟩ := oneE_zero h0
        have h0' : oneE before x n' = 0 := by
          rw [one_rest r1 (by omega) r3, if_neg]
          rw [Bool.not_eq_true, List.any_eq_false]
          intro v hv; rw [r4 v hv]; simp
        rw [if_neg (by rw [h0']; simp)]
        exact ih _ hw
  exact this ws [] hl
theorem sumI_leW {ws : List Win} {f g : Win → Int} (h : ∀ x ∈ ws, f x ≤ g x) : sumI (ws.map f) ≤ sumI (ws.map g) := by
  induction ws with
  | nil => exact Int.le_refl _
  | cons x ws ih => have h1 := h x (by simp); have h2 := ih (fun y hy => h y (by simp [hy])); simp only [List.map_cons, sumI]; omega
/-- More is lost in every window, and windows may be as long or longer: the best total is as great or greater. -/
theorem best_more {los los' : List Los} {am am' : List Int} {n n' : Int} {ls : List P2} (h : chkE los am = 0) (h' : chkE los' am' = 0) (hr : recErr 0 ls = 0) (h1 : 1 ≤ n) (hn : n ≤ n') (h2 : n' ≤ 8784) (hm : ∀ x, amtW los am x ≤ amtW los' am' x) :
    sumI (bestR los am n ls) ≤ sumI (bestR los' am' n' ls) := by
  obtain ⟨_, _, _, e4, _, _⟩ := best_all h hr h1 (show n ≤ 8784 by omega)
  obtain ⟨_, _, _, _, f5, _⟩ := best_all h' hr (show 1 ≤ n' by omega) h2
  have hv := valid_more (best_valid (los := los) (am := am) (ls := ls) h h1 (by omega)) hn h2
  have g1 := eval_le h' hr hv
  rw [evR_valid h' hr hv] at g1
  rw [e4, f5]
  refine Int.le_trans (sumI_leW fun x _ => ?_) g1
  exact recVal_mono (hm x) (amtW_range h x).1 (amtW_range h' x).2 ls
theorem amtW_snoc (los : List Los) (am : List Int) (l : Los) (a : Int) (h : am.length = los.length) (x : Win) : amtW (los ++ [l]) (am ++ [a]) x = amtW los am x + if covers x l = true then a else 0 := by
  unfold amtW
  rw [List.zip_append h.symm, List.map_append, sumI_append]
  simp [sumI]
theorem amtW_set : ∀ (los : List Los) (am : List Int) (k : Nat) (a b : Int), am[k]? = some a → a ≤ b → ∀ x, amtW los am x ≤ amtW los (am.set k b) x := by
  intro los
  induction los with
  | nil => intro am k a b _ _ x; simp [amtW, sumI]
  | cons l ls ih =>
    intro am k a b hk hab x
    cases am with
    | nil => simp at hk
    | cons c am =>
      cases k with
      | zero =>
        obtain rfl : c = a := by simpa using hk
        unfold amtW
        simp only [List.set_cons_zero, List.zip_cons_cons, List.map_cons, sumI]
        split <;> omega
      | succ k =>
        have := ih am k a b (by simpa using hk) hab x
        unfold amtW at this ⊢
        simp only [List.set_cons_succ, List.zip_cons_cons, List.map_cons, sumI]
        omega
/-- What is accepted whatever makes it. -/
theorem chkE_small {los : List Los} {am : List Int} (hl : los.length ≤ 12) (hal : am.length = los.length) (hp : ∀ l ∈ los, 0 ≤ l.hour ∧ l.hour ≤ 876599 ∧ 0 ≤ l.peril ∧ l.peril ≤ 15) (ha : ∀ a ∈ am, 0 ≤ a ∧ a ≤ 536870912) : chkE los am = 0 := by
  rw [chkE_sum (by omega)]
  · rw [if_neg]
    have h1 : sumI am ≤ 536870912 * am.length := by
      clear hal
      induction am with
      | nil => simp [sumI]
      | cons a am ih =>
        have h1 := ha a (by simp)
        have h2 := ih (fun x hx => ha x (by simp [hx]))
        simp only [sumI, List.length_cons]; omega
    omega
  · rw [List.all_eq_true]
    intro z hz
    obtain ⟨l, a⟩ := z
    have h1 := hp l (List.of_mem_zip hz).1
    have h2 := ha a (List.of_mem_zip hz).2
    exact (pairOk_iff l a).2 ⟨by omega, by omega, by omega, by omega, by omega, by omega⟩
theorem made_range {los : List Los} {last : Int} (h : MadeLos los last) : ∀ l ∈ los, 0 ≤ l.hour ∧ l.hour < 90 ∧ 0 ≤ l.peril ∧ l.peril < 3 := fun l hl => by
  have := (h.each l hl).1
  unfold LosOk at this; omega

end Go.Proofs.Ytilkcailpkebdaa

/-
  append onto a row of the call's own of a slice that may be nil: one law for all kinds of elements.
-/
namespace Go.Proofs.Ytilkcailpkebdaa
open Go.RowKit
set_option linter.unusedVariables false

/-- A source of an append: nil, or elements that lie at an address. -/
def SrcG {α : Type} (enc : α → List Value) (W : World) (X : Option Addr) (ys : List α) : Prop :=
  (X = none ∧ ys = []) ∨ ∃ ad, X = some ad ∧ ∀ (j : Nat) (u : Value), (ys.flatMap enc)[j]? = some u → W.cell? (ad.add j) = some u
theorem srcG_of_sl {α : Type} {enc : α → List Value} {k : Nat} (hk : ∀ x, (enc x).length = k) (hk0 : 0 < k) {W : World} {lo : Nat} {X : Option Addr} {ys : List α} (h : Sl W lo k X (ys.map enc)) : SrcG enc W X ys := by
  cases X with
  | none =>
    left
    refine ⟨rfl, ?_⟩
    cases ys with
    | nil => rfl
    | cons y ys => obtain ⟨b, off, e, _⟩ := h (by simp); cases e
  | some ad =>
    right
    refine ⟨ad, rfl, fun j u hu => ?_⟩
    have h0 : 0 < (ys.map enc).length := by
      have := (List.getElem?_eq_some_iff.1 hu).1
      rw [flat_len enc k hk] at this
      rw [List.length_map]
      rcases Nat.eq_zero_or_pos ys.length with e | e
      · rw [e, Nat.zero_mul] at this; omega
      · exact e
    obtain ⟨b, off, e, _⟩ := h h0
    obtain rfl : ad = ⟨b, off, none⟩ := Option.some.inj e
    exact sl_cells (enc := enc) (k := k) hk hk0 h j u hu
theorem run_append_none_c {P : Program} {w : World} (base : Nat) (t ty e : TypeId) (i : TypeInfo) (size c : Nat) (ht : P.underlying t = some (.slice e)) (hi : P.info? e = some i)
    (v : Value) (n : Nat) (xs : List Value) (hown : w.ownsRow base e size v n xs) :
    (Builtin.append_ #[t, t] ty #[v, .slice none 0 c]).run P w = .ok v w := by
  rcases hown.2 with ⟨rfl, rfl⟩ | ⟨g, cap, cur, rfl, _, _, hnc, _⟩
  · simp [Builtin.append_, run_underlying ht, sizeOf, typeInfo, hi, Builtin.lenOf, Builtin.firstCells]
  · simp [Builtin.append_, run_underlying ht, sizeOf, typeInfo, hi, Builtin.lenOf, Builtin.firstCells, hnc, storeCells]
theorem wpList_append_src {α : Type} (enc : α → List Value) {P : Program} {w : World} {ops : Array Oper} {rest : List Oper} {o : Oper} {a : Act} {Q : Exit → Act → World → Prop} (hgd : o.guard = none) (s x : Operand) (t : TypeId)
    (ho : o.op = .call { callee := .builtin .append, args := #[s, x], argTypes := #[t, t] })
    (base : Nat) (e : TypeId) (i : TypeInfo) (z : Value) (size bytes : Nat) (ht : P.underlying t = some (.slice e)) (hi : P.info? e = some i) (hz : i.zero = some z)
    (hsize : i.size = size) (hby : i.bytes = bytes) (hzs : z.cells.size = size) (hsz : 0 < size) (hb80 : bytes ≤ 80)
    (hk : ∀ y, (enc y).length = size) (h1 : ∀ y, ∀ u ∈ enc y, u.oneCell' = true)
    (v : Value) (n : Nat) (xs : List Value) (hs : a.eval s = v) (hown : w.ownsRow base e size v n xs)
    (X : Option Addr) (m c : Nat) (ys : List α) (hm : m = ys.length) (hx : a.eval x = .slice X m c) (hsrc : SrcG enc w X ys)
    (h63 : n + m ≤ 100000) (hbase : base ≤ w.heap.size)
    (h : ∀ v' w', w'.ownsRow base e size v' (n + m) (xs ++ ys.flatMap enc) → w.grownBy w' v.ownBlock → wpList P ops Q rest (a.put o.dst v') w') : wpList P ops Q (o :: rest) a w := by
  refine wpList_plain hgd fun K hK => ?_
  rcases hsrc with ⟨rfl, rfl⟩ | ⟨ad, rfl, hc⟩
  · rw [List.length_nil] at hm
    subst hm
    have hrun := run_append_none_c (P := P) (w := w) base t o.type e i size c ht hi v n xs hown
    unfold Oper.wp
    simp [execOp, ho, resolve, invoke, builtin, hs, hx, hrun, Result.andThen]
    exact hK _ _ (h v w (by simpa using hown) (World.grownBy.refl w _))
  · subst hm
    exact wp_append_own w s x t ho base e i z size bytes ht hi hz hsize hby hzs hsz v n xs hs hown ad ys.length c (ys.flatMap enc) hx (flat_len enc size hk ys) hc (fun u hu => by obtain ⟨y, _, hy⟩ := List.mem_flatMap.1 hu; exact h1 y u hy) (by unfold maxLen; omega) (by have := Nat.mul_le_mul h63 hb80; omega) hbase fun v' w' h2 h3 _ => hK _ _ (h v' w' h2 h3)
theorem addr_at0 (b off j : Nat) : (({ block := b, off := off } : Addr).add j) = ⟨b, off + j, none⟩ := by
  unfold Addr.add; split
  · rename_i h; rw [h]; simp
  · rfl
theorem los_one (y : Los) : ∀ u ∈ Los.cells y, u.oneCell' = true := by
  intro u hu
  simp [Los.cells] at hu
  rcases hu with rfl | rfl | rfl | rfl | rfl | rfl | rfl | rfl | rfl | rfl <;> rfl
theorem int_one (y : Int) : ∀ u ∈ V1 y, u.oneCell' = true := by
  intro u hu
  simp [V1] at hu
  subst hu; rfl
theorem own_row_of {W : World} {base n : Nat} {e : TypeId} {size : Nat} {v : Value} {xs : List Value} (h : W.ownsRow base e size v n xs) (h0 : n ≠ 0) : ∃ g c, v = .slice (some ⟨g, 0, none⟩) n c ∧ base ≤ g ∧ g < W.heap.size := by
  rcases h.2 with ⟨_, hn⟩ | ⟨g, cap, cur, hv, hg, hh, _⟩
  · exact absurd hn h0
  · exact ⟨g, cap, hv, hg, lt_of_heap hh⟩

end Go.Proofs.Ytilkcailpkebdaa

/-
  '& (2^k - 1)' and '>> k' on ints: remainders and quotients. To be laid ahead of a walk.
-/
namespace Go.Proofs.Ytilkcailpkebdaa
open Go.RowKit
set_option linter.unusedVariables false

theorem bits_mask (k : Nat) (m : Int) (hk : k ≤ 32) (hm : (BitVec.ofInt 64 m).toNat = 2 ^ k - 1) (n : Int) : bits .and .i64 n m = n % ((2 ^ k : Nat) : Int) := by
  have key : (BitVec.ofInt 64 n &&& BitVec.ofInt 64 m).toNat = (n % ((2 ^ 64 : Nat) : Int)).toNat % 2 ^ k := by
    rw [BitVec.toNat_and, BitVec.toNat_ofInt, hm, Nat.and_two_pow_sub_one_eq_mod]
  show IntKind.i64.wrap ((BitVec.ofInt 64 n &&& BitVec.ofInt 64 m).toNat : Nat) = _
  have hlt : (n % ((2 ^ 64 : Nat) : Int)).toNat % 2 ^ k < 2 ^ k := Nat.mod_lt _ (Nat.two_pow_pos k)
  have hle : (2 : Nat) ^ k ≤ 2 ^ 32 := Nat.pow_le_pow_right (by omega) hk
  have h1 : (((n % ((2 ^ 64 : Nat) : Int)).toNat % 2 ^ k : Nat) : Int) = n % ((2 ^ k : Nat) : Int) := by
    rw [Int.natCast_emod, Int.toNat_of_nonneg (Int.emod_nonneg _ (by decide))]
    exact Int.emod_emod_of_dvd n (by exact_mod_cast Nat.pow_dvd_pow 2 (by omega))
  rw [key]
  have h2 : 0 ≤ n % ((2 ^ k : Nat) : Int) := by rw [← h1]; exact Int.natCast_nonneg _
  rw [h1]
  rw [IntKind.wrap_i64]
  omega
section
variable {P : Program} (t : TypeId)
theorem run_and (m : Int) (x : Int) (w : World) : (binOp .and t (.int .i64 x) (.int .i64 m)).run P w = .ok (.int .i64 (bits .and .i64 x m)) w := by
  rw [binOp_and]; rfl
theorem run_and1 (x : Int) (w : World) : (binOp .and t (.int .i64 x) (.int .i64 1)).run P w = .ok (.int .i64 (x % 2)) w := by
  rw [run_and, bits_mask 1 1 (by omega) (by decide)]; rfl
theorem run_and3 (x : Int) (w : World) : (binOp .and t (.int .i64 x) (.int .i64 3)).run P w = .ok (.int .i64 (x % 4)) w := by
  rw [run_and, bits_mask 2 3 (by omega) (by decide)]; rfl
theorem run_and7 (x : Int) (w : World) : (binOp .and t (.int .i64 x) (.int .i64 7)).run P w = .ok (.int .i64 (x % 8)) w := by
  rw [run_and, bits_mask 3 7 (by omega) (by decide)]; rfl
theorem run_and15 (x : Int) (w : World) : (binOp .and t (.int .i64 x) (.int .i64 15)).run P w = .ok (.int .i64 (x % 16)) w := by
  rw [run_and, bits_mask 4 15 (by omega) (by decide)]; rfl
theorem run_and31 (x : Int) (w : World) : (binOp .and t (.int .i64 x) (.int .i64 31)).run P w = .ok (.int .i64 (x % 32)) w := by
  rw [run_and, bits_mask 5 31 (by omega) (by decide)]; rfl
theorem run_shr (n : Nat) (hn : n ≤ 63) (x : Int) (w : World) : (binOp .shr t (.int .i64 x) (.int .u64 n)).run P w = .ok (.int .i64 (x / 2 ^ n)) w := by
  rw [binOp_shr, shift_shr .i64 .u64 x (n : Int) (by omega) (by show (n : Int) ≤ 64; omega)]; rfl
theorem run_shr1 (x : Int) (w : World) : (binOp .shr t (.int .i64 x) (.int .u64 1)).run P w = .ok (.int .i64 (x / 2)) w := run_shr t 1 (by omega) x w
theorem run_shr2 (x : Int) (w : World) : (binOp .shr t (.int .i64 x) (.int .u64 2)).run P w = .ok (.int .i64 (x / 4)) w := run_shr t 2 (by omega) x w
theorem run_shr3 (x : Int) (w : World) : (binOp .shr t (.int .i64 x) (.int .u64 3)).run P w = .ok (.int .i64 (x / 8)) w := run_shr t 3 (by omega) x w
theorem run_shr4 (x : Int) (w : World) : (binOp .shr t (.int .i64 x) (.int .u64 4)).run P w = .ok (.int .i64 (x / 16)) w := run_shr t 4 (by omega) x w
theorem run_shr5 (x : Int) (w : World) : (binOp .shr t (.int .i64 x) (.int .u64 5)).run P w = .ok (.int .i64 (x / 32)) w := run_shr t 5 (by omega) x w
end
end Go.Proofs.Ytilkcailpkebdaa

/-
  Arguments that came in: slices of ints and of structs of ints, opened to cells.
-/
namespace Go.Proofs.Ytilkcailpkebdaa
open Go.ChangeShapes Go.WideShapes Go.Deep Go.RowKit
set_option linter.unusedVariables false

theorem addr_add_none (b off i : Nat) : (({ block := b, off := off } : Addr).add i) = ⟨b, off + i, none⟩ := by
  unfold Addr.add; split
  · rename_i h; rw [h]; simp
  · rfl

section
variable {H : Type} {enc : TypeId × Value → H} {P : Program} {w : World} {spare : Nat → Bool} {held : Bool}

theorem open_rows {t e : TypeId} {fs : Array Field} {fuel : Nat} {cs : List Value} {x : DataW H × List MemPlace} (ht : P.underlying t = some (.slice e)) (he : P.underlying e = some (.struct fs))
    (hone : oneCellFields P fs = true) (hC : P.cellsOf e = fs.size) (hint : ∀ (j : Nat) (f : Field), fs[j]? = some f → P.underlying f.type = some (.int .i64)) (h0 : 0 < fs.size)
    (h : DataW.trod enc P w 0 (fun _ => true) held fuel t cs = some x) :
    ∃ (A : Option Addr) (n c : Nat) (F : Nat → Nat → Int), cs = [.slice A n c] ∧ n ≤ c ∧ c ≤ maxLen ∧ (0 < n → ∃ b off, A = some ⟨b, off, none⟩ ∧ b < w.heap.size ∧ ∀ i, i < n → ∀ j, j < fs.size → w.cell? ⟨b, off + i * fs.size + j, none⟩ = some (.int .i64 (F i j))) := by
  rcases open_slice ht h with ⟨rfl, _⟩ | ⟨a, len, cap, m, n, D, Pl, hcs, hb, hl, hm, hmm, hx, hi⟩
  · exact ⟨none, 0, 0, fun _ _ => 0, rfl, Nat.le_refl _, Nat.zero_le _, fun h => absurd h (by omega)⟩
  · have hcell : ∀ i j, i < m → j < fs.size → ∃ z : Int, w.cell? (a.add (i * fs.size + j)) = some (.int .i64 z) := by
      intro i j him hj
      obtain ⟨cs', hc, ht'⟩ := hi i him
      rw [hC] at hc
      obtain ⟨ys, n', hn', hy, hlen, hyl, hf⟩ := DataW.trod_struct he ht'
      obtain ⟨_, hcl, hat⟩ := World.cells?_some hc
      obtain ⟨f, hfj⟩ : ∃ f, fs[j]? = some f := ⟨_, Array.getElem?_eq_getElem hj⟩
      obtain ⟨ho, hk⟩ := hone_of hone j f hfj
      have h1 := hf j f hfj
      rw [ho, hk] at h1
      have hone' : (cs'.drop j).take 1 = [cs'[j]'(by omega)] := by
        rw [List.drop_eq_getElem_cons (by omega)]
        rfl
      rw [hone'] at h1
      have hys : ys[j]? = some (ys[j]'(by omega)) := List.getElem?_eq_getElem (by omega)
      obtain ⟨z, e0, _, _⟩ := DataW.trod_int (hint j f hfj) (h1.trans hys)
      refine ⟨z, ?_⟩
      rw [← Go.Deep.add_add, hat j hj, List.getElem?_eq_getElem (by omega)]
      simp only [List.cons.injEq, and_true] at e0
      rw [e0]
    have hm2 : len ≤ m := by rw [hmm]; split <;> omega
    refine ⟨some a, len, cap, fun i j => if hh : i < m ∧ j < fs.size then (hcell i j hh.1 hh.2).choose else 0, hcs, hl, hm, fun hp => ?_⟩
    obtain ⟨z, hz⟩ := hcell 0 0 (by omega) h0
    obtain ⟨b, off, sp⟩ := a
    have hz' : w.cell? ⟨b, off, sp⟩ = some (.int .i64 z) := by simpa [Addr.add] using hz
    obtain rfl : sp = none := by simpa using World.cell?_spot hz'
    refine ⟨b, off, rfl, World.block_lt_of_cell? w _ hz', fun i hin j hj => ?_⟩
    have hh : i < m ∧ j < fs.size := ⟨by omega, hj⟩
    have := (hcell i j hh.1 hh.2).choose_spec
    have hadd : (({ block := b, off := off } : Addr).add (i * fs.size + j)) = ⟨b, off + i * fs.size + j, none⟩ := by rw [addr_add_none, Nat.add_assoc]
    dsimp only
    rw [dif_pos hh]
    exact (congrArg w.cell? hadd.symm).trans this

theorem open_pairs {r : Reach} {b0 : Nat} {t e : TypeId} {f0 f1 : Field} {v : Value} {d : DataW H} {p : List MemPlace} (ht : P.underlying t = some (.slice e)) (he : P.underlying e = some (.struct #[f0, f1]))
    (hone : oneCellFields P #[f0, f1] = true) (hC : P.cellsOf e = 2) (i0 : P.underlying f0.type = some (.int .i64)) (i1 : P.underlying f1.type = some (.int .i64))
    (hv : Value.okWide P w r b0 t v) (h : DataW.Trod enc P w 0 (fun _ => true) held t v d p) :
    ∃ (A : Option Addr) (c : Nat) (xs : List P2), v = .slice A xs.length c ∧ Pairs w 0 A xs ∧ xs.length ≤ 9223372036854775807 := by
  obtain ⟨a0, len, cap, rfl⟩ := okWide_slice ht hv
  obtain ⟨fuel, hf⟩ := h
  obtain ⟨A, n, c, F, hcs, hnc, hcm, hc⟩ := open_rows ht he hone (by simpa using hC) (fun j f hj => by
    match j, hj with
    | 0, hj => simp at hj; subst hj; exact i0
    | 1, hj => simp at hj; subst hj; exact i1
    | j + 2, hj => simp at hj) (by simp) hf
  simp [Value.cells] at hcs
  obtain ⟨rfl, rfl, rfl⟩ := hcs
  refine ⟨a0, cap, (List.range len).map fun i => ⟨F i 0, F i 1⟩, by simp, fun hp => ?_, by simp; unfold maxLen at hcm; omega⟩
  obtain ⟨b, off, e0, hb, hcell⟩ := hc (by simpa using hp)
  refine ⟨b, off, e0, Nat.zero_le _, hb, fun i x hx j u hu => ?_⟩
  simp only [List.getElem?_map, Option.map_eq_some_iff] at hx
  obtain ⟨y, ⟨k, hk, rfl⟩, rfl⟩ := hx
  obtain ⟨hkl, hk⟩ := List.getElem?_eq_some_iff.1 hk
  have hki : k = i := by simpa using hk.symm
  subst hki
  have hlen : k < len := by simpa using hkl
  match j, hu with
  | 0, hu => simp [P2.cells] at hu; subst hu; exact hcell k hlen 0 (by simp)
  | 1, hu => simp [P2.cells] at hu; subst hu; exact hcell k hlen 1 (by simp)
  | j + 2, hu => simp [P2.cells] at hu

theorem open_intsL {r : Reach} {b0 : Nat} {t e : TypeId} {v : Value} {d : DataW H} {p : List MemPlace} (ht : P.underlying t = some (.slice e)) (he : P.underlying e = some (.int .i64)) (hC : P.cellsOf e = 1)
    (hv : Value.okWide P w r b0 t v) (h : DataW.Trod enc P w 0 (fun _ => true) held t v d p) :
    ∃ (A : Option Addr) (c : Nat) (xs : List Int), v = .slice A xs.length c ∧ Ints w 0 A xs ∧ xs.length ≤ 9223372036854775807 := by
  obtain ⟨a0, len, cap, rfl⟩ := okWide_slice ht hv
  obtain ⟨fuel, hf⟩ := h
  rcases open_ints ht he hC hf with ⟨hcs, _⟩ | ⟨x, l, c, zs, hcs, _, hl, hm, hz, _, hcell, hwz⟩
  · simp [Value.cells] at hcs
    obtain ⟨rfl, rfl, rfl⟩ := hcs
    exact ⟨none, 0, [], rfl, Sl.none_, by simp⟩
  · simp [Value.cells] at hcs
    obtain ⟨rfl, rfl, rfl⟩ := hcs
    have hzl : len ≤ zs.length := by simp at hz; omega
    refine ⟨some x, cap, zs.take len, by simp [hzl], fun hp => ?_, by simp; unfold maxLen at hm; omega⟩
    have hp' : 0 < len := by simp at hp; omega
    have hc0 := hcell 0 (by omega)
    obtain ⟨b, off, sp⟩ := x
    have hz' : w.cell? ⟨b, off, sp⟩ = some (.int .i64 (zs.getD 0 0)) := by simpa [Addr.add] using hc0
    obtain rfl : sp = none := by simpa using World.cell?_spot hz'
    refine ⟨b, off, rfl, Nat.zero_le _, World.block_lt_of_cell? w _ hz', fun i x hx j u hu => ?_⟩
    rw [List.getElem?_map, Option.map_eq_some_iff] at hx
    obtain ⟨y, hy, rfl⟩ := hx
    match j, hu with
    | 0, hu =>
      simp [V1] at hu
      subst hu
      rw [List.getElem?_take] at hy
      split at hy
      · have hi := (List.getElem?_eq_some_iff.1 hy).1
        have := hcell i hi
        rw [show zs.getD i 0 = y by simp [hy]] at this
        simpa [addr_add_none] using this
      · cases hy
    | j + 1, hu => simp [V1] at hu
end

end Go.Proofs.Ytilkcailpkebdaa

/-
  Slices of structs of ints that came in, opened: the list, the capacity, and that nil has none.
-/
namespace Go.Proofs.Ytilkcailpkebdaa
open Go.ChangeShapes Go.WideShapes Go.Deep Go.RowKit
set_option linter.unusedVariables false

section
variable {H : Type} {enc : TypeId × Value → H} {P : Program} {w : World} {spare : Nat → Bool} {held : Bool}

theorem open_cap {t e : TypeId} {fuel : Nat} {A : Option Addr} {n c : Nat} {x : DataW H × List MemPlace} (ht : P.underlying t = some (.slice e))
    (h : DataW.trod enc P w 0 (fun _ => true) held fuel t [.slice A n c] = some x) : A = none → c = 0 := by
  rcases open_slice ht h with ⟨hcs, _⟩ | ⟨a, len, cap, m, n', D, Pl, hcs, _⟩
  · intro _; simp at hcs; exact hcs.2.2
  · intro hA; simp at hcs; rw [hA] at hcs; cases hcs.1

theorem open_recs {α : Type} (ec : α → List Value) (mk : (Nat → Int) → α) (k : Nat) (hk : ∀ x, (ec x).length = k) (hmk : ∀ f j, j < k → (ec (mk f))[j]? = some (.int .i64 (f j))) (hk0 : 0 < k)
    {r : Reach} {b0 : Nat} {t e ti : TypeId} {fs : Array Field} {v : Value} {d : DataW H} {p : List MemPlace} (ht : P.underlying t = some (.slice e)) (he : P.underlying e = some (.struct fs)) (hfs : fs.size = k)
    (hone : oneCellFields P fs = true) (hC : P.cellsOf e = k) (hall : fs.all (fun f => f.type == ti) = true) (hti : P.underlying ti = some (.int .i64))
    (hv : Value.okWide P w r b0 t v) (h : DataW.Trod enc P w 0 (fun _ => true) held t v d p) :
    ∃ (A : Option Addr) (c : Nat) (xs : List α), v = .slice A xs.length c ∧ Sl w 0 k A (xs.map ec) ∧ xs.length ≤ 9223372036854775807 ∧ xs.length ≤ c ∧ (A = none → c = 0) := by
  obtain ⟨a0, len, cap, rfl⟩ := okWide_slice ht hv
  obtain ⟨fuel, hf⟩ := h
  obtain ⟨A, n, c, F, hcs, hnc, hcm, hc⟩ := open_rows ht he hone (by rw [hfs]; exact hC) (fun j f hj => by
    have := Array.all_eq_true.1 hall j (by exact (Array.getElem?_eq_some_iff.1 hj).1)
    rw [(Array.getElem?_eq_some_iff.1 hj).2] at this
    rw [beq_iff_eq.1 this]; exact hti) (by omega) hf
  have hcap := open_cap (A := a0) (n := len) (c := cap) ht hf
  simp [Value.cells] at hcs
  obtain ⟨rfl, rfl, rfl⟩ := hcs
  refine ⟨a0, cap, (List.range len).map fun i => mk (F i), by simp, fun hp => ?_, by simp; unfold maxLen at hcm; omega, by simpa using hnc, hcap⟩
  obtain ⟨b, off, e0, hb, hcell⟩ := hc (by simpa using hp)
  refine ⟨b, off, e0, Nat.zero_le _, hb, fun i x hx j u hu => ?_⟩
  simp only [List.getElem?_map, Option.map_eq_some_iff] at hx
  obtain ⟨y, ⟨k', hk', rfl⟩, rfl⟩ := hx
  obtain ⟨hkl, hk'⟩ := List.getElem?_eq_some_iff.1 hk'
  have hki : k' = i := by simpa using hk'.symm
  subst hki
  have hlen : k' < len := by simpa using hkl
  have hj : j < k := by have := (List.getElem?_eq_some_iff.1 hu).1; rwa [hk] at this
  rw [hmk _ j hj] at hu
  rw [← Option.some.inj hu, ← hfs]
  exact hcell k' hlen j (by omega)

def mkWin (f : Nat → Int) : Win := ⟨f 0, f 1, f 2⟩
theorem mkWin_get (f : Nat → Int) (j : Nat) (h : j < 3) : (Win.cells (mkWin f))[j]? = some (.int .i64 (f j)) := by
  rcases j with _ | _ | _ | j
  · rfl
  · rfl
  · rfl
  · omega
def mkLos (f : Nat → Int) : Los := ⟨f 0, f 1, f 2, f 3, f 4, f 5, f 6, f 7, f 8, f 9⟩
theorem mkLos_get (f : Nat → Int) (j : Nat) (h : j < 10) : (Los.cells (mkLos f))[j]? = some (.int .i64 (f j)) := by
  rcases j with _ | _ | _ | _ | _ | _ | _ | _ | _ | _ | j
  all_goals first | rfl | omega

theorem open_wins {r : Reach} {b0 : Nat} {t e ti : TypeId} {fs : Array Field} {v : Value} {d : DataW H} {p : List MemPlace} (ht : P.underlying t = some (.slice e)) (he : P.underlying e = some (.struct fs)) (hfs : fs.size = 3)
    (hone : oneCellFields P fs = true) (hC : P.cellsOf e = 3) (hall : fs.all (fun f => f.type == ti) = true) (hti : P.underlying ti = some (.int .i64))
    (hv : Value.okWide P w r b0 t v) (h : DataW.Trod enc P w 0 (fun _ => true) held t v d p) :
    ∃ (A : Option Addr) (c : Nat) (xs : List Win), v = .slice A xs.length c ∧ Wins w 0 A xs ∧ xs.length ≤ 9223372036854775807 ∧ xs.length ≤ c ∧ (A = none → c = 0) :=
  open_recs Win.cells mkWin 3 (fun _ => rfl) mkWin_get (by omega) ht he hfs hone hC hall hti hv h
theorem open_losses {r : Reach} {b0 : Nat} {t e ti : TypeId} {fs : Array Field} {v : Value} {d : DataW H} {p : List MemPlace} (ht : P.underlying t = some (.slice e)) (he : P.underlying e = some (.struct fs)) (hfs : fs.size = 10)
    (hone : oneCellFields P fs = true) (hC : P.cellsOf e = 10) (hall : fs.all (fun f => f.type == ti) = true) (hti : P.underlying ti = some (.int .i64))
    (hv : Value.okWide P w r b0 t v) (h : DataW.Trod enc P w 0 (fun _ => true) held t v d p) :
    ∃ (A : Option Addr) (c : Nat) (xs : List Los), v = .slice A xs.length c ∧ Losses w 0 A xs ∧ xs.length ≤ 9223372036854775807 ∧ xs.length ≤ c ∧ (A = none → c = 0) :=
  open_recs Los.cells mkLos 10 (fun _ => rfl) mkLos_get (by omega) ht he hfs hone hC hall hti hv h
end

end Go.Proofs.Ytilkcailpkebdaa
