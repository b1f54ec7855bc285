/-
  Arguments that came in: slices of ints and of structs of ints, opened to cells.
-/
import Derived.Test.YtpmiafnccjejnaaWords
import Derived.ProofKit
import Derived.OpenShut
import Derived.ChangeOld
import Derived.Below
import Derived.Deep.Slices
import Derived.Deep.Fields
import Derived.ChangeSame
namespace Go.Proofs.Ytpmiafnccjejnaa
open Go.ChangeShapes Go.WideShapes Go.Deep Go.RowKit
set_option linter.unusedVariables false

theorem addr_add_none (b off i : Nat) : (({ block := b, off := off } : Addr).add i) = ⟨b, off + i, none⟩ := by
  unfold Addr.add; split
  · rename_i h; rw [h]; simp
  · rfl

section
variable {H : Type} {enc : TypeId × Value → H} {P : Program} {w : World} {spare : Nat → Bool} {held : Bool}

theorem open_rows {t e : TypeId} {fs : Array Field} {fuel : Nat} {cs : List Value} {x : DataW H × List MemPlace} (ht : P.underlying t = some (.slice e)) (he : P.underlying e = some (.struct fs))
    (hone : oneCellFields P fs = true) (hC : P.cellsOf e = fs.size) (hint : ∀ (j : Nat) (f : Field), fs[j]? = some f → P.underlying f.type = some (.int .i64)) (h0 : 0 < fs.size)
    (h : DataW.trod enc P w 0 (fun _ => true) held fuel t cs = some x) :
    ∃ (A : Option Addr) (n c : Nat) (F : Nat → Nat → Int), cs = [.slice A n c] ∧ n ≤ c ∧ c ≤ maxLen ∧ (0 < n → ∃ b off, A = some ⟨b, off, none⟩ ∧ b < w.heap.size ∧ ∀ i, i < n → ∀ j, j < fs.size → w.cell? ⟨b, off + i * fs.size + j, none⟩ = some (.int .i64 (F i j))) := by
  rcases open_slice ht h with ⟨rfl, _⟩ | ⟨a, len, cap, m, n, D, Pl, hcs, hb, hl, hm, hmm, hx, hi⟩
  · exact ⟨none, 0, 0, fun _ _ => 0, rfl, Nat.le_refl _, Nat.zero_le _, fun h => absurd h (by omega)⟩
  · have hcell : ∀ i j, i < m → j < fs.size → ∃ z : Int, w.cell? (a.add (i * fs.size + j)) = some (.int .i64 z) := by
      intro i j him hj
      obtain ⟨cs', hc, ht'⟩ := hi i him
      rw [hC] at hc
      obtain ⟨ys, n', hn', hy, hlen, hyl, hf⟩ := DataW.trod_struct he ht'
      obtain ⟨_, hcl, hat⟩ := World.cells?_some hc
      obtain ⟨f, hfj⟩ : ∃ f, fs[j]? = some f := ⟨_, Array.getElem?_eq_getElem hj⟩
      obtain ⟨ho, hk⟩ := hone_of hone j f hfj
      have h1 := hf j f hfj
      rw [ho, hk] at h1
      have hone' : (cs'.drop j).take 1 = [cs'[j]'(by omega)] := by
        rw [List.drop_eq_getElem_cons (by omega)]
        rfl
      rw [hone'] at h1
      have hys : ys[j]? = some (ys[j]'(by omega)) := List.getElem?_eq_getElem (by omega)
      obtain ⟨z, e0, _, _⟩ := DataW.trod_int (hint j f hfj) (h1.trans hys)
      refine ⟨z, ?_⟩
      rw [← Go.Deep.add_add, hat j hj, List.getElem?_eq_getElem (by omega)]
      simp only [List.cons.injEq, and_true] at e0
      rw [e0]
    have hm2 : len ≤ m := by rw [hmm]; split <;> omega
    refine ⟨some a, len, cap, fun i j => if hh : i < m ∧ j < fs.size then (hcell i j hh.1 hh.2).choose else 0, hcs, hl, hm, fun hp => ?_⟩
    obtain ⟨z, hz⟩ := hcell 0 0 (by omega) h0
    obtain ⟨b, off, sp⟩ := a
    have hz' : w.cell? ⟨b, off, sp⟩ = some (.int .i64 z) := by simpa [Addr.add] using hz
    obtain rfl : sp = none := by simpa using World.cell?_spot hz'
    refine ⟨b, off, rfl, World.block_lt_of_cell? w _ hz', fun i hin j hj => ?_⟩
    have hh : i < m ∧ j < fs.size := ⟨by omega, hj⟩
    have := (hcell i j hh.1 hh.2).choose_spec
    have hadd : (({ block := b, off := off } : Addr).add (i * fs.size + j)) = ⟨b, off + i * fs.size + j, none⟩ := by rw [addr_add_none, Nat.add_assoc]
    dsimp only
    rw [dif_pos hh]
    exact (congrArg w.cell? hadd.symm).trans this

theorem open_pairs {r : Reach} {b0 : Nat} {t e : TypeId} {f0 f1 : Field} {v : Value} {d : DataW H} {p : List MemPlace} (ht : P.underlying t = some (.slice e)) (he : P.underlying e = some (.struct #[f0, f1]))
    (hone : oneCellFields P #[f0, f1] = true) (hC : P.cellsOf e = 2) (i0 : P.underlying f0.type = some (.int .i64)) (i1 : P.underlying f1.type = some (.int .i64))
    (hv : Value.okWide P w r b0 t v) (h : DataW.Trod enc P w 0 (fun _ => true) held t v d p) :
    ∃ (A : Option Addr) (c : Nat) (xs : List P2), v = .slice A xs.length c ∧ Pairs w 0 A xs ∧ xs.length ≤ 9223372036854775807 := by
  obtain ⟨a0, len, cap, rfl⟩ := okWide_slice ht hv
  obtain ⟨fuel, hf⟩ := h
  obtain ⟨A, n, c, F, hcs, hnc, hcm, hc⟩ := open_rows ht he hone (by simpa using hC) (fun j f hj => by
    match j, hj with
    | 0, hj => simp at hj; subst hj; exact i0
    | 1, hj => simp at hj; subst hj; exact i1
    | j + 2, hj => simp at hj) (by simp) hf
  simp [Value.cells] at hcs
  obtain ⟨rfl, rfl, rfl⟩ := hcs
  refine ⟨a0, cap, (List.range len).map fun i => ⟨F i 0, F i 1⟩, by simp, fun hp => ?_, by simp; unfold maxLen at hcm; omega⟩
  obtain ⟨b, off, e0, hb, hcell⟩ := hc (by simpa using hp)
  refine ⟨b, off, e0, Nat.zero_le _, hb, fun i x hx j u hu => ?_⟩
  simp only [List.getElem?_map, Option.map_eq_some_iff] at hx
  obtain ⟨y, ⟨k, hk, rfl⟩, rfl⟩ := hx
  obtain ⟨hkl, hk⟩ := List.getElem?_eq_some_iff.1 hk
  have hki : k = i := by simpa using hk.symm
  subst hki
  have hlen : k < len := by simpa using hkl
  match j, hu with
  | 0, hu => simp [P2.cells] at hu; subst hu; exact hcell k hlen 0 (by simp)
  | 1, hu => simp [P2.cells] at hu; subst hu; exact hcell k hlen 1 (by simp)
  | j + 2, hu => simp [P2.cells] at hu

theorem open_intsL {r : Reach} {b0 : Nat} {t e : TypeId} {v : Value} {d : DataW H} {p : List MemPlace} (ht : P.underlying t = some (.slice e)) (he : P.underlying e = some (.int .i64)) (hC : P.cellsOf e = 1)
    (hv : Value.okWide P w r b0 t v) (h : DataW.Trod enc P w 0 (fun _ => true) held t v d p) :
    ∃ (A : Option Addr) (c : Nat) (xs : List Int), v = .slice A xs.length c ∧ Ints w 0 A xs ∧ xs.length ≤ 9223372036854775807 := by
  obtain ⟨a0, len, cap, rfl⟩ := okWide_slice ht hv
  obtain ⟨fuel, hf⟩ := h
  rcases open_ints ht he hC hf with ⟨hcs, _⟩ | ⟨x, l, c, zs, hcs, _, hl, hm, hz, _, hcell, hwz⟩
  · simp [Value.cells] at hcs
    obtain ⟨rfl, rfl, rfl⟩ := hcs
    exact ⟨none, 0, [], rfl, Sl.none_, by simp⟩
  · simp [Value.cells] at hcs
    obtain ⟨rfl, rfl, rfl⟩ := hcs
    have hzl : len ≤ zs.length := by simp at hz; omega
    refine ⟨some x, cap, zs.take len, by simp [hzl], fun hp => ?_, by simp; unfold maxLen at hm; omega⟩
    have hp' : 0 < len := by simp at hp; omega
    have hc0 := hcell 0 (by omega)
    obtain ⟨b, off, sp⟩ := x
    have hz' : w.cell? ⟨b, off, sp⟩ = some (.int .i64 (zs.getD 0 0)) := by simpa [Addr.add] using hc0
    obtain rfl : sp = none := by simpa using World.cell?_spot hz'
    refine ⟨b, off, rfl, Nat.zero_le _, World.block_lt_of_cell? w _ hz', fun i x hx j u hu => ?_⟩
    rw [List.getElem?_map, Option.map_eq_some_iff] at hx
    obtain ⟨y, hy, rfl⟩ := hx
    match j, hu with
    | 0, hu =>
      simp [V1] at hu
      subst hu
      rw [List.getElem?_take] at hy
      split at hy
      · have hi := (List.getElem?_eq_some_iff.1 hy).1
        have := hcell i hi
        rw [show zs.getD i 0 = y by simp [hy]] at this
        simpa [addr_add_none] using this
      · cases hy
    | j + 1, hu => simp [V1] at hu
end

end Go.Proofs.Ytpmiafnccjejnaa
