/-
  Slices of shares that came in, opened: the list, the capacity, the ranges of its numbers.
-/
import Derived.Test.YtpmiafnccjejnaaOpen
import Derived.Test.YtpmiafnccjejnaaCollect
namespace Go.Proofs.Ytpmiafnccjejnaa
open Go.ChangeShapes Go.WideShapes Go.Deep Go.RowKit
set_option linter.unusedVariables false

section
variable {H : Type} {enc : TypeId × Value → H} {P : Program} {w : World} {spare : Nat → Bool} {held : Bool}

theorem i64_wf {a : Int} (h : (Lit.int IntKind.i64 a).wf = true) : I64 a := by
  have e1 : IntKind.i64.min = -9223372036854775808 := by decide
  have e2 : IntKind.i64.max = 9223372036854775807 := by decide
  simp [Lit.wf, e1, e2] at h
  exact h
theorem open_rowsI {t e : TypeId} {fs : Array Field} {fuel : Nat} {cs : List Value} {x : DataW H × List MemPlace} (ht : P.underlying t = some (.slice e)) (he : P.underlying e = some (.struct fs))
    (hone : oneCellFields P fs = true) (hC : P.cellsOf e = fs.size) (hint : ∀ (j : Nat) (f : Field), fs[j]? = some f → P.underlying f.type = some (.int .i64)) (h0 : 0 < fs.size)
    (h : DataW.trod enc P w 0 (fun _ => true) held fuel t cs = some x) :
    ∃ (A : Option Addr) (n c : Nat) (F : Nat → Nat → Int), cs = [.slice A n c] ∧ n ≤ c ∧ c ≤ maxLen ∧ (∀ i j, I64 (F i j)) ∧ (A = none → c = 0) ∧ (0 < n → ∃ b off, A = some ⟨b, off, none⟩ ∧ b < w.heap.size ∧ ∀ i, i < n → ∀ j, j < fs.size → w.cell? ⟨b, off + i * fs.size + j, none⟩ = some (.int .i64 (F i j))) := by
  rcases open_slice ht h with ⟨rfl, _⟩ | ⟨a, len, cap, m, n, D, Pl, hcs, hb, hl, hm, hmm, hx, hi⟩
  · exact ⟨none, 0, 0, fun _ _ => 0, rfl, Nat.le_refl _, Nat.zero_le _, fun _ _ => (by unfold I64; dsimp only; omega), fun _ => rfl, fun h => absurd h (by omega)⟩
  · have hcell : ∀ i j, i < m → j < fs.size → ∃ z : Int, w.cell? (a.add (i * fs.size + j)) = some (.int .i64 z) ∧ I64 z := by
      intro i j him hj
      obtain ⟨cs', hc, ht'⟩ := hi i him
      rw [hC] at hc
      obtain ⟨ys, n', hn', hy, hlen, hyl, hf⟩ := DataW.trod_struct he ht'
      obtain ⟨_, hcl, hat⟩ := World.cells?_some hc
      obtain ⟨f, hfj⟩ : ∃ f, fs[j]? = some f := ⟨_, Array.getElem?_eq_getElem hj⟩
      obtain ⟨ho, hk⟩ := hone_of hone j f hfj
      have h1 := hf j f hfj
      rw [ho, hk] at h1
      have hone' : (cs'.drop j).take 1 = [cs'[j]'(by omega)] := by
        rw [List.drop_eq_getElem_cons (by omega)]
        rfl
      rw [hone'] at h1
      have hys : ys[j]? = some (ys[j]'(by omega)) := List.getElem?_eq_getElem (by omega)
      obtain ⟨z, e0, _, hwf⟩ := DataW.trod_int (hint j f hfj) (h1.trans hys)
      refine ⟨z, ?_, i64_wf hwf⟩
      rw [← Go.Deep.add_add, hat j hj, List.getElem?_eq_getElem (by omega)]
      simp only [List.cons.injEq, and_true] at e0
      rw [e0]
    have hm2 : len ≤ m := by rw [hmm]; split <;> omega
    refine ⟨some a, len, cap, fun i j => if hh : i < m ∧ j < fs.size then (hcell i j hh.1 hh.2).choose else 0, hcs, hl, hm, fun i j => ?_, (fun h => nomatch h), fun hp => ?_⟩
    · dsimp only
      split
      · rename_i hh; exact (hcell i j hh.1 hh.2).choose_spec.2
      · unfold I64; omega
    obtain ⟨z, hz, _⟩ := hcell 0 0 (by omega) h0
    obtain ⟨b, off, sp⟩ := a
    have hz' : w.cell? ⟨b, off, sp⟩ = some (.int .i64 z) := by simpa [Addr.add] using hz
    obtain rfl : sp = none := by simpa using World.cell?_spot hz'
    refine ⟨b, off, rfl, World.block_lt_of_cell? w _ hz', fun i hin j hj => ?_⟩
    have hh : i < m ∧ j < fs.size := ⟨by omega, hj⟩
    have := (hcell i j hh.1 hh.2).choose_spec.1
    have hadd : (({ block := b, off := off } : Addr).add (i * fs.size + j)) = ⟨b, off + i * fs.size + j, none⟩ := by rw [addr_add_none, Nat.add_assoc]
    dsimp only
    rw [dif_pos hh]
    exact (congrArg w.cell? hadd.symm).trans this
def mkSh (f : Nat → Int) : Sh := ⟨f 0, f 1, f 2, f 3, f 4⟩
theorem mkSh_get (f : Nat → Int) (j : Nat) (h : j < 5) : (Sh.cells (mkSh f))[j]? = some (.int .i64 (f j)) := by
  rcases j with _ | _ | _ | _ | _ | j
  all_goals first | rfl | omega
theorem open_shares {r : Reach} {b0 : Nat} {t e ti : TypeId} {fs : Array Field} {v : Value} {d : DataW H} {p : List MemPlace} (ht : P.underlying t = some (.slice e)) (he : P.underlying e = some (.struct fs)) (hfs : fs.size = 5)
    (hone : oneCellFields P fs = true) (hC : P.cellsOf e = 5) (hall : fs.all (fun f => f.type == ti) = true) (hti : P.underlying ti = some (.int .i64))
    (hv : Value.okWide P w r b0 t v) (h : DataW.Trod enc P w 0 (fun _ => true) held t v d p) :
    ∃ (A : Option Addr) (c : Nat) (xs : List Sh), v = .slice A xs.length c ∧ Shs w 0 A xs ∧ xs.length ≤ 9223372036854775807 ∧ xs.length ≤ c ∧ (A = none → c = 0) ∧ ∀ x ∈ xs, x.ok := by
  obtain ⟨a0, len, cap, rfl⟩ := okWide_slice ht hv
  obtain ⟨fuel, hf⟩ := h
  obtain ⟨A, n, c, F, hcs, hnc, hcm, hF, hcap, hc⟩ := open_rowsI ht he hone (by rw [hfs]; exact hC) (fun j f hj => by
    have := Array.all_eq_true.1 hall j (by exact (Array.getElem?_eq_some_iff.1 hj).1)
    rw [(Array.getElem?_eq_some_iff.1 hj).2] at this
    rw [beq_iff_eq.1 this]; exact hti) (by omega) hf
  simp [Value.cells] at hcs
  obtain ⟨rfl, rfl, rfl⟩ := hcs
  refine ⟨a0, cap, (List.range len).map fun i => mkSh (F i), by simp, fun hp => ?_, by simp; unfold maxLen at hcm; omega, by simpa using hnc, hcap, fun x hx => ?_⟩
  · obtain ⟨b, off, e0, hb, hcell⟩ := hc (by simpa using hp)
    refine ⟨b, off, e0, Nat.zero_le _, hb, fun i x hx j u hu => ?_⟩
    simp only [List.getElem?_map, Option.map_eq_some_iff] at hx
    obtain ⟨y, ⟨k', hk', rfl⟩, rfl⟩ := hx
    obtain ⟨hkl, hk'⟩ := List.getElem?_eq_some_iff.1 hk'
    have hki : k' = i := by simpa using hk'.symm
    subst hki
    have hlen : k' < len := by simpa using hkl
    have hj : j < 5 := (List.getElem?_eq_some_iff.1 hu).1
    rw [mkSh_get _ j hj] at hu
    rw [← Option.some.inj hu, ← hfs]
    exact hcell k' hlen j (by omega)
  · obtain ⟨i, _, rfl⟩ := List.mem_map.1 hx
    exact ⟨hF i 0, hF i 1, hF i 2⟩
end

end Go.Proofs.Ytpmiafnccjejnaa
