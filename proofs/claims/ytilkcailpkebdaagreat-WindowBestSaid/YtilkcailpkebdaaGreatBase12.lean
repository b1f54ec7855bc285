/-
  Texts of the proof, one after the other.
-/
import Derived.Test.YtilkcailpkebdaaGreatBase11
import Derived.Test.YtilkcailpkebdaaGreatBase1

/-
  Slices of structs of ints that came in, opened: the list, the capacity, and that nil has none.
-/
namespace Go.Proofs.YtilkcailpkebdaaGreat
open Go.ChangeShapes Go.WideShapes Go.Deep Go.RowKit
set_option linter.unusedVariables false

section
variable {H : Type} {enc : TypeId × Value → H} {P : Program} {w : World} {spare : Nat → Bool} {held : Bool}

theorem open_cap {t e : TypeId} {fuel : Nat} {A : Option Addr} {n c : Nat} {x : DataW H × List MemPlace} (ht : P.underlying t = some (.slice e))
    (h : DataW.trod enc P w 0 (fun _ => true) held fuel t [.slice A n c] = some x) : A = none → c = 0 := by
  rcases open_slice ht h with ⟨hcs, _⟩ | ⟨a, len, cap, m, n', D, Pl, hcs, _⟩
  · intro _; simp at hcs; exact hcs.2.2
  · intro hA; simp at hcs; rw [hA] at hcs; cases hcs.1

theorem open_recs {α : Type} (ec : α → List Value) (mk : (Nat → Int) → α) (k : Nat) (hk : ∀ x, (ec x).length = k) (hmk : ∀ f j, j < k → (ec (mk f))[j]? = some (.int .i64 (f j))) (hk0 : 0 < k)
    {r : Reach} {b0 : Nat} {t e ti : TypeId} {fs : Array Field} {v : Value} {d : DataW H} {p : List MemPlace} (ht : P.underlying t = some (.slice e)) (he : P.underlying e = some (.struct fs)) (hfs : fs.size = k)
    (hone : oneCellFields P fs = true) (hC : P.cellsOf e = k) (hall : fs.all (fun f => f.type == ti) = true) (hti : P.underlying ti = some (.int .i64))
    (hv : Value.okWide P w r b0 t v) (h : DataW.Trod enc P w 0 (fun _ => true) held t v d p) :
    ∃ (A : Option Addr) (c : Nat) (xs : List α), v = .slice A xs.length c ∧ Sl w 0 k A (xs.map ec) ∧ xs.length ≤ 9223372036854775807 ∧ xs.length ≤ c ∧ (A = none → c = 0) := by
  obtain ⟨a0, len, cap, rfl⟩ := okWide_slice ht hv
  obtain ⟨fuel, hf⟩ := h
  obtain ⟨A, n, c, F, hcs, hnc, hcm, hc⟩ := open_rows ht he hone (by rw [hfs]; exact hC) (fun j f hj => by
    have := Array.all_eq_true.1 hall j (by exact (Array.getElem?_eq_some_iff.1 hj).1)
    rw [(Array.getElem?_eq_some_iff.1 hj).2] at this
    rw [beq_iff_eq.1 this]; exact hti) (by omega) hf
  have hcap := open_cap (A := a0) (n := len) (c := cap) ht hf
  simp [Value.cells] at hcs
  obtain ⟨rfl, rfl, rfl⟩ := hcs
  refine ⟨a0, cap, (List.range len).map fun i => mk (F i), by simp, fun hp => ?_, by simp; unfold maxLen at hcm; omega, by simpa using hnc, hcap⟩
  obtain ⟨b, off, e0, hb, hcell⟩ := hc (by simpa using hp)
  refine ⟨b, off, e0, Nat.zero_le _, hb, fun i x hx j u hu => ?_⟩
  simp only [List.getElem?_map, Option.map_eq_some_iff] at hx
  obtain ⟨y, ⟨k', hk', rfl⟩, rfl⟩ := hx
  obtain ⟨hkl, hk'⟩ := List.getElem?_eq_some_iff.1 hk'
  have hki : k' = i := by simpa using hk'.symm
  subst hki
  have hlen : k' < len := by simpa using hkl
  have hj : j < k := by have := (List.getElem?_eq_some_iff.1 hu).1; rwa [hk] at this
  rw [hmk _ j hj] at hu
  rw [← Option.some.inj hu, ← hfs]
  exact hcell k' hlen j (by omega)

def mkWin (f : Nat → Int) : Win := ⟨f 0, f 1, f 2⟩
theorem mkWin_get (f : Nat → Int) (j : Nat) (h : j < 3) : (Win.cells (mkWin f))[j]? = some (.int .i64 (f j)) := by
  rcases j with _ | _ | _ | j
  · rfl
  · rfl
  · rfl
  · omega
def mkLos (f : Nat → Int) : Los := ⟨f 0, f 1, f 2, f 3, f 4, f 5, f 6, f 7, f 8, f 9⟩
theorem mkLos_get (f : Nat → Int) (j : Nat) (h : j < 10) : (Los.cells (mkLos f))[j]? = some (.int .i64 (f j)) := by
  rcases j with _ | _ | _ | _ | _ | _ | _ | _ | _ | _ | j
  all_goals first | rfl | omega

theorem open_wins {r : Reach} {b0 : Nat} {t e ti : TypeId} {fs : Array Field} {v : Value} {d : DataW H} {p : List MemPlace} (ht : P.underlying t = some (.slice e)) (he : P.underlying e = some (.struct fs)) (hfs : fs.size = 3)
    (hone : oneCellFields P fs = true) (hC : P.cellsOf e = 3) (hall : fs.all (fun f => f.type == ti) = true) (hti : P.underlying ti = some (.int .i64))
    (hv : Value.okWide P w r b0 t v) (h : DataW.Trod enc P w 0 (fun _ => true) held t v d p) :
    ∃ (A : Option Addr) (c : Nat) (xs : List Win), v = .slice A xs.length c ∧ Wins w 0 A xs ∧ xs.length ≤ 9223372036854775807 ∧ xs.length ≤ c ∧ (A = none → c = 0) :=
  open_recs Win.cells mkWin 3 (fun _ => rfl) mkWin_get (by omega) ht he hfs hone hC hall hti hv h
theorem open_losses {r : Reach} {b0 : Nat} {t e ti : TypeId} {fs : Array Field} {v : Value} {d : DataW H} {p : List MemPlace} (ht : P.underlying t = some (.slice e)) (he : P.underlying e = some (.struct fs)) (hfs : fs.size = 10)
    (hone : oneCellFields P fs = true) (hC : P.cellsOf e = 10) (hall : fs.all (fun f => f.type == ti) = true) (hti : P.underlying ti = some (.int .i64))
    (hv : Value.okWide P w r b0 t v) (h : DataW.Trod enc P w 0 (fun _ => true) held t v d p) :
    ∃ (A : Option Addr) (c : Nat) (xs : List Los), v = .slice A xs.length c ∧ Losses w 0 A xs ∧ xs.length ≤ 9223372036854775807 ∧ xs.length ≤ c ∧ (A = none → c = 0) :=
  open_recs Los.cells mkLos 10 (fun _ => rfl) mkLos_get (by omega) ht he hfs hone hC hall hti hv h
end

end Go.Proofs.YtilkcailpkebdaaGreat
