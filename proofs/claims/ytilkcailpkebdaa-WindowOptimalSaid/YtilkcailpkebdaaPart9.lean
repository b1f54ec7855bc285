/-
  Texts of the proof of WindowOptimal, one after the other.
-/
import Derived.Test.YtilkcailpkebdaaPart3
import Derived.Test.YtilkcailpkebdaaPart5
import Derived.Test.YtilkcailpkebdaaPart7
import Derived.Test.YtilkcailpkebdaaPart8
import Derived.Test.YtilkcailpkebdaaPart1
import Derived.ProofKit
import Derived.OpenShut
import Derived.ChangeOld
import Derived.Below
import Derived.Deep.Slices
import Derived.Deep.Fields
import Derived.ChangeSame

/-
  treatylaw26.WindowOptimal: the law's walk.
-/
namespace Go.Proofs.Ytilkcailpkebdaa
open Go.RowKit
set_option linter.unusedVariables false

set_option maxRecDepth 100000 in
set_option maxHeartbeats 2000000 in
theorem lawOptimal (D : Option Addr) (dc : Nat) (deck : List Int) (O : Option Addr) (oc : Nat) (other : List Int) (T : Option Addr) (tc : Nat) (third : List Int) (w : World)
    (hD : Ints w 0 D deck) (hO : Ints w 0 O other) (hT : Ints w 0 T third) (hdl : deck.length ≤ 9223372036854775807) (hol : other.length ≤ 9223372036854775807) (htl : third.length ≤ 9223372036854775807) :
    Calls Try.prog 5 #[.slice D deck.length dc, .slice O other.length oc, .slice T third.length tc] w fun e w' => e = .returned (.bool true) ∧ Below w.heap.size w w' := by
  have C1 := Lib.hid (few26_any D dc deck w hD hdl)
  have C2 : Hid (∀ W, Ints W 0 O other → _) := fun W h => terms26_any O oc other W h hol
  have C3 : Hid (∀ W, Ints W 0 T third → _) := fun W h => new_any T tc third W htl h
  obtain ⟨m, hm⟩ : ∃ k, k = deck.length := ⟨_, rfl⟩
  obtain ⟨o, ho⟩ : ∃ k, k = other.length := ⟨_, rfl⟩
  obtain ⟨t, ht⟩ : ∃ k, k = third.length := ⟨_, rfl⟩
  rw [← hm] at C1
  rw [← ho] at C2
  rw [← ht] at C3
  rw [← hm, ← ho, ← ht]
  clear hm ho ht hdl hol htl
  go_enter Try.func5, Try.ntmps5
  go_wp2_with fail
  refine C1.out.mono ?_
  rintro e w1 ⟨LA, lc, los, last, AA, ac, am, rfl, hl10, hmade, hal, hall, hLo, hAm, hb1⟩
  have hL1 : Losses w1 0 LA los := hLo.low (Nat.zero_le _)
  have hA1 : Ints w1 0 AA am := hAm.low (Nat.zero_le _)
  have hal' : am.length ≤ 10 := by omega
  have HCE := Lib.hid (chkE_made hmade (by omega) hal hall)
  clear hmade hall hLo hAm C1 hal
  go_wp2_with fail
  refine (C2.out _ (hO.below hb1)).mono ?_
  rintro e w2 ⟨N, G, gc, ls, rfl, hN1, hN2, hl1, hl3, hlall, hG, hb2⟩
  have hG2 : Pairs w2 0 G ls := hG.low (Nat.zero_le _)
  have hb02 := hb1.trans (hb2.mono hb1.size)
  have HRE := Lib.hid (rec_ok (t := 0) (ls := ls) (by omega) hlall (by omega)).1
  clear hlall hG C2
  go_wp2_with fail
  refine (C3.out _ (hT.below hb02)).mono ?_
  rintro e w3 ⟨rfl, hdk, hb3, hs3⟩
  clear hs3 C3
  go_wp2_with fail
  refine (mwindows_any _ N _ hN1 (by omega) hdk).mono ?_
  rintro e w4 ⟨v, xs, rfl, hx5, hxE, hown, hdk4, hg4⟩
  have hb24 : Below w2.heap.size w2 w4 := below_of_only hb3 hg4 (Nat.le_refl _)
  have hb04 := hb02.trans (hb24.mono hb02.size)
  obtain ⟨X, xc, rfl, hxc⟩ := own_shape hown
  have hX : Wins w4 0 X xs := (wins_of_ownE hown rfl).low (Nat.zero_le _)
  have hL4 := (hL1.below hb2).below hb24
  have hA4 := (hA1.below hb2).below hb24
  have hG4 := hG2.below hb24
  have HBA := Lib.hid (best_all HCE.out HRE.out hN1 (show N ≤ 8784 by omega))
  have HLE := Lib.hid (eval_le HCE.out HRE.out hxE)
  have HEV := Lib.hid (ev_parts HCE.out HRE.out hxE)
  have HVA := Lib.hid (best_valid (ls := ls) HCE.out hN1 (show N ≤ 8784 by omega))
  have HBL : Hid ((bestW los am N ls).length ≤ 10) := by show _ ≤ _; rw [HBA.out.2.1]; exact Nat.le_trans best_len hl10
  have E1 : Hid (∀ W, Below w4.heap.size w4 W → _) := fun W h => evaluate_any LA lc los AA ac am X xc xs N G gc ls W (by omega) (by omega) (by omega) hxc (by omega) (hL4.below h) (hA4.below h) (hX.below h) (hG4.below h)
  have E2 : Hid (∀ W, Below w4.heap.size w4 W → _) := fun W h => wbest_any LA lc los AA ac am N G gc ls W (by omega) (by omega) (by omega) (hL4.below h) (hA4.below h) (hG4.below h)
  have E3 : Hid (∀ (Y : Option Addr) (yc : Nat) W, (bestW los am N ls).length ≤ yc → Wins W 0 Y (bestW los am N ls) → _) := fun Y yc W h h' => validate_any Y yc (bestW los am N ls) N W (by have := HBL.out; omega) h h'
  rw [HEV.out] at E1
  rw [HBA.out.1] at E2
  have hE3 : winsE (bestW los am N ls) N = 0 := by rw [HBA.out.2.1]; exact HVA.out
  rw [hE3] at E3
  have hle : sumI (evR los am xs N ls) ≤ sumI (bestR los am N ls) := by rw [HBA.out.2.2.2.2.1]; exact HLE.out
  obtain ⟨fw, hfw⟩ : ∃ k, k = (evW los am xs N ls).length := ⟨_, rfl⟩
  obtain ⟨ft, hft⟩ : ∃ k, k = (evT los am xs N ls).length := ⟨_, rfl⟩
  obtain ⟨fr, hfr⟩ : ∃ k, k = (evR los am xs N ls).length := ⟨_, rfl⟩
  obtain ⟨fs, hfs⟩ : ∃ k, k = sumI (evR los am xs N ls) := ⟨_, rfl⟩
  obtain ⟨gw, hgw⟩ : ∃ k, k = (bestW los am N ls).length := ⟨_, rfl⟩
  obtain ⟨gt, hgt⟩ : ∃ k, k = (bestT los am N ls).length := ⟨_, rfl⟩
  obtain ⟨gr, hgr⟩ : ∃ k, k = (bestR los am N ls).length := ⟨_, rfl⟩
  obtain ⟨gs, hgs⟩ : ∃ k, k = sumI (bestR los am N ls) := ⟨_, rfl⟩
  rw [← hfw, ← hft, ← hfr, ← hfs] at E1
  rw [← hgw, ← hgt, ← hgr, ← hgs] at E2
  rw [← hgw] at E3
  rw [← hfs, ← hgs] at hle
  have q1 : decide (fs ≤ gs) = true := by simpa using hle
  clear hfw hft hfr hfs hgw hgt hgr hgs hle hE3 HBA HLE HEV HVA HBL
  obtain ⟨nl, hnl⟩ : ∃ k, k = los.length := ⟨_, rfl⟩
  obtain ⟨na, hna⟩ : ∃ k, k = am.length := ⟨_, rfl⟩
  obtain ⟨nx, hnx⟩ : ∃ k, k = xs.length := ⟨_, rfl⟩
  obtain ⟨ng, hng⟩ : ∃ k, k = ls.length := ⟨_, rfl⟩
  rw [← hnl, ← hna, ← hng] at E1 E2
  rw [← hnx] at E1
  rw [← hnl, ← hna, ← hnx, ← hng]
  clear hnl hna hnx hng hl10 hal' hl1 hl3 hxc hL4 hA4 hG4 hX hx5 hxE hown hdk4 hg4 hdk hb3 hb2 hb1 hb24 hL1 hA1 hG2
  go_wp2_with fail
  refine (E1.out _ (Below.refl _ _)).mono ?_
  rintro e w5 ⟨W1, wc1, T1, tc1, R1, rc1, rfl, _, _, _, hb5, _⟩
  obtain ⟨v5, hv5⟩ : ∃ x : World, x = w5.alloc (.cells #[.slice W1 fw wc1, .slice T1 ft tc1, .slice R1 fr rc1, .int .i64 fs] 46) := ⟨_, rfl⟩
  obtain ⟨p1, hp1⟩ : ∃ x : Nat, x = w5.heap.size := ⟨_, rfl⟩
  have hB1 : v5.heap[p1]? = some (.cells #[.slice W1 fw wc1, .slice T1 ft tc1, .slice R1 fr rc1, .int .i64 fs] 46 (0, 0)) := by rw [hv5, hp1]; exact heap_alloc_new _ _
  have hX1 : Below w5.heap.size w5 v5 := by rw [hv5]; exact below_alloc _ _
  go_wp2_with fail
  rw [← hv5, ← hp1]
  clear hv5 hp1
  have hd5 : Below w4.heap.size w4 v5 := hb5.trans (hX1.mono hb5.size)
  refine (E2.out _ hd5).mono ?_
  rintro e w6 ⟨W2, wc2, T2, tc2, R2, rc2, rfl, hW2, _, _, hb6, hcp⟩
  obtain ⟨v6, hv6⟩ : ∃ x : World, x = w6.alloc (.cells #[.slice W2 gw wc2, .slice T2 gt tc2, .slice R2 gr rc2, .int .i64 gs] 46) := ⟨_, rfl⟩
  obtain ⟨p2, hp2⟩ : ∃ x : Nat, x = w6.heap.size := ⟨_, rfl⟩
  have hB2 : v6.heap[p2]? = some (.cells #[.slice W2 gw wc2, .slice T2 gt tc2, .slice R2 gr rc2, .int .i64 gs] 46 (0, 0)) := by rw [hv6, hp2]; exact heap_alloc_new _ _
  have hX2 : Below w6.heap.size w6 v6 := by rw [hv6]; exact below_alloc _ _
  have hd6 : Below w4.heap.size w4 v6 := hd5.trans ((hb6.trans (hX2.mono hb6.size)).mono hd5.size)
  have y56 := hb6.trans (hX2.mono hb6.size)
  have hB1' := (y56.block _ (lt_of_heap0 hB1)).trans hB1
  have E3' := Lib.hid (E3.out W2 wc2 v6 hcp ((hW2.below hX2).low (Nat.zero_le _)))
  have c13 : v6.cell? ⟨p1, 3, none⟩ = some (.int .i64 fs) := by simp [World.cell?, hB1']
  have c20 : v6.cell? ⟨p2, 0, none⟩ = some (.slice W2 gw wc2) := by simp [World.cell?, hB2]
  have c23 : v6.cell? ⟨p2, 3, none⟩ = some (.int .i64 gs) := by simp [World.cell?, hB2]
  clear hB1 hB2 hB1' hX1 hX2 hb5 hb6 y56 hd5 E1 E2 E3 hcp hW2
  go_upto_region 6 with fail
  rw [← hv6, ← hp2]
  clear hv6 hp2
  go_wp2_with fail
  refine E3'.out.mono ?_
  rintro e w7 ⟨rfl, hb7⟩
  have hd7 := hd6.trans (hb7.mono hd6.size)
  have hb07 := hb04.trans (hd7.mono hb04.size)
  go_wp2_with (go_at_call 27; refine (awake26_any _).mono ?_; rintro e w11 ⟨rfl, hb11⟩)
  go_ret
  exact ⟨rfl, hb07.trans (hb11.mono hb07.size)⟩

end Go.Proofs.Ytilkcailpkebdaa

/-
  Arguments that came in: slices of ints and of structs of ints, opened to cells.
-/
namespace Go.Proofs.Ytilkcailpkebdaa
open Go.ChangeShapes Go.WideShapes Go.Deep Go.RowKit
set_option linter.unusedVariables false

theorem addr_add_none (b off i : Nat) : (({ block := b, off := off } : Addr).add i) = ⟨b, off + i, none⟩ := by
  unfold Addr.add; split
  · rename_i h; rw [h]; simp
  · rfl

section
variable {H : Type} {enc : TypeId × Value → H} {P : Program} {w : World} {spare : Nat → Bool} {held : Bool}

theorem open_rows {t e : TypeId} {fs : Array Field} {fuel : Nat} {cs : List Value} {x : DataW H × List MemPlace} (ht : P.underlying t = some (.slice e)) (he : P.underlying e = some (.struct fs))
    (hone : oneCellFields P fs = true) (hC : P.cellsOf e = fs.size) (hint : ∀ (j : Nat) (f : Field), fs[j]? = some f → P.underlying f.type = some (.int .i64)) (h0 : 0 < fs.size)
    (h : DataW.trod enc P w 0 (fun _ => true) held fuel t cs = some x) :
    ∃ (A : Option Addr) (n c : Nat) (F : Nat → Nat → Int), cs = [.slice A n c] ∧ n ≤ c ∧ c ≤ maxLen ∧ (0 < n → ∃ b off, A = some ⟨b, off, none⟩ ∧ b < w.heap.size ∧ ∀ i, i < n → ∀ j, j < fs.size → w.cell? ⟨b, off + i * fs.size + j, none⟩ = some (.int .i64 (F i j))) := by
  rcases open_slice ht h with ⟨rfl, _⟩ | ⟨a, len, cap, m, n, D, Pl, hcs, hb, hl, hm, hmm, hx, hi⟩
  · exact ⟨none, 0, 0, fun _ _ => 0, rfl, Nat.le_refl _, Nat.zero_le _, fun h => absurd h (by omega)⟩
  · have hcell : ∀ i j, i < m → j < fs.size → ∃ z : Int, w.cell? (a.add (i * fs.size + j)) = some (.int .i64 z) := by
      intro i j him hj
      obtain ⟨cs', hc, ht'⟩ := hi i him
      rw [hC] at hc
      obtain ⟨ys, n', hn', hy, hlen, hyl, hf⟩ := DataW.trod_struct he ht'
      obtain ⟨_, hcl, hat⟩ := World.cells?_some hc
      obtain ⟨f, hfj⟩ : ∃ f, fs[j]? = some f := ⟨_, Array.getElem?_eq_getElem hj⟩
      obtain ⟨ho, hk⟩ := hone_of hone j f hfj
      have h1 := hf j f hfj
      rw [ho, hk] at h1
      have hone' : (cs'.drop j).take 1 = [cs'[j]'(by omega)] := by
        rw [List.drop_eq_getElem_cons (by omega)]
        rfl
      rw [hone'] at h1
      have hys : ys[j]? = some (ys[j]'(by omega)) := List.getElem?_eq_getElem (by omega)
      obtain ⟨z, e0, _, _⟩ := DataW.trod_int (hint j f hfj) (h1.trans hys)
      refine ⟨z, ?_⟩
      rw [← Go.Deep.add_add, hat j hj, List.getElem?_eq_getElem (by omega)]
      simp only [List.cons.injEq, and_true] at e0
      rw [e0]
    have hm2 : len ≤ m := by rw [hmm]; split <;> omega
    refine ⟨some a, len, cap, fun i j => if hh : i < m ∧ j < fs.size then (hcell i j hh.1 hh.2).choose else 0, hcs, hl, hm, fun hp => ?_⟩
    obtain ⟨z, hz⟩ := hcell 0 0 (by omega) h0
    obtain ⟨b, off, sp⟩ := a
    have hz' : w.cell? ⟨b, off, sp⟩ = some (.int .i64 z) := by simpa [Addr.add] using hz
    obtain rfl : sp = none := by simpa using World.cell?_spot hz'
    refine ⟨b, off, rfl, World.block_lt_of_cell? w _ hz', fun i hin j hj => ?_⟩
    have hh : i < m ∧ j < fs.size := ⟨by omega, hj⟩
    have := (hcell i j hh.1 hh.2).choose_spec
    have hadd : (({ block := b, off := off } : Addr).add (i * fs.size + j)) = ⟨b, off + i * fs.size + j, none⟩ := by rw [addr_add_none, Nat.add_assoc]
    dsimp only
    rw [dif_pos hh]
    exact (congrArg w.cell? hadd.symm).trans this

theorem open_pairs {r : Reach} {b0 : Nat} {t e : TypeId} {f0 f1 : Field} {v : Value} {d : DataW H} {p : List MemPlace} (ht : P.underlying t = some (.slice e)) (he : P.underlying e = some (.struct #[f0, f1]))
    (hone : oneCellFields P #[f0, f1] = true) (hC : P.cellsOf e = 2) (i0 : P.underlying f0.type = some (.int .i64)) (i1 : P.underlying f1.type = some (.int .i64))
    (hv : Value.okWide P w r b0 t v) (h : DataW.Trod enc P w 0 (fun _ => true) held t v d p) :
    ∃ (A : Option Addr) (c : Nat) (xs : List P2), v = .slice A xs.length c ∧ Pairs w 0 A xs ∧ xs.length ≤ 9223372036854775807 := by
  obtain ⟨a0, len, cap, rfl⟩ := okWide_slice ht hv
  obtain ⟨fuel, hf⟩ := h
  obtain ⟨A, n, c, F, hcs, hnc, hcm, hc⟩ := open_rows ht he hone (by simpa using hC) (fun j f hj => by
    match j, hj with
    | 0, hj => simp at hj; subst hj; exact i0
    | 1, hj => simp at hj; subst hj; exact i1
    | j + 2, hj => simp at hj) (by simp) hf
  simp [Value.cells] at hcs
  obtain ⟨rfl, rfl, rfl⟩ := hcs
  refine ⟨a0, cap, (List.range len).map fun i => ⟨F i 0, F i 1⟩, by simp, fun hp => ?_, by simp; unfold maxLen at hcm; omega⟩
  obtain ⟨b, off, e0, hb, hcell⟩ := hc (by simpa using hp)
  refine ⟨b, off, e0, Nat.zero_le _, hb, fun i x hx j u hu => ?_⟩
  simp only [List.getElem?_map, Option.map_eq_some_iff] at hx
  obtain ⟨y, ⟨k, hk, rfl⟩, rfl⟩ := hx
  obtain ⟨hkl, hk⟩ := List.getElem?_eq_some_iff.1 hk
  have hki : k = i := by simpa using hk.symm
  subst hki
  have hlen : k < len := by simpa using hkl
  match j, hu with
  | 0, hu => simp [P2.cells] at hu; subst hu; exact hcell k hlen 0 (by simp)
  | 1, hu => simp [P2.cells] at hu; subst hu; exact hcell k hlen 1 (by simp)
  | j + 2, hu => simp [P2.cells] at hu

theorem open_intsL {r : Reach} {b0 : Nat} {t e : TypeId} {v : Value} {d : DataW H} {p : List MemPlace} (ht : P.underlying t = some (.slice e)) (he : P.underlying e = some (.int .i64)) (hC : P.cellsOf e = 1)
    (hv : Value.okWide P w r b0 t v) (h : DataW.Trod enc P w 0 (fun _ => true) held t v d p) :
    ∃ (A : Option Addr) (c : Nat) (xs : List Int), v = .slice A xs.length c ∧ Ints w 0 A xs ∧ xs.length ≤ 9223372036854775807 := by
  obtain ⟨a0, len, cap, rfl⟩ := okWide_slice ht hv
  obtain ⟨fuel, hf⟩ := h
  rcases open_ints ht he hC hf with ⟨hcs, _⟩ | ⟨x, l, c, zs, hcs, _, hl, hm, hz, _, hcell, hwz⟩
  · simp [Value.cells] at hcs
    obtain ⟨rfl, rfl, rfl⟩ := hcs
    exact ⟨none, 0, [], rfl, Sl.none_, by simp⟩
  · simp [Value.cells] at hcs
    obtain ⟨rfl, rfl, rfl⟩ := hcs
    have hzl : len ≤ zs.length := by simp at hz; omega
    refine ⟨some x, cap, zs.take len, by simp [hzl], fun hp => ?_, by simp; unfold maxLen at hm; omega⟩
    have hp' : 0 < len := by simp at hp; omega
    have hc0 := hcell 0 (by omega)
    obtain ⟨b, off, sp⟩ := x
    have hz' : w.cell? ⟨b, off, sp⟩ = some (.int .i64 (zs.getD 0 0)) := by simpa [Addr.add] using hc0
    obtain rfl : sp = none := by simpa using World.cell?_spot hz'
    refine ⟨b, off, rfl, Nat.zero_le _, World.block_lt_of_cell? w _ hz', fun i x hx j u hu => ?_⟩
    rw [List.getElem?_map, Option.map_eq_some_iff] at hx
    obtain ⟨y, hy, rfl⟩ := hx
    match j, hu with
    | 0, hu =>
      simp [V1] at hu
      subst hu
      rw [List.getElem?_take] at hy
      split at hy
      · have hi := (List.getElem?_eq_some_iff.1 hy).1
        have := hcell i hi
        rw [show zs.getD i 0 = y by simp [hy]] at this
        simpa [addr_add_none] using this
      · cases hy
    | j + 1, hu => simp [V1] at hu
end

end Go.Proofs.Ytilkcailpkebdaa

/-
  Slices of structs of ints that came in, opened: the list, the capacity, and that nil has none.
-/
namespace Go.Proofs.Ytilkcailpkebdaa
open Go.ChangeShapes Go.WideShapes Go.Deep Go.RowKit
set_option linter.unusedVariables false

section
variable {H : Type} {enc : TypeId × Value → H} {P : Program} {w : World} {spare : Nat → Bool} {held : Bool}

theorem open_cap {t e : TypeId} {fuel : Nat} {A : Option Addr} {n c : Nat} {x : DataW H × List MemPlace} (ht : P.underlying t = some (.slice e))
    (h : DataW.trod enc P w 0 (fun _ => true) held fuel t [.slice A n c] = some x) : A = none → c = 0 := by
  rcases open_slice ht h with ⟨hcs, _⟩ | ⟨a, len, cap, m, n', D, Pl, hcs, _⟩
  · intro _; simp at hcs; exact hcs.2.2
  · intro hA; simp at hcs; rw [hA] at hcs; cases hcs.1

theorem open_recs {α : Type} (ec : α → List Value) (mk : (Nat → Int) → α) (k : Nat) (hk : ∀ x, (ec x).length = k) (hmk : ∀ f j, j < k → (ec (mk f))[j]? = some (.int .i64 (f j))) (hk0 : 0 < k)
    {r : Reach} {b0 : Nat} {t e ti : TypeId} {fs : Array Field} {v : Value} {d : DataW H} {p : List MemPlace} (ht : P.underlying t = some (.slice e)) (he : P.underlying e = some (.struct fs)) (hfs : fs.size = k)
    (hone : oneCellFields P fs = true) (hC : P.cellsOf e = k) (hall : fs.all (fun f => f.type == ti) = true) (hti : P.underlying ti = some (.int .i64))
    (hv : Value.okWide P w r b0 t v) (h : DataW.Trod enc P w 0 (fun _ => true) held t v d p) :
    ∃ (A : Option Addr) (c : Nat) (xs : List α), v = .slice A xs.length c ∧ Sl w 0 k A (xs.map ec) ∧ xs.length ≤ 9223372036854775807 ∧ xs.length ≤ c ∧ (A = none → c = 0) := by
  obtain ⟨a0, len, cap, rfl⟩ := okWide_slice ht hv
  obtain ⟨fuel, hf⟩ := h
  obtain ⟨A, n, c, F, hcs, hnc, hcm, hc⟩ := open_rows ht he hone (by rw [hfs]; exact hC) (fun j f hj => by
    have := Array.all_eq_true.1 hall j (by exact (Array.getElem?_eq_some_iff.1 hj).1)
    rw [(Array.getElem?_eq_some_iff.1 hj).2] at this
    rw [beq_iff_eq.1 this]; exact hti) (by omega) hf
  have hcap := open_cap (A := a0) (n := len) (c := cap) ht hf
  simp [Value.cells] at hcs
  obtain ⟨rfl, rfl, rfl⟩ := hcs
  refine ⟨a0, cap, (List.range len).map fun i => mk (F i), by simp, fun hp => ?_, by simp; unfold maxLen at hcm; omega, by simpa using hnc, hcap⟩
  obtain ⟨b, off, e0, hb, hcell⟩ := hc (by simpa using hp)
  refine ⟨b, off, e0, Nat.zero_le _, hb, fun i x hx j u hu => ?_⟩
  simp only [List.getElem?_map, Option.map_eq_some_iff] at hx
  obtain ⟨y, ⟨k', hk', rfl⟩, rfl⟩ := hx
  obtain ⟨hkl, hk'⟩ := List.getElem?_eq_some_iff.1 hk'
  have hki : k' = i := by simpa using hk'.symm
  subst hki
  have hlen : k' < len := by simpa using hkl
  have hj : j < k := by have := (List.getElem?_eq_some_iff.1 hu).1; rwa [hk] at this
  rw [hmk _ j hj] at hu
  rw [← Option.some.inj hu, ← hfs]
  exact hcell k' hlen j (by omega)

def mkWin (f : Nat → Int) : Win := ⟨f 0, f 1, f 2⟩
theorem mkWin_get (f : Nat → Int) (j : Nat) (h : j < 3) : (Win.cells (mkWin f))[j]? = some (.int .i64 (f j)) := by
  rcases j with _ | _ | _ | j
  · rfl
  · rfl
  · rfl
  · omega
def mkLos (f : Nat → Int) : Los := ⟨f 0, f 1, f 2, f 3, f 4, f 5, f 6, f 7, f 8, f 9⟩
theorem mkLos_get (f : Nat → Int) (j : Nat) (h : j < 10) : (Los.cells (mkLos f))[j]? = some (.int .i64 (f j)) := by
  rcases j with _ | _ | _ | _ | _ | _ | _ | _ | _ | _ | j
  all_goals first | rfl | omega

theorem open_wins {r : Reach} {b0 : Nat} {t e ti : TypeId} {fs : Array Field} {v : Value} {d : DataW H} {p : List MemPlace} (ht : P.underlying t = some (.slice e)) (he : P.underlying e = some (.struct fs)) (hfs : fs.size = 3)
    (hone : oneCellFields P fs = true) (hC : P.cellsOf e = 3) (hall : fs.all (fun f => f.type == ti) = true) (hti : P.underlying ti = some (.int .i64))
    (hv : Value.okWide P w r b0 t v) (h : DataW.Trod enc P w 0 (fun _ => true) held t v d p) :
    ∃ (A : Option Addr) (c : Nat) (xs : List Win), v = .slice A xs.length c ∧ Wins w 0 A xs ∧ xs.length ≤ 9223372036854775807 ∧ xs.length ≤ c ∧ (A = none → c = 0) :=
  open_recs Win.cells mkWin 3 (fun _ => rfl) mkWin_get (by omega) ht he hfs hone hC hall hti hv h
theorem open_losses {r : Reach} {b0 : Nat} {t e ti : TypeId} {fs : Array Field} {v : Value} {d : DataW H} {p : List MemPlace} (ht : P.underlying t = some (.slice e)) (he : P.underlying e = some (.struct fs)) (hfs : fs.size = 10)
    (hone : oneCellFields P fs = true) (hC : P.cellsOf e = 10) (hall : fs.all (fun f => f.type == ti) = true) (hti : P.underlying ti = some (.int .i64))
    (hv : Value.okWide P w r b0 t v) (h : DataW.Trod enc P w 0 (fun _ => true) held t v d p) :
    ∃ (A : Option Addr) (c : Nat) (xs : List Los), v = .slice A xs.length c ∧ Losses w 0 A xs ∧ xs.length ≤ 9223372036854775807 ∧ xs.length ≤ c ∧ (A = none → c = 0) :=
  open_recs Los.cells mkLos 10 (fun _ => rfl) mkLos_get (by omega) ht he hfs hone hC hall hti hv h
end

end Go.Proofs.Ytilkcailpkebdaa
