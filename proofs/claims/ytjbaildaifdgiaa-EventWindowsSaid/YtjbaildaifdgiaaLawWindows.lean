/-
  treatylaw25.EventWindows: the law's walk.
-/
import Derived.Test.YtjbaildaifdgiaaFew25
import Derived.Test.YtjbaildaifdgiaaAwake25
import Derived.Test.YtjbaildaifdgiaaVald
import Derived.Test.YtjbaildaifdgiaaRWins
import Derived.Test.YtjbaildaifdgiaaMWin
import Derived.Test.YtjbaildaifdgiaaBits
import Derived.Deep.DeepCutAuto
namespace Go.Proofs.Ytjbaildaifdgiaa
open Go.RowKit
set_option linter.unusedVariables false

theorem wins_of_ownW {w : World} {base n c : Nat} {e : TypeId} {A : Option Addr} {ws : List Win} (h : w.ownsRow base e 3 (.slice A n c) n (ws.flatMap Win.cells)) (hn : n = ws.length) : Wins w base A ws := by
  subst hn
  exact sl_of_own (enc := Win.cells) (fun _ => rfl) h
theorem flat_set3 {ws : List Win} {K : Nat} {x y : Win} (hx : ws[K]? = some x) :
    (((ws.flatMap Win.cells).set (K * 3) (.int .i64 y.peril)).set (K * 3 + 1) (.int .i64 y.fr)).set (K * 3 + 2) (.int .i64 y.to) = (ws.set K y).flatMap Win.cells := by
  have hK : K < ws.length := (List.getElem?_eq_some_iff.1 hx).1
  have e1 := flat_set1 Win.cells 3 (fun _ => rfl) 0 (by omega) (.int .i64 y.peril) { x with peril := y.peril } K ws x hx rfl
  have e2 := flat_set1 Win.cells 3 (fun _ => rfl) 1 (by omega) (.int .i64 y.fr) { x with peril := y.peril, fr := y.fr } K (ws.set K { x with peril := y.peril }) { x with peril := y.peril } (by simp [hK]) rfl
  have e3 := flat_set1 Win.cells 3 (fun _ => rfl) 2 (by omega) (.int .i64 y.to) y K ((ws.set K { x with peril := y.peril }).set K { x with peril := y.peril, fr := y.fr }) { x with peril := y.peril, fr := y.fr } (by simp [hK]) rfl
  rw [Nat.add_zero] at e1
  rw [e1, e2, e3, List.set_set, List.set_set]

def WnR (w : World) (nv : Nat) (V : Option Addr) (W : World) : Prop :=
  ∃ (vs : List Win), Wins W 0 V vs ∧ vs.length = nv ∧ Below w.heap.size w W

set_option maxRecDepth 100000 in
set_option maxHeartbeats 2000000 in
theorem lawWindows (A : Option Addr) (c : Nat) (ws : List Win) (length : Int) (D : Option Addr) (dc : Nat) (deck : List Int) (at_ n : Int) (w : World)
    (hA : Wins w 0 A ws) (hD : Ints w 0 D deck) (hal : ws.length ≤ 9223372036854775807) (hdl : deck.length ≤ 9223372036854775807) (hac : ws.length ≤ c) (han : A = none → c = 0) :
    Calls Try.prog 9 #[.slice A ws.length c, .int .i64 length, .slice D deck.length dc, .int .i64 at_, .int .i64 n] w fun e w' => e = .returned (.bool true) ∧ Below w.heap.size w w' := by
  have C1 := Lib.hid (new_any D dc deck w hdl hD)
  have C2 : Hid (∀ W, Wins W 0 A ws → _) := fun W h => validate_any A c ws length W hal hac h
  have C3 : Hid (∀ W, Wins W 0 A ws → _) := fun W h => rwindows_any A c ws length W hal hac h
  obtain ⟨na, hna⟩ : ∃ k, k = ws.length := ⟨_, rfl⟩
  obtain ⟨nd, hnd⟩ : ∃ k, k = deck.length := ⟨_, rfl⟩
  rw [← hna] at C2 C3
  rw [← hnd] at C1
  rw [← hna, ← hnd]
  rw [← hna] at hal
  clear hna hnd hac han hdl
  by_cases hbig : 80 < na
  · have q : decide (80 < (na : Int)) = true := by simp; omega
    go_enter Try.func9, Try.ntmps9
    go_wp2_with (go_at_call 33; refine (awake25_any _).mono ?_; rintro e w10 ⟨rfl, hb10⟩)
    go_ret
    exact ⟨rfl, hb10⟩
  have q : decide (80 < (na : Int)) = false := by simp; omega
  clear hbig
  go_enter Try.func9, Try.ntmps9
  go_wp2_with fail
  refine C1.out.mono ?_
  rintro e w1 ⟨rfl, hdk, hb1, hs1⟩
  clear hs1 C1
  go_wp2_with fail
  refine (next_any _ 60 _ (by omega) (by omega) hdk).mono ?_
  rintro e w2 ⟨r, rfl, hr0, hr1, hd2, hg2⟩
  have hb2 : Below w.heap.size w w2 := below_of_only hb1 hg2 (Nat.le_refl _)
  clear hg2 hb1 hdk
  go_wp2_with fail
  refine (mwindows_any _ (1 + r) _ (by omega) (by omega) hd2).mono ?_
  rintro e w3 ⟨v, vs, rfl, hv5, hvE, hown, hd3, hg3⟩
  have hb3 : Below w.heap.size w w3 := below_of_only hb2 hg3 (Nat.le_refl _)
  have hown' := own_base hown hb2.size
  obtain ⟨V, vc, rfl, hvc⟩ := own_shape hown
  obtain ⟨nv, hnv⟩ : ∃ k, k = vs.length := ⟨_, rfl⟩
  rw [← hnv] at hv5 hown' hvc ⊢
  have HNV := Lib.hid hnv
  clear hnv hown hd3 hg3 hd2 hb2 hvE
  have hfin : Hid (Wins w3 0 V vs) := (wins_of_ownW hown' HNV.out).low (Nat.zero_le _)
  have hs1 : bits .and .i64 at_ 1 = at_ % 2 := bits_mask 1 1 (by omega) (by decide) at_
  have hs2 : bits .and .i64 (at_ / 8) 7 = at_ / 8 % 8 := bits_mask 3 7 (by omega) (by decide) _
  have hs3 : bits .and .i64 (at_ / 2) 3 = at_ / 2 % 4 := bits_mask 2 3 (by omega) (by decide) _
  obtain ⟨P, hP⟩ : ∃ P, P = at_ % 2 := ⟨_, rfl⟩
  obtain ⟨K, hK⟩ := Int.eq_ofNat_of_zero_le (show 0 ≤ at_ / 8 % 8 from Int.emod_nonneg _ (by omega))
  obtain ⟨S, hS⟩ : ∃ S, S = at_ / 2 % 4 := ⟨_, rfl⟩
  have HS4 : Hid (S = 0 ∨ S = 1 ∨ S = 2 ∨ S = 3) := by show S = 0 ∨ S = 1 ∨ S = 2 ∨ S = 3; omega
  have HP2 : Hid (P = 0 ∨ P = 1) := by show P = 0 ∨ P = 1; omega
  have hK8 : K < 8 := by omega
  rw [← hP] at hs1
  rw [← hS] at hs3
  rw [hK] at hs2
  clear hP hS hK
  go_upto_region 6 with fail
  go_cut [34] (fun s34 wc => ∃ b : Bool, s34 = .bool b ∧ (b = true → 0 < nv) ∧ w3 = wc)
  case first =>
    by_cases h0 : 0 < nv
    · have q0 : decide (0 < (nv : Int)) = true := by simp; omega
      go_wp2_with fail
      go_meet
      exact ⟨_, rfl, fun _ => h0, rfl⟩
    · have q0 : decide (0 < (nv : Int)) = false := by simp; omega
      go_wp2_with fail
      go_meet
      exact ⟨_, rfl, fun h => absurd h (by simp), rfl⟩
  case rest =>
  obtain ⟨b, rfl, hbt, rfl⟩ := hcut
  have HBT := Lib.hid hbt
  clear hbt
  go_upto_if 34 with fail
  go_cut [14] (fun _ wc => WnR w nv V wc)
  case first =>
    cases b with
    | false =>
      go_wp2_with fail
      go_meet
      exact ⟨vs, hfin.out, HNV.out.symm, hb3⟩
    | true =>
      have h0 := HBT.out rfl
      rcases hown'.2 with ⟨_, h00⟩ | ⟨g, cap, cur, hv, hgb, _⟩
      · omega
      obtain ⟨rfl, rfl⟩ : V = some ⟨g, 0, none⟩ ∧ vc = cap := by injection hv with a1 a2 a3; exact ⟨a1, a3⟩
      obtain ⟨J, hJ, hJn⟩ : ∃ J : Nat, (K : Int) % (nv : Int) = (J : Int) ∧ J < nv := ⟨K % nv, by rw [Int.natCast_emod], Nat.mod_lt _ (by omega)⟩
      obtain ⟨x, hx, _⟩ := drop_cons (xs := vs) (i := J) (by rw [← HNV.out]; exact hJn)
      obtain ⟨y, hy, _⟩ := drop_cons (xs := vs) (i := 0) (by rw [← HNV.out]; exact h0)
      have f0 := hown'.frozenAt (J * 3)
      have f1 := hown'.frozenAt (J * 3 + 1)
      have f2 := hown'.frozenAt (J * 3 + 2)
      have cX := flat_get Win.cells 3 (fun _ => rfl) vs J x hx
      have cY := flat_get Win.cells 3 (fun _ => rfl) vs 0 y hy
      have c0 : w3.cell? ⟨g, J * 3, none⟩ = some (.int .i64 x.peril) := by rw [hown'.cellAt (J * 3) (by omega)]; exact cX 0 (by omega)
      have c1 : w3.cell? ⟨g, J * 3 + 1, none⟩ = some (.int .i64 x.fr) := by rw [hown'.cellAt (J * 3 + 1) (by omega)]; exact cX 1 (by omega)
      have c2 : w3.cell? ⟨g, J * 3 + 2, none⟩ = some (.int .i64 x.to) := by rw [hown'.cellAt (J * 3 + 2) (by omega)]; exact cX 2 (by omega)
      have d0 : w3.cell? ⟨g, 0, none⟩ = some (.int .i64 y.peril) := by rw [hown'.cellAt 0 (by omega)]; exact cY 0 (by omega)
      have d1 : w3.cell? ⟨g, 1, none⟩ = some (.int .i64 y.fr) := by rw [hown'.cellAt 1 (by omega)]; exact cY 1 (by omega)
      have d2 : w3.cell? ⟨g, 2, none⟩ = some (.int .i64 y.to) := by rw [hown'.cellAt 2 (by omega)]; exact cY 2 (by omega)
      have HX := Lib.hid hx
      clear hx hy cX cY hv
      have hz : ((nv : Int) == 0) = false := by simp; omega
      rcases HS4.out with rfl | rfl | rfl | rfl
      · go_wp2_with fail
        go_meet
        have hs := (hown'.stored (J * 3 + 1) (.int .i64 n)).1
        have e := flat_set1 Win.cells 3 (fun _ => rfl) 1 (by omega) (.int .i64 n) ⟨x.peril, n, x.to⟩ J vs x HX.out rfl
        rw [e] at hs
        exact ⟨_, (wins_of_ownW hs (by rw [List.length_set]; exact HNV.out)).low (Nat.zero_le _), by rw [List.length_set]; exact HNV.out.symm, hb3.setCell hgb _⟩
      · go_wp2_with fail
        go_meet
        have hs := (hown'.stored (J * 3 + 2) (.int .i64 n)).1
        have e := flat_set1 Win.cells 3 (fun _ => rfl) 2 (by omega) (.int .i64 n) ⟨x.peril, x.fr, n⟩ J vs x HX.out rfl
        rw [e] at hs
        exact ⟨_, (wins_of_ownW hs (by rw [List.length_set]; exact HNV.out)).low (Nat.zero_le _), by rw [List.length_set]; exact HNV.out.symm, hb3.setCell hgb _⟩
      · go_wp2_with fail
        go_meet
        have hs := (hown'.stored (J * 3) (.int .i64 n)).1
        have e := flat_set1 Win.cells 3 (fun _ => rfl) 0 (by omega) (.int .i64 n) ⟨n, x.fr, x.to⟩ J vs x HX.out rfl
        rw [Nat.add_zero] at e; rw [e] at hs
        exact ⟨_, (wins_of_ownW hs (by rw [List.length_set]; exact HNV.out)).low (Nat.zero_le _), by rw [List.length_set]; exact HNV.out.symm, hb3.setCell hgb _⟩
      · go_wp2_with fail
        go_meet
        have hs := ((hown'.stored (J * 3) (.int .i64 y.peril)).1.stored (J * 3 + 1) (.int .i64 y.fr)).1.stored (J * 3 + 2) (.int .i64 y.to)
        have hs' := hs.1
        rw [flat_set3 (y := y) HX.out] at hs'
        exact ⟨_, (wins_of_ownW hs' (by rw [List.length_set]; exact HNV.out)).low (Nat.zero_le _), by rw [List.length_set]; exact HNV.out.symm, ((hb3.setCell hgb _).setCell hgb _).setCell hgb _⟩
  case rest =>
    obtain ⟨vs', hV, hvl, hbc⟩ := hcut
    have D2 : Hid (∀ W, Wins W 0 V vs' → _) := fun W h => validate_any V vc vs' (1 + r) W (by omega) (by omega) h
    have D3 : Hid (∀ W, Wins W 0 V vs' → _) := fun W h => rwindows_any V vc vs' (1 + r) W (by omega) (by omega) h
    rw [hvl] at D2 D3
    clear hvl hfin HNV hown'
    go_wp2_with fail
    refine (C2.out _ (hA.below hbc)).mono ?_
    rintro e w4 ⟨rfl, hb4⟩
    have hb04 := hbc.trans (hb4.mono hbc.size)
    go_wp2_with fail
    refine (C3.out _ (hA.below hb04)).mono ?_
    rintro e w5 ⟨rfl, hb5⟩
    have hb05 := hb04.trans (hb5.mono hb04.size)
    have hbc5 := hb4.trans (hb5.mono hb4.size)
    clear hb4 hb5 hb04
    go_wp2_with fail
    refine (D2.out _ (hV.below hbc5)).mono ?_
    rintro e w6 ⟨rfl, hb6⟩
    have hb06 := hb05.trans (hb6.mono hb05.size)
    have hbc6 := hbc5.trans (hb6.mono hbc5.size)
    clear hbc5 hb6 hb05
    go_wp2_with fail
    refine (D3.out _ (hV.below hbc6)).mono ?_
    rintro e w7 ⟨rfl, hb7⟩
    have hb07 := hb06.trans (hb7.mono hb06.size)
    clear hbc6 hb7 hb06
    go_wp2_with (go_at_call 33; refine (awake25_any _).mono ?_; rintro e w10 ⟨rfl, hb10⟩)
    go_ret
    exact ⟨rfl, hb07.trans (hb10.mono hb07.size)⟩

end Go.Proofs.Ytjbaildaifdgiaa
