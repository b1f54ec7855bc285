/-
  treatylaw32.RestateCollect: the law's walk.
-/
import Derived.Test.YtpmiafnccjejnaaSVal2
import Derived.Test.YtpmiafnccjejnaaRAff
namespace Go.Proofs.Ytpmiafnccjejnaa
open Go.RowKit
set_option linter.unusedVariables false

/-- The value is a slice that reads as the ints. -/
def IV (w : World) (v : Value) (a : List Int) : Prop := ∃ A c, v = .slice A a.length c ∧ Ints w 0 A a
theorem IV.below {w w' : World} {v : Value} {a : List Int} (h : IV w v a) (hb : Below w.heap.size w w') : IV w' v a := by
  obtain ⟨A, c, e, hs⟩ := h
  exact ⟨A, c, e, hs.below hb⟩
theorem affL_ {va : Value} {a : List Sh} {w : World} (ha : LkS a) (hA : SV w va a) :
    Calls Try.prog 19 #[va] w fun e w' => ∃ v, e = .returned v ∧ IV w' v (affF a) ∧ Below w.heap.size w w' := by
  obtain ⟨A, c, rfl, hA⟩ := hA
  have la := ha.len
  refine (affected_any A c a w (by omega) hA).mono ?_
  rintro e w' ⟨v, rfl, hown, hb'⟩
  obtain ⟨X, xc, rfl, _⟩ := own_shape hown
  exact ⟨_, rfl, ⟨X, xc, rfl, (ints_of_own hown).low (Nat.zero_le _)⟩, hb'⟩
theorem raffL_ {va : Value} {a : List Sh} {w : World} (ha : LkS a) (hA : SV w va a) :
    Calls Try.prog 20 #[va] w fun e w' => ∃ v, e = .returned v ∧ IV w' v (affF a) ∧ Below w.heap.size w w' := by
  obtain ⟨A, c, rfl, hA⟩ := hA
  have la := ha.len
  refine (raffected_any A c a w (by omega) hA).mono ?_
  rintro e w' ⟨X, xc, rfl, hX, hb'⟩
  exact ⟨_, rfl, ⟨X, xc, rfl, hX⟩, hb'⟩
theorem sameI {va vb : Value} {a : List Int} {w : World} (hA : IV w va a) (hB : IV w vb a) (hl : a.length ≤ 9223372036854775807) :
    Calls Try.prog 18 #[va, vb] w fun e w' => e = .returned (.bool true) ∧ Below w.heap.size w w' := by
  obtain ⟨A, c, rfl, hA⟩ := hA
  obtain ⟨B, d, rfl, hB⟩ := hB
  have h := sameInts_any A B c d a a w hA hB hl hl
  have e : sameB a a = true := by unfold sameB; simp
  rw [e] at h
  exact h
theorem aff_len {a : List Sh} (ha : LkS a) : (affF a).length ≤ 9223372036854775807 := by
  have h1 := ha.len
  have h2 := insAll_len (affL a)
  rw [affF_eq]
  unfold affL at h2 ⊢
  rw [List.length_map] at h2
  omega
theorem col_len {a : List Sh} (ha : LkS a) : (colR a).length ≤ 9223372036854775807 := by
  have h1 := ha.len
  have h2 := colR_len a
  omega

set_option maxRecDepth 100000 in
set_option maxHeartbeats 8000000 in
theorem lawCollect (A : Option Addr) (c : Nat) (a : List Sh) (C : Option Addr) (k : Nat) (dc : List Int) (w : World) (hA : Shs w 0 A a) (hC : Ints w 0 C dc) (hla : a.length ≤ 9223372036854775807) (hlc : dc.length ≤ 9223372036854775807) (oka : ∀ x ∈ a, x.ok) :
    Calls Try.prog 6 #[.slice A a.length c, .slice C dc.length k] w fun e w' => e = .returned (.bool true) ∧ Below w.heap.size w w' := by
  have C1 := Lib.hid (new_any C k dc w hlc hC)
  have SA : Hid (SV w (.slice A a.length c) a) := ⟨A, c, rfl, hA⟩
  have LA : Hid (a.length ≤ 200 → LkS a) := fun h => ⟨by omega, oka⟩
  obtain ⟨n, hn⟩ : ∃ n, n = a.length := ⟨_, rfl⟩
  obtain ⟨p, hp⟩ : ∃ m, m = dc.length := ⟨_, rfl⟩
  rw [← hn] at SA LA hla ⊢
  rw [← hp] at C1 ⊢
  clear hn hp hA hC hlc oka
  by_cases h200 : n ≤ 200
  case neg =>
    have q1 : decide ((n : Int) > 200) = true := by simp; omega
    clear h200
    go_enter Try.func6, Try.ntmps6
    go_wp2_with fail
    refine (awake32_any _).mono ?_
    rintro e w1 ⟨rfl, hb1⟩
    go_wp2_with fail
    go_ret
    exact ⟨rfl, hb1⟩
  have q1 : decide ((n : Int) > 200) = false := by simp; omega
  have la := LA.out h200
  clear h200 LA
  go_enter Try.func6, Try.ntmps6
  go_wp2_with fail
  refine C1.out.mono ?_
  rintro e w1 ⟨rfl, hd1, hb1, _⟩
  clear C1
  go_wp2_with fail
  refine (looseN_any _ 30 w1 w (by omega) (by omega) hd1 hb1 (Nat.le_refl _)).mono ?_
  rintro e w2 ⟨U1, U3, us, rfl, hul, huk, hU, hb2⟩
  have lu : LkS us := ⟨by omega, shOk_ok huk⟩
  have su : SV w2 (.slice U1 us.length U3) us := ⟨U1, U3, rfl, hU⟩
  have sa := SA.out.below hb2
  obtain ⟨U, hU'⟩ : ∃ x, x = Value.slice U1 us.length U3 := ⟨_, rfl⟩
  obtain ⟨V, hV'⟩ : ∃ x, x = Value.slice A n c := ⟨_, rfl⟩
  rw [← hU'] at su ⊢
  clear hU' hul huk hU hd1 hb1 SA
  have hla' := Lib.hid (col_len la)
  have hlu' := Lib.hid (col_len lu)
  have hlf := Lib.hid (aff_len la)
  have hlg := Lib.hid (aff_len lu)
  have D1 := Lib.hid (fun (W : World) (h1 : SV W (.slice A n c) a) => colL la h1)
  have D2 := Lib.hid (fun (W : World) (h1 : SV W (.slice A n c) a) => rcolL la h1)
  have D3 := Lib.hid (fun (W : World) (h1 : SV W U us) => colL lu h1)
  have D4 := Lib.hid (fun (W : World) (h1 : SV W U us) => rcolL lu h1)
  have D5 := Lib.hid (fun (W : World) (h1 : SV W (.slice A n c) a) => affL_ la h1)
  have D6 := Lib.hid (fun (W : World) (h1 : SV W (.slice A n c) a) => raffL_ la h1)
  have D7 := Lib.hid (fun (W : World) (h1 : SV W U us) => affL_ lu h1)
  have D8 := Lib.hid (fun (W : World) (h1 : SV W U us) => raffL_ lu h1)
  obtain ⟨E1, hE1⟩ : ∃ x, x = colErr a := ⟨_, rfl⟩
  obtain ⟨E2, hE2⟩ : ∃ x, x = colErr us := ⟨_, rfl⟩
  rw [← hE1] at D1 D2
  rw [← hE2] at D3 D4
  clear hE1 hE2 hV' V la lu
  have e1 : (E1 == E1) = true := by simp
  have e2 : (E2 == E2) = true := by simp
  go_wp2_with fail
  refine (D1.out w2 sa).mono ?_
  rintro e w3 ⟨va, rfl, hva, hb3⟩
  have hb03 := hb2.trans (hb3.mono hb2.size)
  have sa3 := sa.below hb3
  have su3 := su.below hb3
  clear sa su hb2 hb3 D1
  go_wp2_with fail
  refine (D2.out w3 sa3).mono ?_
  rintro e w4 ⟨vb, rfl, hvb, hb4⟩
  have hb04 := hb03.trans (hb4.mono hb03.size)
  have sa4 := sa3.below hb4
  have su4 := su3.below hb4
  have va4 := hva.below hb4
  clear sa3 su3 hva hb03 hb4 D2
  go_wp2_with fail
  refine (D3.out w4 su4).mono ?_
  rintro e w5 ⟨vc, rfl, hvc, hb5⟩
  have hb05 := hb04.trans (hb5.mono hb04.size)
  have sa5 := sa4.below hb5
  have su5 := su4.below hb5
  have va5 := va4.below hb5
  have vb5 := hvb.below hb5
  clear sa4 su4 va4 hvb hb04 hb5 D3
  go_wp2_with fail
  refine (D4.out w5 su5).mono ?_
  rintro e w6 ⟨vd, rfl, hvd, hb6⟩
  have hb06 := hb05.trans (hb6.mono hb05.size)
  have sa6 := sa5.below hb6
  have su6 := su5.below hb6
  have va6 := va5.below hb6
  have vb6 := vb5.below hb6
  have vc6 := hvc.below hb6
  clear sa5 su5 va5 vb5 hvc hb05 hb6 D4
  go_wp2_with fail
  refine (sameV va6 vb6 hla'.out).mono ?_
  rintro e w7 ⟨rfl, hb7⟩
  have hb07 := hb06.trans (hb7.mono hb06.size)
  have sa7 := sa6.below hb7
  have su7 := su6.below hb7
  have vc7 := vc6.below hb7
  have vd7 := hvd.below hb7
  clear sa6 su6 va6 vb6 vc6 hvd hb06 hb7
  go_wp2_with fail
  refine (sameV vc7 vd7 hlu'.out).mono ?_
  rintro e w8 ⟨rfl, hb8⟩
  have hb08 := hb07.trans (hb8.mono hb07.size)
  have sa8 := sa7.below hb8
  have su8 := su7.below hb8
  clear sa7 su7 vc7 vd7 hb07 hb8
  go_wp2_with fail
  refine (D5.out w8 sa8).mono ?_
  rintro e w9 ⟨va, rfl, hva, hb9⟩
  have hb09 := hb08.trans (hb9.mono hb08.size)
  have sa9 := sa8.below hb9
  have su9 := su8.below hb9
  clear sa8 su8 hb08 hb9
  go_wp2_with fail
  refine (D6.out w9 sa9).mono ?_
  rintro e wa ⟨vb, rfl, hvb, hba⟩
  have hb0a := hb09.trans (hba.mono hb09.size)
  have sua := su9.below hba
  have vaa := hva.below hba
  clear sa9 su9 hva hb09 hba
  go_wp2_with fail
  refine (sameI vaa hvb hlf.out).mono ?_
  rintro e wb ⟨rfl, hbb⟩
  have hb0b := hb0a.trans (hbb.mono hb0a.size)
  have sub := sua.below hbb
  clear sua vaa hvb hb0a hbb
  go_wp2_with fail
  refine (D7.out wb sub).mono ?_
  rintro e wc ⟨vc, rfl, hvc, hbc⟩
  have hb0c := hb0b.trans (hbc.mono hb0b.size)
  have suc := sub.below hbc
  clear sub hb0b hbc
  go_wp2_with fail
  refine (D8.out wc suc).mono ?_
  rintro e wd ⟨vd, rfl, hvd, hbd⟩
  have hb0d := hb0c.trans (hbd.mono hb0c.size)
  have vcd := hvc.below hbd
  clear suc hvc hb0c hbd
  go_wp2_with fail
  refine (sameI vcd hvd hlg.out).mono ?_
  rintro e we ⟨rfl, hbe⟩
  have hb0e := hb0d.trans (hbe.mono hb0d.size)
  clear vcd hvd hb0d hbe
  go_wp2_with fail
  refine (awake32_any _).mono ?_
  rintro e wf ⟨rfl, hbf⟩
  go_wp2_with fail
  go_ret
  exact ⟨rfl, hb0e.trans (hbf.mono hb0e.size)⟩

end Go.Proofs.Ytpmiafnccjejnaa
