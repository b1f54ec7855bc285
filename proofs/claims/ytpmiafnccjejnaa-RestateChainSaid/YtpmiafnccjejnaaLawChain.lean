/-
  treatylaw32.RestateChain: the law's walk.
-/
import Derived.Test.YtpmiafnccjejnaaSVal
namespace Go.Proofs.Ytpmiafnccjejnaa
open Go.RowKit
set_option linter.unusedVariables false

set_option maxRecDepth 100000 in
set_option maxHeartbeats 4000000 in
theorem lawChain (A : Option Addr) (c : Nat) (da : List Int) (B : Option Addr) (d : Nat) (db : List Int) (C : Option Addr) (k : Nat) (dc : List Int) (w : World) (hA : Ints w 0 A da) (hB : Ints w 0 B db) (hC : Ints w 0 C dc) (hla : da.length ≤ 9223372036854775807) (hlb : db.length ≤ 9223372036854775807) (hlc : dc.length ≤ 9223372036854775807) :
    Calls Try.prog 5 #[.slice A da.length c, .slice B db.length d, .slice C dc.length k] w fun e w' => e = .returned (.bool true) ∧ Below w.heap.size w w' := by
  have C1 := Lib.hid (new_any A c da w hla hA)
  have C2 := Lib.hid (fun (w1 : World) (h : Below w.heap.size w w1) => new_any B d db w1 hlb (hB.below h))
  have C3 := Lib.hid (fun (w1 : World) (h : Below w.heap.size w w1) => new_any C k dc w1 hlc (hC.below h))
  obtain ⟨n, hn⟩ : ∃ n, n = da.length := ⟨_, rfl⟩
  obtain ⟨m, hm⟩ : ∃ m, m = db.length := ⟨_, rfl⟩
  obtain ⟨l, hl⟩ : ∃ m, m = dc.length := ⟨_, rfl⟩
  rw [← hn] at C1 hla ⊢
  rw [← hm] at C2 hlb ⊢
  rw [← hl] at C3 hlc ⊢
  clear hn hm hl hA hB hC hla hlb hlc
  go_enter Try.func5, Try.ntmps5
  go_wp2_with fail
  refine C1.out.mono ?_
  rintro e w1 ⟨rfl, hd1, hb1, _⟩
  clear C1
  go_wp2_with fail
  refine (looseV _ 15 w1 w (by omega) (by omega) hd1 hb1 (Nat.le_refl _)).mono ?_
  rintro e w2 ⟨X, a, rfl, ha, hX, hb2⟩
  clear hd1 hb1
  go_wp2_with fail
  refine (C2.out w2 hb2).mono ?_
  rintro e w3 ⟨rfl, hd3, hb3, _⟩
  go_wp2_with fail
  refine (looseV _ 15 w3 w2 (by omega) (by omega) hd3 hb3 (Nat.le_refl _)).mono ?_
  rintro e w4 ⟨Y, b, rfl, hb, hY, hb4⟩
  have hX4 := hX.below hb4
  have hb04 := hb2.trans (hb4.mono hb2.size)
  clear hd3 hb3 hX hb2 hb4 C2
  go_wp2_with fail
  refine (C3.out w4 hb04).mono ?_
  rintro e w5 ⟨rfl, hd5, hb5, _⟩
  go_wp2_with fail
  refine (looseV _ 15 w5 w4 (by omega) (by omega) hd5 hb5 (Nat.le_refl _)).mono ?_
  rintro e w6 ⟨Z, cc, rfl, hc, hZ, hb6⟩
  have hX6 := hX4.below hb6
  have hY6 := hY.below hb6
  have hb06 := hb04.trans (hb6.mono hb04.size)
  clear hd5 hb5 hX4 hY hb04 hb6 C3
  have sa := ha.more (K := 40000) (m := 40) (by omega) (by omega)
  have sb := hb.more (K := 40000) (m := 40) (by omega) (by omega)
  have sc := hc.more (K := 40000) (m := 40) (by omega) (by omega)
  have sx := ha.diff hb
  have sy := hb.diff hc
  have hchain := chain a b cc
  have HLZ : Hid ((diffF a cc).length ≤ 9223372036854775807) := by have := (ha.diff hc).len; show _ ≤ _; omega
  have HCH := Lib.hid hchain
  clear hchain
  go_wp2_with fail
  refine (diffV sa sb hX6 hY6).mono ?_
  rintro e w7 ⟨x, rfl, hx, hb7⟩
  have hX7 := hX6.below hb7
  have hY7 := hY6.below hb7
  have hZ7 := hZ.below hb7
  have hb07 := hb06.trans (hb7.mono hb06.size)
  clear hX6 hY6 hZ hb7 hb06
  go_wp2_with fail
  refine (diffV sb sc hY7 hZ7).mono ?_
  rintro e w8 ⟨y, rfl, hy, hb8⟩
  have hX8 := hX7.below hb8
  have hZ8 := hZ7.below hb8
  have hx8 := hx.below hb8
  have hb08 := hb07.trans (hb8.mono hb07.size)
  clear hX7 hY7 hZ7 hx hb8 hb07
  go_wp2_with fail
  refine (diffV sa sc hX8 hZ8).mono ?_
  rintro e w9 ⟨z, rfl, hz, hb9⟩
  have hx9 := hx8.below hb9
  have hy9 := hy.below hb9
  have hb09 := hb08.trans (hb9.mono hb08.size)
  clear hX8 hZ8 hx8 hy hb9 hb08
  go_wp2_with fail
  refine (applyV sx sy hx9 hy9).mono ?_
  rintro e wa ⟨p, rfl, hp, hba⟩
  rw [HCH.out.1] at hp
  have hxa := hx9.below hba
  have hya := hy9.below hba
  have hza := hz.below hba
  have hb0a := hb09.trans (hba.mono hb09.size)
  clear hx9 hy9 hz hba hb09
  go_wp2_with fail
  refine (applyV sy sx hya hxa).mono ?_
  rintro e wb ⟨q, rfl, hq, hbb⟩
  rw [HCH.out.2] at hq
  have hzb := hza.below hbb
  have hpb := hp.below hbb
  have hb0b := hb0a.trans (hbb.mono hb0a.size)
  clear hxa hya hza hp hbb hb0a
  go_wp2_with fail
  refine (sameV hpb hzb HLZ.out).mono ?_
  rintro e wc ⟨rfl, hbc⟩
  have hzc := hzb.below hbc
  have hqc := hq.below hbc
  have hb0c := hb0b.trans (hbc.mono hb0b.size)
  clear hpb hzb hq hbc hb0b
  go_wp2_with fail
  refine (sameV hqc hzc HLZ.out).mono ?_
  rintro e wd ⟨rfl, hbd⟩
  have hb0d := hb0c.trans (hbd.mono hb0c.size)
  clear hqc hzc hbd hb0c
  go_wp2_with fail
  refine (awake32_any wd).mono ?_
  rintro e we ⟨rfl, hbe⟩
  go_wp2_with fail
  go_ret
  exact ⟨rfl, hb0d.trans (hbe.mono hb0d.size)⟩

end Go.Proofs.Ytpmiafnccjejnaa
