/-
  treatylaw32.RestateBack: the law's walk.
-/
import Derived.Test.YtpmiafnccjejnaaSmallS
namespace Go.Proofs.Ytpmiafnccjejnaa
open Go.RowKit
set_option linter.unusedVariables false

set_option maxRecDepth 100000 in
set_option maxHeartbeats 4000000 in
theorem lawBack (A : Option Addr) (c : Nat) (da : List Int) (B : Option Addr) (d : Nat) (db : List Int) (w : World) (hA : Ints w 0 A da) (hB : Ints w 0 B db) (hla : da.length ≤ 9223372036854775807) (hlb : db.length ≤ 9223372036854775807) :
    Calls Try.prog 4 #[.slice A da.length c, .slice B db.length d] w fun e w' => e = .returned (.bool true) ∧ Below w.heap.size w w' := by
  have C1 := Lib.hid (new_any A c da w hla hA)
  have C2 := Lib.hid (fun (w1 : World) (h : Below w.heap.size w w1) => new_any B d db w1 hlb (hB.below h))
  obtain ⟨n, hn⟩ : ∃ n, n = da.length := ⟨_, rfl⟩
  obtain ⟨m, hm⟩ : ∃ m, m = db.length := ⟨_, rfl⟩
  rw [← hn] at C1 hla ⊢
  rw [← hm] at C2 hlb ⊢
  clear hn hm
  go_enter Try.func4, Try.ntmps4
  go_wp2_with fail
  refine C1.out.mono ?_
  rintro e w1 ⟨rfl, hd1, hb1, _⟩
  clear C1
  go_wp2_with fail
  refine (looseN_any _ 20 w1 w (by omega) (by omega) hd1 hb1 (Nat.le_refl _)).mono ?_
  rintro e w2 ⟨X, xc, a, rfl, hal, haok, hX, hb2⟩
  clear hd1 hb1
  obtain ⟨na, hna⟩ : ∃ n, n = a.length := ⟨_, rfl⟩
  rw [← hna] at hal ⊢
  have HNA := Lib.hid hna
  clear hna
  go_wp2_with fail
  refine (C2.out w2 hb2).mono ?_
  rintro e w3 ⟨rfl, hd3, hb3, _⟩
  go_wp2_with fail
  refine (looseN_any _ 20 w3 w2 (by omega) (by omega) hd3 hb3 (Nat.le_refl _)).mono ?_
  rintro e w4 ⟨Y, yc, b, rfl, hbl, hbok, hY, hb4⟩
  have hb04 := hb2.trans (hb4.mono hb2.size)
  have hX4 := hX.below hb4
  obtain ⟨nb, hnb⟩ : ∃ n, n = b.length := ⟨_, rfl⟩
  rw [← hnb] at hbl ⊢
  have hna := HNA.out
  have oa := shOk_ok haok
  have ob := shOk_ok hbok
  have ba := shOk_bd haok
  have bb := shOk_bd hbok
  obtain ⟨e1, e2, e3, e4, e5⟩ := diff_small (M := 100) (a := a) (b := b) (by omega) (by omega) ba bb (by omega) (by omega) oa ob
  obtain ⟨f1, f2⟩ := apply_small (M := 100 * 400) (a := a) (b := diffF a b) (by omega) (by omega) (bd_more ba (by omega)) e4 (by omega) (by omega) oa e5
  rw [back] at f2
  obtain ⟨g1, g2, _, _⟩ := col_small (M := 100) (l := b) (by omega) (by omega) bb (by omega) ob
  have D1 := Lib.hid (diff_any X Y xc yc a b w4 (by omega) (by omega) oa ob hX4 hY)
  have D2 := Lib.hid (fun (Z : Option Addr) (zc : Nat) (W : World) (h : Below w4.heap.size w4 W) (hZ : Shs W 0 Z (diffF a b)) => apply_any X Z xc zc a (diffF a b) W (by omega) (by omega) oa e5 (hX4.below h) hZ)
  have D3 := Lib.hid (fun (W : World) (h : Below w4.heap.size w4 W) => collect_any Y yc b W (by omega) ob (hY.below h))
  have hlc : (colF b).length ≤ b.length := colF_len b
  rw [e1, e2] at D1
  rw [f1, f2] at D2
  rw [g1, g2] at D3
  rw [← hna] at D1 D2
  rw [← hnb] at D1 D3 hlc
  obtain ⟨q, hq⟩ : ∃ q, q = colF b := ⟨_, rfl⟩
  rw [← hq] at D2 D3 hlc
  obtain ⟨z, hz⟩ : ∃ q, q = diffF a b := ⟨_, rfl⟩
  rw [← hz] at D1 D2
  obtain ⟨nz, hnz⟩ : ∃ n, n = z.length := ⟨_, rfl⟩
  rw [← hnz] at D1 D2
  clear hq hz hnz e1 e2 e3 e4 e5 f1 f2 g1 g2 oa ob ba bb haok hbok hX hX4 hY C2 hd3 hb3 hb2 hb4 hna hnb HNA
  go_wp2_with fail
  refine D1.out.mono ?_
  rintro e w5 ⟨Z, zc, rfl, hZ, hb5⟩
  clear D1
  go_wp2_with fail
  refine (D2.out Z zc w5 hb5 (hZ.low (Nat.zero_le _))).mono ?_
  rintro e w6 ⟨P, pc, rfl, hP, hb6⟩
  have hb46 := hb5.trans (hb6.mono hb5.size)
  clear D2 hZ hb5 hb6
  obtain ⟨nq, hnq⟩ : ∃ n, n = q.length := ⟨_, rfl⟩
  have HQ := Lib.hid hnq
  rw [← hnq] at D3 hlc ⊢
  clear hnq
  go_wp2_with fail
  refine (D3.out w6 hb46).mono ?_
  rintro e w7 ⟨Q, qc, rfl, hQ, hb7⟩
  have hP7 := hP.below hb7
  have hb47 := hb46.trans (hb7.mono hb46.size)
  have D4 := Lib.hid (sameShares_self P Q pc qc q w7 (by rw [← HQ.out]; omega) (hP7.low (Nat.zero_le _)) (hQ.low (Nat.zero_le _)))
  rw [← HQ.out] at D4
  clear D3 hP hP7 hQ hb7 hb46 HQ
  go_wp2_with fail
  refine D4.out.mono ?_
  rintro e w8 ⟨rfl, hb8⟩
  have hb48 := hb47.trans (hb8.mono hb47.size)
  have hb08 := hb04.trans (hb48.mono hb04.size)
  clear D4 hb8 hb47 hb48
  go_wp2_with fail
  refine (awake32_any w8).mono ?_
  rintro e w9 ⟨rfl, hb9⟩
  go_wp2_with fail
  go_ret
  exact ⟨rfl, hb08.trans (hb9.mono hb08.size)⟩

end Go.Proofs.Ytpmiafnccjejnaa
