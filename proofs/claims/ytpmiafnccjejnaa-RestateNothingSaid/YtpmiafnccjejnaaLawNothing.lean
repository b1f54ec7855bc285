/-
  treatylaw32.RestateNothing: the law's walk.
-/
import Derived.Test.YtpmiafnccjejnaaSVal
import Derived.Test.YtpmiafnccjejnaaAffected
namespace Go.Proofs.Ytpmiafnccjejnaa
open Go.RowKit
set_option linter.unusedVariables false

theorem affected_none (v : Value) (w : World) (h : SV w v []) :
    Calls Try.prog 19 #[v] w fun e w' => ∃ X c, e = .returned (.slice X 0 c) ∧ Below w.heap.size w w' := by
  obtain ⟨A, c, rfl, hA⟩ := h
  refine (affected_any A c [] w (by simp) hA).mono ?_
  rintro e w' ⟨v, rfl, hown, hb⟩
  obtain ⟨X, d, rfl, _⟩ := own_shape hown
  have : (affF []).length = 0 := Nat.le_zero.1 (Nat.le_trans (compact_len _) (by simp [affL]))
  rw [this]
  exact ⟨X, d, rfl, hb⟩
theorem rev_next {a : List Sh} {k : Nat} (h : k < a.length) {x : Sh} (hx : a[k]? = some x) : (a.drop (k + 1)).reverse ++ [x] = (a.drop k).reverse := by
  obtain ⟨y, hy, e⟩ := drop_cons h
  rw [hx] at hy
  injection hy with hy
  rw [e, List.reverse_cons, hy]

set_option maxRecDepth 100000 in
set_option maxHeartbeats 4000000 in
theorem lawNothing (A : Option Addr) (c : Nat) (da : List Int) (w : World) (hA : Ints w 0 A da) (hla : da.length ≤ 9223372036854775807) :
    Calls Try.prog 7 #[.slice A da.length c] w fun e w' => e = .returned (.bool true) ∧ Below w.heap.size w w' := by
  have C1 := Lib.hid (new_any A c da w hla hA)
  obtain ⟨n, hn⟩ : ∃ n, n = da.length := ⟨_, rfl⟩
  rw [← hn] at C1 hla ⊢
  clear hn hA hla
  obtain ⟨i0, hi, hz0, hz1, hz2⟩ := info_parts Try.infoShare
  go_enter Try.func7, Try.ntmps7
  go_wp2_with fail
  refine C1.out.mono ?_
  rintro e w1 ⟨rfl, hd1, hb1, _⟩
  clear C1
  go_wp2_with fail
  refine (looseV _ 20 w1 w (by omega) (by omega) hd1 hb1 (Nat.le_refl _)).mono ?_
  rintro e w2 ⟨X, a, rfl, ha, hX, hb2⟩
  clear hd1 hb1
  obtain ⟨Y, yc, rfl, hY⟩ := hX
  have hal := ha.len
  obtain ⟨m, hm⟩ : ∃ m, m = a.length := ⟨_, rfl⟩
  rw [← hm] at hal ⊢
  have HM := Lib.hid hm
  clear hm
  have hms : IntKind.i64.wrap ((m : Int) - 1) = (m : Int) - 1 := IntWalk.i64_in _ (by omega)
  go_wp2_with fail
  go_loopw [4, 5] (fun v ii wr => ∃ (k : Nat), k ≤ m ∧ ii = .int .i64 ((k : Int) - 1) ∧ wr.ownsRow w2.heap.size 41 5 v (m - k) ((a.drop k).reverse.flatMap Sh.cells) ∧ Below w2.heap.size w2 wr) (fun _ ii _ => (intOf ii + 1).toNat)
  case atStart => exact ⟨m, Nat.le_refl _, by simp, by rw [List.drop_of_length_le (by rw [← HM.out]; exact Nat.le_refl _), Nat.sub_self]; exact own_nil _ _ _ _, Below.refl _ _⟩
  case round =>
    obtain ⟨k, hk, rfl, hown, hbr⟩ := hrel
    rcases Nat.eq_zero_or_pos k with rfl | hk0
    · have e0 : (a.drop 0).reverse = a.reverse := by simp
      rw [e0, Nat.sub_zero] at hown
      have hv : SV wr u4 a.reverse := by
        obtain ⟨V, vc, rfl, _⟩ := own_shape hown
        have hl : m = a.reverse.length := by rw [List.length_reverse]; exact HM.out
        rw [hl] at hown ⊢
        exact ⟨V, vc, rfl, (shs_of_own hown).low (Nat.zero_le _)⟩
      have hx : SV wr (.slice Y m yc) a := ⟨Y, yc, by rw [HM.out], hY.below hbr⟩
      have sa := ha.more (K := 40000) (m := 40) (by omega) (by omega)
      have sr : SmS 40000 40 a.reverse := ⟨fun x hx => sa.bd x (List.mem_reverse.1 hx), by rw [List.length_reverse]; exact sa.len, fun x hx => sa.ok x (List.mem_reverse.1 hx)⟩
      have D := diffV sa sr hx hv
      rw [nothing] at D
      have HD := Lib.hid D
      clear D hv hx hown e0
      go_wp2_with fail
      refine HD.out.mono ?_
      rintro e w3 ⟨z, rfl, hz, hb3⟩
      obtain ⟨Z, zc, rfl, hZ⟩ := hz
      have hb03 := hbr.trans (hb3.mono hbr.size)
      have HA := Lib.hid (affected_none (.slice Z 0 zc) w3 ⟨Z, zc, rfl, hZ⟩)
      simp only [List.length_nil]
      clear HD hZ hb3 hbr
      go_wp2_with fail
      refine HA.out.mono ?_
      rintro e w4 ⟨V, vc, rfl, hb4⟩
      have hb04 := hb03.trans (hb4.mono hb03.size)
      clear HA hb4 hb03
      go_wp2_with fail
      refine (awake32_any w4).mono ?_
      rintro e w5 ⟨rfl, hb5⟩
      have hb05 := hb04.trans (hb5.mono hb04.size)
      go_wp2_with fail
      go_ret
      exact ⟨rfl, hb2.trans (hb05.mono hb2.size)⟩
    · obtain ⟨j, rfl⟩ : ∃ j, k = j + 1 := ⟨k - 1, by omega⟩
      have hj : j < m := by omega
      obtain ⟨s, hs, _⟩ := drop_cons (xs := a) (i := j) (by rw [← HM.out]; exact hj)
      obtain ⟨b1, off, rfl, _, hbl, c0, c1, c2, c3, c4⟩ := (hY.below hbr).at_ hs
      have HT : Hid ((a.drop (j + 1)).reverse.flatMap Sh.cells ++ Sh.cells s = (a.drop j).reverse.flatMap Sh.cells) := by
        show _ = _
        rw [← rev_next (by rw [← HM.out]; exact hj) hs, List.flatMap_append]; simp
      clear hs
      have ej : ((j + 1 : Nat) : Int) - 1 = (j : Int) := by omega
      rw [ej]
      clear ej
      have hmj : m - (j + 1) + 1 = m - j := by omega
      obtain ⟨r, hr⟩ : ∃ r, r = m - (j + 1) := ⟨_, rfl⟩
      rw [← hr] at hmj hown
      have HMJ := Lib.hid hmj
      have hr2 : r ≤ 20 := by omega
      clear hr hmj
      go_wp2_with (at_builtin; refine wpList_append_own _ rfl (.tmp 18) (.tmp 23) 22 rfl w2.heap.size 41 i0 _ 5 40 Try.underlying22 hi hz0 hz1 hz2 rfl (by decide) _ r _ rfl (own_below hown ((Below.refl _ _).alloc (Nat.le_refl _) _)) ⟨wr.heap.size, 0, none⟩ 1 1 (Sh.cells s) rfl rfl ?c1 ?c2 ?c3 ?c4 ?c5 ?_)
      case c1 => exact cell_new wr (Sh.cells s) 41
      case c2 => exact sh_one _
      case c3 => unfold maxLen; omega
      case c4 => omega
      case c5 => simp; have := hbr.size; omega
      intro v' w8 hown8 hg8 _
      have hb8 : Below w2.heap.size w2 w8 := (hbr.alloc hbr.size _).grown hg8 (by have := hbr.size; simp; omega) (fun g' hg' => by have := own_low hown g' hg'; omega)
      rw [HT.out, HMJ.out] at hown8
      clear hg8 hown
      go_wp2_with fail
      go_roundw
      case rel => exact ⟨j, by omega, by simp, hown8, hb8⟩
      case measure => simp [intOf]

end Go.Proofs.Ytpmiafnccjejnaa
