/-
  event.Assign (with slices.IndexFunc and its closure), treatyref25.Assign: their contracts.
-/
import Derived.Test.YtjbaildaifdgiaaAsgDef
import Derived.Test.YtjbaildaifdgiaaAmts
import Derived.Test.YtjbaildaifdgiaaVald
namespace Go.Proofs.Ytjbaildaifdgiaa
open Go.RowKit
set_option linter.unusedVariables false

set_option maxHeartbeats 1000000 in
theorem closure_any (x : Win) (l : Los) (bx : Nat) (w : World) (d3 : w.cell? ⟨bx, 3, none⟩ = some (.int .i64 l.hour)) (d4 : w.cell? ⟨bx, 4, none⟩ = some (.int .i64 l.peril)) :
    Calls Try.prog 60 #[.agg #[.int .i64 x.peril, .int .i64 x.fr, .int .i64 x.to], .pointer (some ⟨bx, 0, none⟩)] w fun e w' => e = .returned (.bool (covers x l)) ∧ Below w.heap.size w w' := by
  have hne : bx < w.heap.size := World.block_lt_of_cell? w _ d3
  by_cases h1 : x.peril = l.peril
  · have q1 : (x.peril == l.peril) = true := by simpa using h1
    by_cases h2 : x.fr ≤ l.hour
    · have q2 : decide (x.fr ≤ l.hour) = true := by simpa using h2
      by_cases h3 : l.hour < x.to
      · have HR := Lib.hid ((covers_iff x l).2 ⟨h1, h2, h3⟩)
        clear h1
        go_enter Try.func60, Try.ntmps60
        go_wp2_with fail
        go_ret
        exact ⟨ret_bool HR.out.symm, below_alloc1 _ _⟩
      · have HR : Hid (covers x l = false) := by rw [Bool.eq_false_iff]; intro h; have := (covers_iff x l).1 h; omega
        clear h1
        go_enter Try.func60, Try.ntmps60
        go_wp2_with fail
        go_ret
        exact ⟨ret_bool HR.out.symm, below_alloc1 _ _⟩
    · have HR : Hid (covers x l = false) := by rw [Bool.eq_false_iff]; intro h; have := (covers_iff x l).1 h; omega
      clear h1
      go_enter Try.func60, Try.ntmps60
      go_wp2_with fail
      go_ret
      exact ⟨ret_bool HR.out.symm, below_alloc1 _ _⟩
  · have q1 : (x.peril == l.peril) = false := by simpa using h1
    have HR : Hid (covers x l = false) := by rw [Bool.eq_false_iff]; intro h; have := (covers_iff x l).1 h; omega
    clear h1
    go_enter Try.func60, Try.ntmps60
    go_wp2_with fail
    go_ret
    exact ⟨ret_bool HR.out.symm, below_alloc1 _ _⟩

set_option maxHeartbeats 1000000 in
theorem indexFunc_any (A : Option Addr) (c : Nat) (ws : List Win) (l : Los) (bx : Nat) (w : World) (hl : ws.length ≤ 9223372036854775807) (hW : Wins w 0 A ws) (d3 : w.cell? ⟨bx, 3, none⟩ = some (.int .i64 l.hour)) (d4 : w.cell? ⟨bx, 4, none⟩ = some (.int .i64 l.peril)) :
    Calls Try.prog 59 #[.slice A ws.length c, .func (.func 60) #[] #[.pointer (some ⟨bx, 0, none⟩)]] w fun e w' => e = .returned (.int .i64 (asgAt ws l)) ∧ Below w.heap.size w w' := by
  obtain ⟨m, hm⟩ : ∃ m, m = ws.length := ⟨_, rfl⟩
  rw [← hm] at hl ⊢
  have HM := Lib.hid hm
  have hne : bx < w.heap.size := World.block_lt_of_cell? w _ d3
  clear hm
  go_enter Try.func59, Try.ntmps59
  go_wp2_with fail
  go_loopw [5, 8] (fun _ ii wr => ∃ k : Nat, k ≤ m ∧ ii = .int .i64 k ∧ Below w.heap.size w wr ∧ findW l (ws.drop k) k = asgAt ws l) (fun _ ii _ => m - (intOf ii).toNat)
  case atStart => exact ⟨0, Nat.zero_le _, rfl, Below.refl _ _, rfl⟩
  case round =>
    obtain ⟨k, hk, rfl, hb, hf⟩ := hrel
    have HF := Lib.hid hf
    clear hf
    by_cases hlt : k < m
    · obtain ⟨x, hx, hd⟩ := drop_cons (xs := ws) (i := k) (by rw [← HM.out]; exact hlt)
      obtain ⟨b, off, rfl, _, hbl, c0, c1, c2⟩ := (hW.below hb).at_ hx
      have e3 : wr.cell? ⟨bx, 3, none⟩ = some (.int .i64 l.hour) := (hb.cell (p := ⟨bx, 3, none⟩) hne).trans d3
      have e4 : wr.cell? ⟨bx, 4, none⟩ = some (.int .i64 l.peril) := (hb.cell (p := ⟨bx, 4, none⟩) hne).trans d4
      have CC := Lib.hid (closure_any x l bx wr e3 e4)
      have HD := Lib.hid hd
      clear hx hd e3 e4
      go_wp2_with fail
      refine CC.out.mono ?_
      rintro e w2 ⟨rfl, hb2⟩
      have hbw := hb.trans (hb2.mono hb.size)
      by_cases hc : covers x l = true
      · have HX := Lib.hid (findW_hit HD.out HF.out hc)
        go_wp2_with fail
        go_ret
        exact ⟨ret_int HX.out.symm, hbw⟩
      · have HX := Lib.hid (findW_next HD.out HF.out hc)
        have hc' : covers x l = false := Bool.eq_false_iff.2 hc
        clear hc
        go_wp2_with fail
        go_roundw
        case rel => exact ⟨k + 1, by omega, by go_num, hbw, HX.out⟩
        case measure => simp [intOf]; omega
    · obtain rfl : k = m := by omega
      have h1 := HF.out
      rw [HM.out] at h1
      have HX := Lib.hid (findW_end h1)
      clear h1
      go_wp2_with fail
      go_ret
      exact ⟨ret_int HX.out.symm, hb⟩

end Go.Proofs.Ytjbaildaifdgiaa
