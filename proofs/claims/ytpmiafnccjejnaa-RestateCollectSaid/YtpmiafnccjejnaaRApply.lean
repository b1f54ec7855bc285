/-
  slices.Grow and slices.Concat at []api.Share, restate.Apply: their contracts.
-/
import Derived.Test.YtpmiafnccjejnaaRDiff
import Derived.Lib.AppendZerosOnto
namespace Go.Proofs.Ytpmiafnccjejnaa
open Go.RowKit
set_option linter.unusedVariables false

def applyErr (a b : List Sh) : Int := if chkErr a b ≠ 0 then chkErr a b else colErr (a ++ b)
def applyR (a b : List Sh) : List Sh := if chkErr a b ≠ 0 then [] else colR (a ++ b)

set_option maxRecDepth 100000 in
set_option maxHeartbeats 2000000 in
theorem growS_any (n : Nat) (w : World) (hn : n ≤ 100000) :
    Calls Try.prog 35 #[.slice none 0 0, .int .i64 n] w fun e w' => ∃ v, e = .returned v ∧ w'.ownsRow w.heap.size 41 5 v 0 [] ∧ Below w.heap.size w w' := by
  rcases Nat.eq_zero_or_pos n with rfl | h0
  · go_enter Try.func35, Try.ntmps35
    go_wp2_with fail
    go_ret
    exact ⟨_, rfl, own_nil _ _ _ _, Below.refl _ _⟩
  · obtain ⟨i0, hi, hz0, hz1, hz2⟩ := info_parts Try.infoShare
    have h1 : ¬ ((n : Int) < 0) := by omega
    have h4 : (n : Int) > 0 := by omega
    have hold : (Builtin.firstCells i0.size 0 (.slice none 0 0)).run Try.prog w.drew = .ok ([] : List Value).toArray w.drew := run_firstCells_none w.drew i0.size 0 0 0
    have hrz := fun ty => Lib.run_append_grow_zeros (P := Try.prog) w 22 3 ty 41 i0 _ .i64 .i64 Try.underlying22 Try.underlying3 hi hz0 none 0 0 [] hold n h0 (by omega) (by omega) (by omega) (by rw [hz2]; omega) (growslice_fits (by omega) (by rw [hz2]; omega))
    simp only [Nat.zero_add] at hrz
    have hGn : n ≤ grownCap w n 0 41 := grownCap_ge w _ _ _
    have hGm : grownCap w n 0 41 ≤ maxLen := grownCap_le_maxLen w n 0 _ (by unfold maxLen; omega)
    obtain ⟨G, hG⟩ : ∃ G, G = grownCap w n 0 41 := ⟨_, rfl⟩
    rw [← hG] at hrz hGn hGm
    have hG63 : G ≤ 9223372036854775807 := by unfold maxLen at hGm; omega
    obtain ⟨cs, hcs⟩ : ∃ x, x = (([] : List Value).toArray ++ Builtin.zeroCells (Value.agg #[.int .i64 0, .int .i64 0, .int .i64 0, .int .i64 0, .int .i64 0]).cells n ++ Builtin.zeroCells (Value.agg #[.int .i64 0, .int .i64 0, .int .i64 0, .int .i64 0, .int .i64 0]).cells (G - n)) := ⟨_, rfl⟩
    rw [← hcs] at hrz
    have hsz : cs.size = G * 5 := by
      rw [hcs, Array.size_append, Array.size_append, size_zeroCells, size_zeroCells]
      show 0 + n * 5 + (G - n) * 5 = G * 5
      omega
    clear hcs hG hold
    go_enter Try.func35, Try.ntmps35
    go_wp2_with (at_builtin; refine Lib.wpList_append_run _ rfl _ _ _ _ rfl _ _ rfl rfl _ _ (hrz _) ?_)
    go_ret
    refine ⟨_, rfl, ⟨by simp, .inr ⟨w.heap.size, G, cs, rfl, Nat.le_refl _, ?_, Nat.zero_le _, hGm, hsz, by simp⟩⟩, ?_⟩
    · exact heap_alloc_new w.drew _
    · exact (below_drewN (Below.refl w.heap.size w) 1).alloc (Nat.le_refl _) _

set_option maxRecDepth 100000 in
set_option maxHeartbeats 4000000 in
theorem concatS_any (bq : Nat) (k : Nat) (A B : Option Addr) (c d : Nat) (a b : List Sh) (w : World) (ha : a.length ≤ 30000) (hb : b.length ≤ 30000) (hq : bq < w.heap.size) (q0 : w.cell? ⟨bq, 0, none⟩ = some (.slice A a.length c)) (q1 : w.cell? ⟨bq, 1, none⟩ = some (.slice B b.length d)) (hA : Shs w 0 A a) (hB : Shs w 0 B b) :
    Calls Try.prog 26 #[.slice (some ⟨bq, 0, none⟩) 2 k] w fun e w' => ∃ v, e = .returned v ∧ w'.ownsRow w.heap.size 41 5 v (a.length + b.length) ((a ++ b).flatMap Sh.cells) ∧ Below w.heap.size w w' := by
  obtain ⟨i0, hi, hz0, hz1, hz2⟩ := info_parts Try.infoShare
  obtain ⟨n, hn⟩ : ∃ n, n = a.length := ⟨_, rfl⟩
  obtain ⟨m, hm⟩ : ∃ m, m = b.length := ⟨_, rfl⟩
  rw [← hn] at ha q0 ⊢
  rw [← hm] at hb q1 ⊢
  have HN := Lib.hid hn
  have HM := Lib.hid hm
  clear hn hm
  have hq0 : ¬ ((n : Int) < 0) := by omega
  have hq1 : ¬ ((n : Int) + m < 0) := by omega
  go_enter Try.func26, Try.ntmps26
  go_wp2_with fail
  go_loopw [3, 5, 11] (fun sz _ ii wr => w = wr ∧ ((ii = .int .i64 0 ∧ sz = .int .i64 0) ∨ (ii = .int .i64 1 ∧ sz = .int .i64 n) ∨ (ii = .int .i64 2 ∧ sz = .int .i64 ((n : Int) + m)))) (fun _ _ ii _ => 2 - (intOf ii).toNat)
  case atStart => exact ⟨rfl, .inl ⟨rfl, rfl⟩⟩
  case round =>
    obtain ⟨rfl, hcase⟩ := hrel
    rcases hcase with ⟨rfl, rfl⟩ | ⟨rfl, rfl⟩ | ⟨rfl, rfl⟩
    · go_wp2_with fail
      go_roundw
      case rel => simp
      case measure => simp [intOf]
    · go_wp2_with fail
      go_roundw
      case rel => simp
      case measure => simp [intOf]
    · have C1 := Lib.hid (growS_any (n + m) w (by omega))
      rw [show ((n + m : Nat) : Int) = (n : Int) + m by omega] at C1
      go_wp2_with fail
      refine C1.out.mono ?_
      rintro e w1 ⟨v, rfl, hown, hb1⟩
      clear C1
      go_wp2_with fail
      go_loopw [6, 8, 27] (fun v _ ii wx => Below w.heap.size w wx ∧ ((ii = .int .i64 0 ∧ wx.ownsRow w.heap.size 41 5 v 0 []) ∨ (ii = .int .i64 1 ∧ wx.ownsRow w.heap.size 41 5 v n (a.flatMap Sh.cells)) ∨ (ii = .int .i64 2 ∧ wx.ownsRow w.heap.size 41 5 v (n + m) ((a ++ b).flatMap Sh.cells)))) (fun _ _ ii _ => 2 - (intOf ii).toNat)
      case atStart => exact ⟨hb1, .inl ⟨rfl, hown⟩⟩
      case round =>
        clear hown hb1
        obtain ⟨hbx, hcase⟩ := hrel
        rcases hcase with ⟨rfl, hown⟩ | ⟨rfl, hown⟩ | ⟨rfl, hown⟩
        · have r0 := (hbx.cell (p := ⟨bq, 0, none⟩) hq).trans q0
          have hsrc : SrcG Sh.cells wr A a := srcG_of_sl (enc := Sh.cells) (k := 5) (fun _ => rfl) (by omega) (hA.below hbx)
          go_wp2_with (at_builtin; refine wpList_append_src Sh.cells rfl _ _ 22 rfl w.heap.size 41 i0 _ 5 40 Try.underlying22 hi hz0 hz1 hz2 rfl (by decide) (by decide) (fun _ => rfl) sh_one _ 0 [] rfl hown A n c a HN.out rfl hsrc ?c3 ?c4 ?_)
          case c3 => omega
          case c4 => exact hbx.size
          intro v' w5 hown5 hg5
          have hb5 : Below w.heap.size w w5 := hbx.grown hg5 hbx.size (fun g hg => own_low hown g hg)
          clear hsrc
          go_wp2_with fail
          go_roundw
          case rel => exact ⟨hb5, .inr (.inl ⟨rfl, by simpa using hown5⟩)⟩
          case measure => simp [intOf]
        · have r1 := (hbx.cell (p := ⟨bq, 1, none⟩) hq).trans q1
          have hsrc : SrcG Sh.cells wr B b := srcG_of_sl (enc := Sh.cells) (k := 5) (fun _ => rfl) (by omega) (hB.below hbx)
          go_wp2_with (at_builtin; refine wpList_append_src Sh.cells rfl _ _ 22 rfl w.heap.size 41 i0 _ 5 40 Try.underlying22 hi hz0 hz1 hz2 rfl (by decide) (by decide) (fun _ => rfl) sh_one _ n _ rfl hown B m d b HM.out rfl hsrc ?c3 ?c4 ?_)
          case c3 => omega
          case c4 => exact hbx.size
          intro v' w5 hown5 hg5
          have hb5 : Below w.heap.size w w5 := hbx.grown hg5 hbx.size (fun g hg => own_low hown g hg)
          clear hsrc
          go_wp2_with fail
          go_roundw
          case rel => exact ⟨hb5, .inr (.inr ⟨rfl, by rw [List.flatMap_append]; exact hown5⟩)⟩
          case measure => simp [intOf]
        · go_wp2_with fail
          go_ret
          exact ⟨_, rfl, hown, hbx⟩

set_option maxRecDepth 100000 in
set_option maxHeartbeats 4000000 in
theorem apply_any (A B : Option Addr) (c d : Nat) (a b : List Sh) (w : World) (ha : a.length ≤ 30000) (hb : b.length ≤ 30000) (hoa : ∀ s ∈ a, s.ok) (hob : ∀ s ∈ b, s.ok) (hA : Shs w 0 A a) (hB : Shs w 0 B b) :
    Calls Try.prog 13 #[.slice A a.length c, .slice B b.length d] w fun e w' => ∃ (C : Option Addr) (k : Nat), e = .returned (.tuple #[.slice C (applyR a b).length k, .int .i64 (applyErr a b)]) ∧ Shs w' w.heap.size C (applyR a b) ∧ Below w.heap.size w w' := by
  have C1 := Lib.hid (check_any A B c d a b w (by omega) (by omega) hoa hob hA hB)
  have C2 := Lib.hid (fun (w1 : World) (h : Below w.heap.size w w1) (bq k : Nat) (h1 : bq < w1.heap.size) (q0 : w1.cell? ⟨bq, 0, none⟩ = some (.slice A a.length c)) (q1 : w1.cell? ⟨bq, 1, none⟩ = some (.slice B b.length d)) => concatS_any bq k A B c d a b w1 ha hb h1 q0 q1 (hA.below h) (hB.below h))
  have HOK : Hid (∀ s ∈ a ++ b, s.ok) := fun s hs => (List.mem_append.1 hs).elim (hoa s) (hob s)
  clear hoa hob
  obtain ⟨n, hn⟩ : ∃ n, n = a.length := ⟨_, rfl⟩
  obtain ⟨m, hm⟩ : ∃ m, m = b.length := ⟨_, rfl⟩
  rw [← hn] at C1 C2 ha ⊢
  rw [← hm] at C1 C2 hb ⊢
  have HL : Hid (n + m = (a ++ b).length) := by show _ = _; rw [List.length_append, ← hn, ← hm]
  clear hn hm
  obtain ⟨x, hx⟩ : ∃ x, x = chkErr a b := ⟨_, rfl⟩
  have HX := Lib.hid hx
  rw [← hx] at C1
  clear hx
  by_cases hx0 : x = 0
  case neg =>
    have q : (x != 0) = true := by simpa using hx0
    have HR : Hid (applyR a b = [] ∧ applyErr a b = x) := by
      unfold applyR applyErr
      rw [← HX.out, if_pos hx0, if_pos hx0]; exact ⟨rfl, rfl⟩
    clear hx0 HX C2 HOK HL
    go_enter Try.func13, Try.ntmps13
    go_wp2_with fail
    refine C1.out.mono ?_
    rintro e w1 ⟨rfl, hb1⟩
    go_wp2_with fail
    go_ret2
    exact ⟨none, 0, by rw [HR.out.1, HR.out.2]; rfl, by rw [HR.out.1]; exact Sl.none_, hb1⟩
  have q : (x != 0) = false := by simpa using hx0
  have HR : Hid (applyR a b = colR (a ++ b) ∧ applyErr a b = colErr (a ++ b)) := by
    unfold applyR applyErr
    rw [← HX.out, if_neg (by simpa using hx0), if_neg (by simpa using hx0)]; exact ⟨rfl, rfl⟩
  clear hx0 HX
  go_enter Try.func13, Try.ntmps13
  go_wp2_with fail
  refine C1.out.mono ?_
  rintro e w1 ⟨rfl, hb1⟩
  go_wp2_with fail
  have hb2 := hb1.trans (((Below.refl w1.heap.size w1).alloc (Nat.le_refl _) (.cells #[.slice A n c, .slice B m d] 22)).mono hb1.size)
  refine (C2.out _ hb2 w1.heap.size 2 (by simp) (by simp) (by simp)).mono ?_
  rintro e w3 ⟨v, rfl, hown, hb3⟩
  have hb03 := hb2.trans (hb3.mono hb2.size)
  rw [HL.out] at hown
  obtain ⟨V, vc, rfl, hvc⟩ := own_shape hown
  have hlen : (a ++ b).length ≤ 70000 := by have := HL.out; omega
  have C3 := Lib.hid (collect_any V vc (a ++ b) w3 hlen HOK.out ((shs_of_own hown).low (Nat.zero_le _)))
  clear hown hb3 hb2 hb1 C1 C2
  obtain ⟨N, hN⟩ : ∃ N, N = (a ++ b).length := ⟨_, rfl⟩
  rw [← hN] at C3 hlen hvc ⊢
  clear hN
  go_wp2_with fail
  refine C3.out.mono ?_
  rintro e w4 ⟨Y, yc, rfl, hY, hb4⟩
  go_wp2_with fail
  go_ret2
  exact ⟨Y, yc, by rw [HR.out.1, HR.out.2]; rfl, by rw [HR.out.1]; exact hY.low hb03.size, hb03.trans (hb4.mono hb03.size)⟩

end Go.Proofs.Ytpmiafnccjejnaa
