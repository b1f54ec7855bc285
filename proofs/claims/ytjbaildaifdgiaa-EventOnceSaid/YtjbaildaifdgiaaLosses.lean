/-
  treatymade2.Losses, treatymade2.Amounts: their contracts.
-/
import Derived.Test.YtjbaildaifdgiaaLosDef
import Derived.Deep.OwnRows
import Derived.Deep.DeepCutAuto
namespace Go.Proofs.Ytjbaildaifdgiaa
open Go.RowKit
set_option linter.unusedVariables false

theorem Try.infoLoss : (Try.prog.info? 65).map (fun i => (i.zero, i.size, i.bytes)) = some (some (.agg #[.int .i64 0, .int .i64 0, .int .i64 0, .int .i64 0, .int .i64 0, .int .i64 0, .int .i64 0, .int .i64 0, .int .i64 0, .int .i64 0]), 10, 80) := by kernel_rfl

set_option maxRecDepth 100000 in
set_option maxHeartbeats 2000000 in
theorem losses_any (bd : Nat) (N : Int) (w : World) (hN0 : 0 ≤ N) (hN : N ≤ 1000) (hd : Deck w bd) :
    Calls Try.prog 44 #[.pointer (some ⟨bd, 0, none⟩), .int .i64 N] w fun e w' => ∃ (v : Value) (xs : List Los) (last : Int), e = .returned v ∧ (xs.length : Int) ≤ N ∧ last ≤ 3 * (xs.length : Int) ∧ MadeLos xs last ∧ w'.ownsRow w.heap.size 65 10 v xs.length (xs.flatMap Los.cells) ∧ Deck w' bd ∧ w.grownBy w' (some bd) := by
  obtain ⟨i0, hi, hz0, hz1, hz2⟩ := info_parts Try.infoLoss
  have hlt := hd.lt
  go_enter Try.func44, Try.ntmps44
  go_wp2_with fail
  refine (next_any bd (N + 1) w (by omega) (by omega) hd).mono ?_
  rintro e w1 ⟨r, rfl, hr0, hr1, hd1, hg1⟩
  go_wp2_with fail
  go_loopw [5, 6, 7, 8] (fun v t k _ wr => ∃ (xs : List Los) (last : Int) (kk : Nat), t = .int .i64 last ∧ k = .int .i64 kk ∧ (xs.length : Int) + kk ≤ N ∧ 0 ≤ last ∧ last ≤ 3 * (xs.length : Int) ∧ MadeLos xs last ∧ wr.ownsRow w.heap.size 65 10 v xs.length (xs.flatMap Los.cells) ∧ Deck wr bd ∧ w.grownBy wr (some bd)) (fun _ _ k _ _ => (intOf k).toNat)
  case atStart =>
    obtain ⟨rn, rfl⟩ := Int.eq_ofNat_of_zero_le hr0
    exact ⟨[], 0, rn, rfl, rfl, by simp; omega, by omega, by simp, MadeLos.nil, own_nil _ _ _ _, hd1, hg1⟩
  case round =>
    obtain ⟨xs, last, kk, rfl, rfl, hkn, hl0, hl1, hmade, hown, hdk, hgr⟩ := hrel
    by_cases hk : 0 < kk
    case neg =>
      obtain rfl : kk = 0 := by omega
      go_wp2_with fail
      go_ret
      exact ⟨_, xs, last, rfl, by omega, hl1, hmade, hown, hdk, hgr⟩
    go_wp2_with fail
    refine (next_any bd 3 wr (by omega) (by omega) hdk).mono ?_
    rintro e w2 ⟨r2, rfl, h20, h21, hd2, hg2⟩
    go_wp2_with fail
    refine (next_any bd 5 w2 (by omega) (by omega) hd2).mono ?_
    rintro e w3 ⟨r3, rfl, h30, h31, hd3, hg3⟩
    go_wp2_with fail
    refine (next_any bd 5 w3 (by omega) (by omega) hd3).mono ?_
    rintro e w4 ⟨r4, rfl, h40, h41, hd4, hg4⟩
    go_wp2_with fail
    refine (next_any bd 90 w4 (by omega) (by omega) hd4).mono ?_
    rintro e w5 ⟨r5, rfl, h50, h51, hd5, hg5⟩
    go_wp2_with fail
    refine (next_any bd 3 w5 (by omega) (by omega) hd5).mono ?_
    rintro e w6 ⟨r6, rfl, h60, h61, hd6, hg6⟩
    go_wp2_with fail
    refine (next_any bd 3 w6 (by omega) (by omega) hd6).mono ?_
    rintro e w7 ⟨r7, rfl, h70, h71, hd7, hg7⟩
    go_wp2_with fail
    refine (next_any bd 2 w7 (by omega) (by omega) hd7).mono ?_
    rintro e w8 ⟨r8, rfl, h80, h81, hd8, hg8⟩
    go_wp2_with fail
    refine (small_any bd w8 hd8).mono ?_
    rintro e w9 ⟨r9, rfl, h90, h91, hd9, hg9⟩
    go_wp2_with fail
    refine (small_any bd w9 hd9).mono ?_
    rintro e w10 ⟨r10, rfl, h100, h101, hd10, hg10⟩
    have hown10 : w10.ownsRow w.heap.size 65 10 u5 xs.length (xs.flatMap Los.cells) := by
      have hg := only_trans (only_trans (only_trans (only_trans (only_trans (only_trans (only_trans (only_trans hg2 hg3) hg4) hg5) hg6) hg7) hg8) hg9) hg10
      exact hown.kept hg (own_far hown hlt)
    have hgr10 : w.grownBy w10 (some bd) := only_trans hgr (only_trans (only_trans (only_trans (only_trans (only_trans (only_trans (only_trans (only_trans hg2 hg3) hg4) hg5) hg6) hg7) hg8) hg9) hg10)
    clear hg2 hg3 hg4 hg5 hg6 hg7 hg8 hg9 hg10 hdk hd2 hd3 hd4 hd5 hd6 hd7 hd8 hd9 hown hgr
    have hlow := own_low hown10
    have hbne : w10.heap.size ≠ bd := by have := hd10.lt; omega
    have hsz10 := hgr10.size
    go_upto_if 42 with fail
    go_cut [8] (fun s8 wx => ∃ paid : Int, s8 = .pointer (some ⟨w10.heap.size, 0, none⟩) ∧ 0 ≤ paid ∧ paid ≤ r10 ∧ wx.heap[w10.heap.size]? = some (.cells #[.int .i64 (last + (1 + r2)), .int .i64 r3, .int .i64 r4, .int .i64 r5, .int .i64 r6, .int .i64 r7, .int .i64 r8, .int .i64 r9, .int .i64 r10, .int .i64 paid] 65 (0, 0)) ∧ Deck wx bd ∧ w.grownBy wx (some bd) ∧ wx.ownsRow w.heap.size 65 10 u5 xs.length (xs.flatMap Los.cells) ∧ w10.heap.size < wx.heap.size)
    case first =>
      by_cases ha : 0 < r10
      · go_wp2_with fail
        refine (next_any bd (r10 + 1) _ (by omega) (by omega) (hd10.below ((Below.refl _ _).alloc (Nat.le_refl _) _))).mono ?_
        rintro e w11 ⟨r11, rfl, h110, h111, hd11, hg11⟩
        have hh11 : w11.heap[w10.heap.size]? = some (.cells #[.int .i64 (last + (1 + r2)), .int .i64 r3, .int .i64 r4, .int .i64 r5, .int .i64 r6, .int .i64 r7, .int .i64 r8, .int .i64 r9, .int .i64 r10, .int .i64 0] 65 (0, 0)) :=
          (hg11.block w10.heap.size (by simp) (fun e => hbne (by injection e))).trans (heap_alloc_new w10 _)
        have c9 : w11.cell? ⟨w10.heap.size, 9, none⟩ = some (.int .i64 0) := by simp [World.cell?, hh11]
        have cf : w11.frozen? ⟨w10.heap.size, 9, none⟩ = false := by simp [World.frozen?, hh11]
        have hlt11 : w10.heap.size < w11.heap.size := by have := hg11.size; simp at this; omega
        go_wp2_with fail
        go_meet
        refine ⟨r11, rfl, h110, by omega, ?_, ?_, ?_, ?_, ?_⟩
        · simp [World.setCell, Array.getElem?_modify, hh11]
        · exact hd11.keep fun k hk => Below.heap_setCell _ _ _ _ (by have := hd10.lt; dsimp only; omega)
        · exact only_setCell (only_trans (only_alloc hgr10 _) hg11) (.inr hsz10) _
        · have h1 := (hown10.alloc (.cells #[.int .i64 (last + (1 + r2)), .int .i64 r3, .int .i64 r4, .int .i64 r5, .int .i64 r6, .int .i64 r7, .int .i64 r8, .int .i64 r9, .int .i64 r10, .int .i64 0] 65)).kept hg11 (own_far hown10 hlt)
          exact h1.kept (row := some w10.heap.size) (only_setCell (only_refl _ _) (.inl rfl) _) (.inr fun e => by have := own_lt hown10 _ e; omega)
        · simpa [World.setCell] using hlt11
      · go_wp2_with fail
        go_meet
        refine ⟨0, rfl, by omega, by omega, heap_alloc_new w10 _, hd10.below ((Below.refl _ _).alloc (Nat.le_refl _) _), only_alloc hgr10 _, hown10.alloc _, by simp⟩
    case rest =>
      obtain ⟨paid, rfl, hp0, hp1, hhx, hdx, hgx, hownx, hltx⟩ := hcut
      have c0 : wc.cell? ⟨w10.heap.size, 0, none⟩ = some (.int .i64 (last + (1 + r2))) := by simp [World.cell?, hhx]
      have c1 : wc.cell? ⟨w10.heap.size, 1, none⟩ = some (.int .i64 r3) := by simp [World.cell?, hhx]
      have c2 : wc.cell? ⟨w10.heap.size, 2, none⟩ = some (.int .i64 r4) := by simp [World.cell?, hhx]
      have c3 : wc.cell? ⟨w10.heap.size, 3, none⟩ = some (.int .i64 r5) := by simp [World.cell?, hhx]
      have c4 : wc.cell? ⟨w10.heap.size, 4, none⟩ = some (.int .i64 r6) := by simp [World.cell?, hhx]
      have c5 : wc.cell? ⟨w10.heap.size, 5, none⟩ = some (.int .i64 r7) := by simp [World.cell?, hhx]
      have c6 : wc.cell? ⟨w10.heap.size, 6, none⟩ = some (.int .i64 r8) := by simp [World.cell?, hhx]
      have c7 : wc.cell? ⟨w10.heap.size, 7, none⟩ = some (.int .i64 r9) := by simp [World.cell?, hhx]
      have c8 : wc.cell? ⟨w10.heap.size, 8, none⟩ = some (.int .i64 r10) := by simp [World.cell?, hhx]
      have c9 : wc.cell? ⟨w10.heap.size, 9, none⟩ = some (.int .i64 paid) := by simp [World.cell?, hhx]
      have hlowx := own_low hownx
      have hszx := hgx.size
      clear hhx hown10 hgr10 hd10
      go_wp2_with (at_builtin; refine wpList_append_own _ rfl (.tmp 49) (.tmp 51) 29 rfl w.heap.size 65 i0 _ 10 80 Try.underlying29 hi hz0 hz1 hz2 rfl (by decide) _ _ _ rfl (hownx.alloc _) ⟨wc.heap.size, 0, none⟩ 1 1 [.int .i64 (last + (1 + r2)), .int .i64 r3, .int .i64 r4, .int .i64 r5, .int .i64 r6, .int .i64 r7, .int .i64 r8, .int .i64 r9, .int .i64 r10, .int .i64 paid] rfl rfl ?c1 ?c2 ?c3 ?c4 ?c5 ?_)
      case c1 => exact cell_new _ _ _
      case c2 => intro u hu; simp at hu; rcases hu with rfl | rfl | rfl | rfl | rfl | rfl | rfl | rfl | rfl | rfl <;> rfl
      case c3 => unfold maxLen; omega
      case c4 => omega
      case c5 => simp; omega
      intro v' w12 hown12 hg12 _
      have hgr12 : w.grownBy w12 (some bd) := only_grown (only_alloc hgx _) hg12 hlowx
      have hd12 : Deck w12 bd := (hdx.below ((Below.refl _ _).alloc (Nat.le_refl _) _)).grown hg12 (fun g hg => by have := hlowx g hg; omega)
      go_wp2_with fail
      go_roundw
      case rel =>
        refine ⟨xs ++ [⟨last + (1 + r2), r3, r4, r5, r6, r7, r8, r9, r10, paid⟩], last + (1 + r2), kk - 1, rfl, val_int (by omega), by simp; omega, by omega, by simp; omega, ?_, ?_, hd12, hgr12⟩
        · exact hmade.snoc (l := ⟨last + (1 + r2), r3, r4, r5, r6, r7, r8, r9, r10, paid⟩) (by unfold LosOk; dsimp only; omega) (by dsimp only; omega)
        · rw [List.flatMap_append, List.length_append]; exact hown12
      case measure => simp [intOf]; omega

end Go.Proofs.Ytjbaildaifdgiaa
