/-
  Lists of shares in memory; treatyref30.SameShares at equal lists, treatymade2.Loose: their contracts.
-/
import Derived.Test.YtpmiafnccjejnaaColDef
import Derived.Test.YtpmiafnccjejnaaDeck
import Derived.Test.YtpmiafnccjejnaaOwn
import Derived.Deep.OwnRows
namespace Go.Proofs.Ytpmiafnccjejnaa
open Go.RowKit
set_option linter.unusedVariables false

def Shs (w : World) (lo : Nat) (A : Option Addr) (xs : List Sh) : Prop := Sl w lo 5 A (xs.map Sh.cells)
section
variable {w w' : World} {lo lo' : Nat} {A : Option Addr} {xs : List Sh}
theorem Shs.below (h : Shs w lo A xs) (hb : Below w.heap.size w w') : Shs w' lo A xs := Sl.below h hb
theorem Shs.grown (h : Shs w lo A xs) {row : Option Nat} (hg : w.grownBy w' row) (hr : ∀ g, row = some g → g < lo) : Shs w' lo A xs := Sl.grown h hg hr
theorem Shs.low (h : Shs w lo A xs) (hl : lo' ≤ lo) : Shs w lo' A xs := Sl.low h hl
theorem Shs.at_ (h : Shs w lo A xs) {i : Nat} {x : Sh} (hx : xs[i]? = some x) : ∃ b off, A = some ⟨b, off, none⟩ ∧ lo ≤ b ∧ b < w.heap.size ∧ w.cell? ⟨b, off + i * 5, none⟩ = some (.int .i64 x.loss) ∧ w.cell? ⟨b, off + i * 5 + 1, none⟩ = some (.int .i64 x.treaty) ∧ w.cell? ⟨b, off + i * 5 + 2, none⟩ = some (.int .i64 x.party) ∧ w.cell? ⟨b, off + i * 5 + 3, none⟩ = some (.int .i64 x.amt) ∧ w.cell? ⟨b, off + i * 5 + 4, none⟩ = some (.int .i64 x.paid) := by
  obtain ⟨b, off, e, h1, h2, hc⟩ := Sl.at_ (i := i) (x := Sh.cells x) h (by simp [hx])
  exact ⟨b, off, e, h1, h2, by simpa using hc 0 _ rfl, hc 1 _ rfl, hc 2 _ rfl, hc 3 _ rfl, hc 4 _ rfl⟩
end
theorem shs_of_own {w : World} {base : Nat} {e : TypeId} {xs : List Sh} {A : Option Addr} {c : Nat} (h : w.ownsRow base e 5 (.slice A xs.length c) xs.length (xs.flatMap Sh.cells)) : Shs w base A xs :=
  sl_of_own (enc := Sh.cells) (fun _ => rfl) h
theorem Try.infoShare : (Try.prog.info? 41).map (fun i => (i.zero, i.size, i.bytes)) = some (some (.agg #[.int .i64 0, .int .i64 0, .int .i64 0, .int .i64 0, .int .i64 0]), 5, 40) := by kernel_rfl

set_option maxHeartbeats 1000000 in
theorem sameShares_self (A B : Option Addr) (c d : Nat) (ws : List Sh) (w : World) (hl : ws.length ≤ 9223372036854775807) (hA : Shs w 0 A ws) (hB : Shs w 0 B ws) :
    Calls Try.prog 15 #[.slice A ws.length c, .slice B ws.length d] w fun e w' => e = .returned (.bool true) ∧ Below w.heap.size w w' := by
  obtain ⟨n, hn⟩ : ∃ n, n = ws.length := ⟨_, rfl⟩
  rw [← hn] at hl ⊢
  have HN := Lib.hid hn
  clear hn
  go_enter Try.func15, Try.ntmps15
  go_wp2_with fail
  go_loopw [5, 13] (fun _ ii wr => ∃ i : Nat, ii = .int .i64 i ∧ i ≤ n ∧ Below w.heap.size w wr) (fun _ ii _ => n - (intOf ii).toNat)
  case atStart => exact ⟨0, rfl, Nat.zero_le _, Below.refl _ _⟩
  case round =>
    obtain ⟨i, rfl, hi, hb⟩ := hrel
    by_cases hin : i < n
    · obtain ⟨x, hx, _⟩ := drop_cons (xs := ws) (i := i) (by rw [← HN.out]; exact hin)
      obtain ⟨b1, o1, rfl, _, _, c0, c1, c2, c3, c4⟩ := (hA.below hb).at_ hx
      obtain ⟨b2, o2, rfl, _, _, e0, e1, e2, e3, e4⟩ := (hB.below hb).at_ hx
      clear hx
      go_wp2_with fail
      go_quiet (fail)
      go_wp2_with fail
      go_roundw
      case rel => exact ⟨i + 1, by go_num, by omega, below_drewN hb _⟩
      case measure => simp [intOf]; omega
    · go_wp2_with fail
      go_ret
      exact ⟨rfl, hb⟩

/-- What the decks make. -/
def ShOk (x : Sh) : Prop := 1 ≤ x.loss ∧ x.loss ≤ 3 ∧ 0 ≤ x.treaty ∧ x.treaty ≤ 2 ∧ 0 ≤ x.party ∧ x.party ≤ 2 ∧ -100 ≤ x.amt ∧ x.amt ≤ 99 ∧ -10 ≤ x.paid ∧ x.paid ≤ 9

set_option maxRecDepth 100000 in
set_option maxHeartbeats 2000000 in
theorem loose_any (bd : Nat) (N : Int) (w : World) (hN0 : 0 ≤ N) (hN : N ≤ 1000) (hd : Deck w bd) :
    Calls Try.prog 9 #[.pointer (some ⟨bd, 0, none⟩), .int .i64 N] w fun e w' => ∃ (v : Value) (xs : List Sh), e = .returned v ∧ (xs.length : Int) ≤ N ∧ (∀ x ∈ xs, ShOk x) ∧ w'.ownsRow w.heap.size 41 5 v xs.length (xs.flatMap Sh.cells) ∧ Deck w' bd ∧ w.grownBy w' (some bd) := by
  obtain ⟨i0, hi, hz0, hz1, hz2⟩ := info_parts Try.infoShare
  have hlt := hd.lt
  go_enter Try.func9, Try.ntmps9
  go_wp2_with fail
  refine (next_any bd (N + 1) w (by omega) (by omega) hd).mono ?_
  rintro e w1 ⟨r, rfl, hr0, hr1, hd1, hg1⟩
  go_wp2_with fail
  go_loopw [5, 6] (fun v k wr => ∃ (xs : List Sh) (kk : Nat), k = .int .i64 kk ∧ (xs.length : Int) + kk ≤ N ∧ (∀ x ∈ xs, ShOk x) ∧ wr.ownsRow w.heap.size 41 5 v xs.length (xs.flatMap Sh.cells) ∧ Deck wr bd ∧ w.grownBy wr (some bd)) (fun _ k _ => (intOf k).toNat)
  case atStart =>
    obtain ⟨rn, rfl⟩ := Int.eq_ofNat_of_zero_le hr0
    exact ⟨[], rn, rfl, by simp; omega, by simp, own_nil _ _ _ _, hd1, hg1⟩
  case round =>
    obtain ⟨xs, kk, rfl, hkn, hall, hown, hdk, hgr⟩ := hrel
    have HALL := Lib.hid hall
    clear hall
    by_cases hk : 0 < kk
    case neg =>
      obtain rfl : kk = 0 := by omega
      go_wp2_with fail
      go_ret
      exact ⟨_, xs, rfl, by omega, HALL.out, hown, hdk, hgr⟩
    go_wp2_with fail
    refine (next_any bd 3 wr (by omega) (by omega) hdk).mono ?_
    rintro e w2 ⟨r2, rfl, h20, h21, hd2, hg2⟩
    go_wp2_with fail
    refine (next_any bd 3 w2 (by omega) (by omega) hd2).mono ?_
    rintro e w3 ⟨r3, rfl, h30, h31, hd3, hg3⟩
    go_wp2_with fail
    refine (next_any bd 3 w3 (by omega) (by omega) hd3).mono ?_
    rintro e w4 ⟨r4, rfl, h40, h41, hd4, hg4⟩
    go_wp2_with fail
    refine (next_any bd 200 w4 (by omega) (by omega) hd4).mono ?_
    rintro e w5 ⟨r5, rfl, h50, h51, hd5, hg5⟩
    go_wp2_with fail
    refine (next_any bd 20 w5 (by omega) (by omega) hd5).mono ?_
    rintro e w6 ⟨r6, rfl, h60, h61, hd6, hg6⟩
    have hg := only_trans (only_trans (only_trans (only_trans hg2 hg3) hg4) hg5) hg6
    have hown6 := hown.kept hg (own_far hown hlt)
    have hgr6 : w.grownBy w6 (some bd) := only_trans hgr hg
    have hlow := own_low hown6
    have hsz := hgr6.size
    clear hg2 hg3 hg4 hg5 hg6 hdk hd2 hd3 hd4 hd5 hown hgr hg
    go_wp2_with (at_builtin; refine wpList_append_own _ rfl (.tmp 15) (.tmp 30) 22 rfl w.heap.size 41 i0 _ 5 40 Try.underlying22 hi hz0 hz1 hz2 rfl (by decide) _ _ _ rfl (hown6.alloc _) ⟨w6.heap.size, 0, none⟩ 1 1 [.int .i64 (1 + r2), .int .i64 r3, .int .i64 r4, .int .i64 (r5 - 100), .int .i64 (r6 - 10)] rfl rfl ?c1 ?c2 ?c3 ?c4 ?c5 ?_)
    case c1 => exact cell_new _ _ _
    case c2 => intro u hu; simp at hu; rcases hu with rfl | rfl | rfl | rfl | rfl <;> rfl
    case c3 => unfold maxLen; omega
    case c4 => omega
    case c5 => simp; omega
    intro v' w7 hown7 hg7 _
    have hgr7 : w.grownBy w7 (some bd) := only_grown (only_alloc hgr6 _) hg7 hlow
    have hd7 : Deck w7 bd := (hd6.below ((Below.refl _ _).alloc (Nat.le_refl _) _)).grown hg7 (fun g hg => by have := hlow g hg; omega)
    go_wp2_with fail
    go_roundw
    case rel =>
      refine ⟨xs ++ [⟨1 + r2, r3, r4, r5 - 100, r6 - 10⟩], kk - 1, val_int (by omega), by simp; omega, ?_, ?_, hd7, hgr7⟩
      · intro x hx
        rcases List.mem_append.1 hx with hx | hx
        · exact HALL.out x hx
        · obtain rfl : x = _ := by simpa using hx
          unfold ShOk; dsimp only; omega
      · rw [List.flatMap_append, List.length_append]; exact hown7
    case measure => simp [intOf]; omega

end Go.Proofs.Ytpmiafnccjejnaa
