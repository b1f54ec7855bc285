/-
  event.Assign, treatyref25.Assign: their contracts.
-/
import Derived.Test.YtilkcailpkebdaaAsg
import Derived.Deep.LoopGhost
import Derived.RegionTactic
import Derived.Deep.DeepCutAuto
namespace Go.Proofs.Ytilkcailpkebdaa
open Go.RowKit
set_option linter.unusedVariables false

theorem findW_at_hit {l : Los} {ws : List Win} {k : Nat} {x : Win} (hd : ws.drop k = x :: ws.drop (k + 1)) (hc : covers x l = true) : findW l (ws.drop k) k = k := by rw [hd, findW, if_pos hc]
theorem findW_at_no {l : Los} {ws : List Win} {k : Nat} {x : Win} (hd : ws.drop k = x :: ws.drop (k + 1)) (hc : covers x l = false) : findW l (ws.drop k) k = findW l (ws.drop (k + 1)) (k + 1) := by rw [hd, findW, if_neg (by simp [hc])]

set_option maxHeartbeats 1000000 in
theorem assign_any (A : Option Addr) (c : Nat) (los : List Los) (B : Option Addr) (d : Nat) (ws : List Win) (w : World) (hll : los.length ≤ 1000) (hwl : ws.length ≤ 9223372036854775807) (hL : Losses w 0 A los) (hW : Wins w 0 B ws) :
    Calls Try.prog 33 #[.slice A los.length c, .slice B ws.length d] w fun e w' => ∃ G g, e = .returned (.slice G (asgF los ws).length g) ∧ Ints w' w.heap.size G (asgF los ws) ∧ Below w.heap.size w w' := by
  have CI : Hid (∀ (l : Los) (bx : Nat) (W : World), Wins W 0 B ws → W.cell? ⟨bx, 3, none⟩ = some (.int .i64 l.hour) → W.cell? ⟨bx, 4, none⟩ = some (.int .i64 l.peril) → _) := fun l bx W h h3 h4 => indexFunc_any B d ws l bx W hwl h h3 h4
  obtain ⟨n, hn⟩ : ∃ n, n = los.length := ⟨_, rfl⟩
  obtain ⟨m, hm⟩ : ∃ m, m = ws.length := ⟨_, rfl⟩
  rw [← hm] at CI
  rw [← hn] at hll
  rw [← hn, ← hm]
  have HN := Lib.hid hn
  clear hn hm hwl
  have hmk := run_make_row' (P := Try.prog) 23 3 (.int .i64 0) 8 Try.underlying23 Try.infoInt rfl .i64 .i64 n (by omega) (by omega)
  go_enter Try.func33, Try.ntmps33
  go_wp2_with fail
  have hrow0 := World.rowIs_made w (.int .i64 0) n 3
  have hb0 : Below w.heap.size w (w.alloc (.cells (madeCells #[.int .i64 0] n) 3)) := below_alloc1 _ _
  obtain ⟨g, hg⟩ : ∃ g, g = w.heap.size := ⟨_, rfl⟩
  rw [← hg] at hrow0 ⊢
  have hgw : w.heap.size ≤ g := by omega
  clear hg hmk
  go_loopw [6, 7, 13] (fun _ _ ii wr => ∃ (i : Nat) (F : Nat → Int), i ≤ n ∧ ii = .int .i64 i ∧ wr.rowIs g 3 n (fun j => .int .i64 (F j)) ∧ Below w.heap.size w wr ∧ ∀ j l, j < i → los[j]? = some l → F j = asgAt ws l) (fun _ _ ii _ => n - (intOf ii).toNat)
  case atStart => exact ⟨0, fun _ => 0, Nat.zero_le _, rfl, hrow0, hb0, fun j l hj => absurd hj (by omega)⟩
  case round =>
    obtain ⟨i, F, hi, rfl, hrow, hb, hF⟩ := hrel
    have HF := Lib.hid hF
    clear hF hrow0 hb0
    by_cases hin : i < n
    · obtain ⟨l, hl, _⟩ := drop_cons (xs := los) (i := i) (by rw [← HN.out]; exact hin)
      obtain ⟨b, off, rfl, _, _, c0, c1, c2, c3, c4, c5, c6, c7, c8, c9⟩ := (hL.below hb).at_ hl
      have HLI := Lib.hid hl
      clear hl
      have hb1 := hb.alloc hb.size (.cells #[.int .i64 l.id, .int .i64 l.pol, .int .i64 l.risk, .int .i64 l.hour, .int .i64 l.peril, .int .i64 l.area, .int .i64 l.cur, .int .i64 l.sum, .int .i64 l.amt, .int .i64 l.paid] 55)
      have CC := Lib.hid (CI.out l wr.heap.size _ (hW.below hb1) (by simp) (by simp))
      have hrow1 := hrow.alloc (.cells #[.int .i64 l.id, .int .i64 l.pol, .int .i64 l.risk, .int .i64 l.hour, .int .i64 l.peril, .int .i64 l.area, .int .i64 l.cur, .int .i64 l.sum, .int .i64 l.amt, .int .i64 l.paid] 55)
      go_wp2_with fail
      refine CC.out.mono ?_
      rintro e w2 ⟨rfl, hb2⟩
      have hbw := hb1.trans (hb2.mono hb1.size)
      have hrow2 : w2.rowIs g 3 n (fun j => .int .i64 (F j)) := World.rowIs.of_block hrow1 (hb2.block g hrow1.lt)
      have x0 := hrow2.cell hin
      have xf := hrow2.frozen i
      clear hb1 hb2 CC hrow1 hrow c0 c1 c2 c3 c4 c5 c6 c7 c8 c9
      go_wp2_with fail
      go_roundw
      case rel =>
        refine ⟨i + 1, fun k => if k = i then asgAt ws l else F k, by omega, by go_num, ?_, hbw.setCell hgw _, fun j l' hj hl' => ?_⟩
        · refine (hrow2.set i _).congr fun k _ => ?_
          by_cases hk : k = i <;> simp [hk]
        · dsimp only
          by_cases hji : j = i
          · rw [if_pos hji]; rw [hji, HLI.out] at hl'; injection hl' with hl'; rw [hl']
          · rw [if_neg hji]; exact HF.out j l' (by omega) hl'
      case measure => simp [intOf]; omega
    · go_wp2_with fail
      go_ret
      refine ⟨some ⟨g, 0, none⟩, n, by simp [asgF, ← HN.out], ?_, hb⟩
      refine ints_of_row (F := F) (by simpa [asgF, ← HN.out] using hrow) hgw fun j x hx => ?_
      simp only [asgF, List.getElem?_map, Option.map_eq_some_iff] at hx
      obtain ⟨l, hl, rfl⟩ := hx
      have := (List.getElem?_eq_some_iff.1 hl).1
      rw [← HN.out] at this
      exact HF.out j l (by omega) hl


end Go.Proofs.Ytilkcailpkebdaa
