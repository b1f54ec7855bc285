/-
  event.Assign, treatyref25.Assign: their contracts.
-/
import Derived.Test.YtjbaildaifdgiaaAsg
import Derived.Deep.LoopGhost
import Derived.RegionTactic
import Derived.Deep.DeepCutAuto
namespace Go.Proofs.Ytjbaildaifdgiaa
open Go.RowKit
set_option linter.unusedVariables false

theorem findW_at_hit {l : Los} {ws : List Win} {k : Nat} {x : Win} (hd : ws.drop k = x :: ws.drop (k + 1)) (hc : covers x l = true) : findW l (ws.drop k) k = k := by rw [hd, findW, if_pos hc]
theorem findW_at_no {l : Los} {ws : List Win} {k : Nat} {x : Win} (hd : ws.drop k = x :: ws.drop (k + 1)) (hc : covers x l = false) : findW l (ws.drop k) k = findW l (ws.drop (k + 1)) (k + 1) := by rw [hd, findW, if_neg (by simp [hc])]

set_option maxHeartbeats 1000000 in
theorem assign_any (A : Option Addr) (c : Nat) (los : List Los) (B : Option Addr) (d : Nat) (ws : List Win) (w : World) (hll : los.length ≤ 1000) (hwl : ws.length ≤ 9223372036854775807) (hL : Losses w 0 A los) (hW : Wins w 0 B ws) :
    Calls Try.prog 41 #[.slice A los.length c, .slice B ws.length d] w fun e w' => ∃ G g, e = .returned (.slice G (asgF los ws).length g) ∧ Ints w' w.heap.size G (asgF los ws) ∧ Below w.heap.size w w' := by
  have CI : Hid (∀ (l : Los) (bx : Nat) (W : World), Wins W 0 B ws → W.cell? ⟨bx, 3, none⟩ = some (.int .i64 l.hour) → W.cell? ⟨bx, 4, none⟩ = some (.int .i64 l.peril) → _) := fun l bx W h h3 h4 => indexFunc_any B d ws l bx W hwl h h3 h4
  obtain ⟨n, hn⟩ : ∃ n, n = los.length := ⟨_, rfl⟩
  obtain ⟨m, hm⟩ : ∃ m, m = ws.length := ⟨_, rfl⟩
  rw [← hm] at CI
  rw [← hn] at hll
  rw [← hn, ← hm]
  have HN := Lib.hid hn
  clear hn hm hwl
  have hmk := run_make_row' (P := Try.prog) 24 3 (.int .i64 0) 8 Try.underlying24 Try.infoInt rfl .i64 .i64 n (by omega) (by omega)
  go_enter Try.func41, Try.ntmps41
  go_wp2_with fail
  have hrow0 := World.rowIs_made w (.int .i64 0) n 3
  have hb0 : Below w.heap.size w (w.alloc (.cells (madeCells #[.int .i64 0] n) 3)) := below_alloc1 _ _
  obtain ⟨g, hg⟩ : ∃ g, g = w.heap.size := ⟨_, rfl⟩
  rw [← hg] at hrow0 ⊢
  have hgw : w.heap.size ≤ g := by omega
  clear hg hmk
  go_loopw [6, 7, 13] (fun _ _ ii wr => ∃ (i : Nat) (F : Nat → Int), i ≤ n ∧ ii = .int .i64 i ∧ wr.rowIs g 3 n (fun j => .int .i64 (F j)) ∧ Below w.heap.size w wr ∧ ∀ j l, j < i → los[j]? = some l → F j = asgAt ws l) (fun _ _ ii _ => n - (intOf ii).toNat)
  case atStart => exact ⟨0, fun _ => 0, Nat.zero_le _, rfl, hrow0, hb0, fun j l hj => absurd hj (by omega)⟩
  case round =>
    obtain ⟨i, F, hi, rfl, hrow, hb, hF⟩ := hrel
    have HF := Lib.hid hF
    clear hF hrow0 hb0
    by_cases hin : i < n
    · obtain ⟨l, hl, _⟩ := drop_cons (xs := los) (i := i) (by rw [← HN.out]; exact hin)
      obtain ⟨b, off, rfl, _, _, c0, c1, c2, c3, c4, c5, c6, c7, c8, c9⟩ := (hL.below hb).at_ hl
      have HLI := Lib.hid hl
      clear hl
      have hb1 := hb.alloc hb.size (.cells #[.int .i64 l.id, .int .i64 l.pol, .int .i64 l.risk, .int .i64 l.hour, .int .i64 l.peril, .int .i64 l.area, .int .i64 l.cur, .int .i64 l.sum, .int .i64 l.amt, .int .i64 l.paid] 65)
      have CC := Lib.hid (CI.out l wr.heap.size _ (hW.below hb1) (by simp) (by simp))
      have hrow1 := hrow.alloc (.cells #[.int .i64 l.id, .int .i64 l.pol, .int .i64 l.risk, .int .i64 l.hour, .int .i64 l.peril, .int .i64 l.area, .int .i64 l.cur, .int .i64 l.sum, .int .i64 l.amt, .int .i64 l.paid] 65)
      go_wp2_with fail
      refine CC.out.mono ?_
      rintro e w2 ⟨rfl, hb2⟩
      have hbw := hb1.trans (hb2.mono hb1.size)
      have hrow2 : w2.rowIs g 3 n (fun j => .int .i64 (F j)) := World.rowIs.of_block hrow1 (hb2.block g hrow1.lt)
      have x0 := hrow2.cell hin
      have xf := hrow2.frozen i
      clear hb1 hb2 CC hrow1 hrow c0 c1 c2 c3 c4 c5 c6 c7 c8 c9
      go_wp2_with fail
      go_roundw
      case rel =>
        refine ⟨i + 1, fun k => if k = i then asgAt ws l else F k, by omega, by go_num, ?_, hbw.setCell hgw _, fun j l' hj hl' => ?_⟩
        · refine (hrow2.set i _).congr fun k _ => ?_
          by_cases hk : k = i <;> simp [hk]
        · dsimp only
          by_cases hji : j = i
          · rw [if_pos hji]; rw [hji, HLI.out] at hl'; injection hl' with hl'; rw [hl']
          · rw [if_neg hji]; exact HF.out j l' (by omega) hl'
      case measure => simp [intOf]; omega
    · go_wp2_with fail
      go_ret
      refine ⟨some ⟨g, 0, none⟩, n, by simp [asgF, ← HN.out], ?_, hb⟩
      refine ints_of_row (F := F) (by simpa [asgF, ← HN.out] using hrow) hgw fun j x hx => ?_
      simp only [asgF, List.getElem?_map, Option.map_eq_some_iff] at hx
      obtain ⟨l, hl, rfl⟩ := hx
      have := (List.getElem?_eq_some_iff.1 hl).1
      rw [← HN.out] at this
      exact HF.out j l (by omega) hl

set_option maxHeartbeats 2000000 in
theorem rassign_any (A : Option Addr) (c : Nat) (los : List Los) (B : Option Addr) (d : Nat) (ws : List Win) (w : World) (hll : los.length ≤ 1000) (hwl : ws.length ≤ 1000) (hL : Losses w 0 A los) (hW : Wins w 0 B ws) :
    Calls Try.prog 64 #[.slice A los.length c, .slice B ws.length d] w fun e w' => ∃ G g, e = .returned (.slice G (asgF los ws).length g) ∧ Ints w' w.heap.size G (asgF los ws) ∧ Below w.heap.size w w' := by
  obtain ⟨n, hn⟩ : ∃ n, n = los.length := ⟨_, rfl⟩
  obtain ⟨m, hm⟩ : ∃ m, m = ws.length := ⟨_, rfl⟩
  rw [← hn] at hll
  rw [← hm] at hwl
  rw [← hn, ← hm]
  have HN := Lib.hid hn
  have HM := Lib.hid hm
  clear hn hm
  have hmk := run_make_row' (P := Try.prog) 24 3 (.int .i64 0) 8 Try.underlying24 Try.infoInt rfl .i64 .i64 n (by omega) (by omega)
  go_enter Try.func64, Try.ntmps64
  go_wp2_with fail
  have hrow0 := World.rowIs_made w (.int .i64 0) n 3
  have hb0 : Below w.heap.size w (w.alloc (.cells (madeCells #[.int .i64 0] n) 3)) := below_alloc1 _ _
  obtain ⟨g, hg⟩ : ∃ g, g = w.heap.size := ⟨_, rfl⟩
  rw [← hg] at hrow0 ⊢
  have hgw : w.heap.size ≤ g := by omega
  clear hg hmk
  go_loopg [6, 7, 8, 14] n (fun q _ _ _ ii wr => ∃ (i : Nat) (F : Nat → Int), i ≤ n ∧ q = n - i ∧ ii = .int .i64 i ∧ wr.rowIs g 3 n (fun j => .int .i64 (F j)) ∧ Below w.heap.size w wr ∧ ∀ j l, j < i → los[j]? = some l → F j = asgAt ws l)
  case atStart => exact ⟨0, fun _ => 0, Nat.zero_le _, rfl, rfl, hrow0, hb0, fun j l hj => absurd hj (by omega)⟩
  case round =>
    obtain ⟨i, F, hi, hq, rfl, hrow, hb, hF⟩ := hrel
    have HF := Lib.hid hF
    have HQ := Lib.hid hq
    clear hF hrow0 hb0 hq
    by_cases hin : i < n
    case neg =>
      go_wp2_with fail
      go_ret
      refine ⟨some ⟨g, 0, none⟩, n, by simp [asgF, ← HN.out], ?_, hb⟩
      refine ints_of_row (F := F) (by simpa [asgF, ← HN.out] using hrow) hgw fun j x hx => ?_
      simp only [asgF, List.getElem?_map, Option.map_eq_some_iff] at hx
      obtain ⟨l, hl, rfl⟩ := hx
      have := (List.getElem?_eq_some_iff.1 hl).1
      rw [← HN.out] at this
      exact HF.out j l (by omega) hl
    obtain ⟨l, hl, _⟩ := drop_cons (xs := los) (i := i) (by rw [← HN.out]; exact hin)
    obtain ⟨b, off, rfl, _, _, c0, c1, c2, c3, c4, c5, c6, c7, c8, c9⟩ := (hL.below hb).at_ hl
    have HLI := Lib.hid hl
    clear hl
    have hrow1 := hrow.alloc (.cells #[.int .i64 l.id, .int .i64 l.pol, .int .i64 l.risk, .int .i64 l.hour, .int .i64 l.peril, .int .i64 l.area, .int .i64 l.cur, .int .i64 l.sum, .int .i64 l.amt, .int .i64 l.paid] 65)
    have hb1 := hb.alloc hb.size (.cells #[.int .i64 l.id, .int .i64 l.pol, .int .i64 l.risk, .int .i64 l.hour, .int .i64 l.peril, .int .i64 l.area, .int .i64 l.cur, .int .i64 l.sum, .int .i64 l.amt, .int .i64 l.paid] 65)
    have x0 := hrow1.cell hin
    have xf := hrow1.frozen i
    have hgl := hrow.lt
    have e3 : (wr.alloc (.cells #[.int .i64 l.id, .int .i64 l.pol, .int .i64 l.risk, .int .i64 l.hour, .int .i64 l.peril, .int .i64 l.area, .int .i64 l.cur, .int .i64 l.sum, .int .i64 l.amt, .int .i64 l.paid] 65)).cell? ⟨wr.heap.size, 3, none⟩ = some (.int .i64 l.hour) := by simp
    have e4 : (wr.alloc (.cells #[.int .i64 l.id, .int .i64 l.pol, .int .i64 l.risk, .int .i64 l.hour, .int .i64 l.peril, .int .i64 l.area, .int .i64 l.cur, .int .i64 l.sum, .int .i64 l.amt, .int .i64 l.paid] 65)).cell? ⟨wr.heap.size, 4, none⟩ = some (.int .i64 l.peril) := by simp
    go_upto_region 5 with fail
    obtain ⟨w1, hw1⟩ : ∃ w1 : World, w1 = wr.alloc (.cells #[.int .i64 l.id, .int .i64 l.pol, .int .i64 l.risk, .int .i64 l.hour, .int .i64 l.peril, .int .i64 l.area, .int .i64 l.cur, .int .i64 l.sum, .int .i64 l.amt, .int .i64 l.paid] 65) := ⟨_, rfl⟩
    obtain ⟨bx, hbx⟩ : ∃ bx, bx = wr.heap.size := ⟨_, rfl⟩
    rw [← hw1] at hrow1 hb1 e3 e4 x0 xf
    rw [← hbx] at e3 e4
    have hgx : g ≠ bx := by omega
    rw [← hw1, ← hbx]
    clear hw1 hbx hrow hb c0 c1 c2 c3 c4 c5 c6 c7 c8 c9
    go_wp2_with fail
    obtain ⟨w2, hw2⟩ : ∃ w2 : World, w2 = w1.setCell ⟨g, i, none⟩ (.int .i64 (-1)) := ⟨_, rfl⟩
    have f3 : w2.cell? ⟨bx, 3, none⟩ = some (.int .i64 l.hour) := by rw [hw2, World.cell?_setCell_other _ _ _ _ (fun e => by injection e with e; omega)]; exact e3
    have f4 : w2.cell? ⟨bx, 4, none⟩ = some (.int .i64 l.peril) := by rw [hw2, World.cell?_setCell_other _ _ _ _ (fun e => by injection e with e; omega)]; exact e4
    have hb2 : Below w.heap.size w w2 := by rw [hw2]; exact hb1.setCell hgw _
    have hrow2 : w2.rowIs g 3 n (fun j => .int .i64 (if j = i then -1 else F j)) := by
      rw [hw2]
      refine (hrow1.set i _).congr fun k _ => ?_
      by_cases hk : k = i <;> simp [hk]
    rw [← hw2]
    clear hw2 e3 e4 x0 xf hrow1 hb1
    go_loopg [8] m (fun q kk wq => ∃ (k : Nat) (E : Nat → Int), k ≤ m ∧ q = k ∧ kk = .int .i64 ((k : Int) - 1) ∧ Below w.heap.size w wq ∧ wq.rowIs g 3 n (fun j => .int .i64 (E j)) ∧ wq.cell? ⟨bx, 3, none⟩ = some (.int .i64 l.hour) ∧ wq.cell? ⟨bx, 4, none⟩ = some (.int .i64 l.peril) ∧ E i = findW l (ws.drop k) k ∧ ∀ j, j ≠ i → E j = F j)
    case atStart =>
      refine ⟨m, _, Nat.le_refl _, rfl, rfl, hb2, hrow2, f3, f4, ?_, fun j hj => by rw [if_neg hj]⟩
      rw [if_pos rfl, HM.out, List.drop_length]; rfl
    case round =>
      obtain ⟨k, E, hk, hq, rfl, hbq, hrq, y3, y4, hEi, hEj⟩ := hrel
      have HQ2 := Lib.hid hq
      have HEI := Lib.hid hEi
      have HEJ := Lib.hid hEj
      clear hq hEi hEj hb2 hrow2 f3 f4
      by_cases hk1 : 1 ≤ k
      case neg =>
        go_wp2_with fail
        go_roundg (n - (i + 1))
        case measure => rw [HQ.out]; omega
        case rel =>
          refine ⟨i + 1, E, by omega, rfl, by go_num, hrq, hbq, fun j l' hj hl' => ?_⟩
          by_cases hji : j = i
          · rw [hji, HLI.out] at hl'; injection hl' with hl'
            rw [hji, HEI.out, ← hl']
            obtain rfl : k = 0 := by omega
            rfl
          · rw [HEJ.out j hji]; exact HF.out j l' (by omega) hl'
      obtain ⟨k1, rfl⟩ : ∃ k1, k = k1 + 1 := ⟨k - 1, by omega⟩
      have ei : ((k1 + 1 : Nat) : Int) - 1 = (k1 : Int) := by omega
      rw [ei]
      clear ei
      have hk1m : k1 < m := by omega
      obtain ⟨x, hx, hd⟩ := drop_cons (xs := ws) (i := k1) (by rw [← HM.out]; exact hk1m)
      obtain ⟨b2, off2, rfl, _, _, z0, z1, z2⟩ := (hW.below hbq).at_ hx
      have HD := Lib.hid hd
      clear hx hd
      have u0 := hrq.cell hin
      have uf := hrq.frozen i
      by_cases hc : covers x l = true
      · obtain ⟨h1, h2, h3⟩ := (covers_iff x l).1 hc
        have q1 : (x.peril == l.peril) = true := by simpa using h1
        have q2 : decide (x.fr ≤ l.hour) = true := by simpa using h2
        have q3 : decide (l.hour < x.to) = true := by simpa using h3
        have HX := Lib.hid (findW_at_hit HD.out hc)
        clear hc h1
        go_wp2_with fail
        go_quiet (fail)
        go_wp2_with fail
        go_roundg k1
        case measure => have := HQ2.out; omega
        case rel =>
          refine ⟨k1, fun j => if j = i then (k1 : Int) else E j, by omega, rfl, rfl, (below_drewN hbq _).setCell hgw _, ?_, ?_, ?_, by dsimp only; rw [if_pos rfl, HX.out], fun j hj => by dsimp only; rw [if_neg hj]; exact HEJ.out j hj⟩
          · refine (World.rowIs.set (w := wr.drewN nq) hrq i _).congr fun j _ => ?_
            by_cases hj : j = i <;> simp [hj]
          · rw [World.cell?_setCell_other _ _ _ _ (fun e => by injection e with e; omega)]; exact y3
          · rw [World.cell?_setCell_other _ _ _ _ (fun e => by injection e with e; omega)]; exact y4
      · have hc' : covers x l = false := Bool.eq_false_iff.2 hc
        have HX := Lib.hid (findW_at_no HD.out hc')
        have hno : ¬ (x.peril = l.peril ∧ x.fr ≤ l.hour ∧ l.hour < x.to) := fun h => hc ((covers_iff x l).2 h)
        clear hc hc'
        by_cases h1 : x.peril = l.peril
        · have q1 : (x.peril == l.peril) = true := by simpa using h1
          have hno' : ¬ (x.fr ≤ l.hour ∧ l.hour < x.to) := fun h => hno ⟨h1, h⟩
          clear hno h1
          by_cases h2 : x.fr ≤ l.hour
          · have q2 : decide (x.fr ≤ l.hour) = true := by simpa using h2
            have q3 : decide (l.hour < x.to) = false := by simp; omega
            go_wp2_with fail
            go_quiet (fail)
            go_wp2_with fail
            go_roundg k1
            case measure => have := HQ2.out; omega
            case rel => exact ⟨k1, E, by omega, rfl, rfl, below_drewN hbq _, hrq, y3, y4, by rw [HX.out]; exact HEI.out, HEJ.out⟩
          · have q2 : decide (x.fr ≤ l.hour) = false := by simpa using h2
            go_wp2_with fail
            go_quiet (fail)
            go_wp2_with fail
            go_roundg k1
            case measure => have := HQ2.out; omega
            case rel => exact ⟨k1, E, by omega, rfl, rfl, below_drewN hbq _, hrq, y3, y4, by rw [HX.out]; exact HEI.out, HEJ.out⟩
        · have q1 : (x.peril == l.peril) = false := by simpa using h1
          clear hno h1
          go_wp2_with fail
          go_quiet (fail)
          go_wp2_with fail
          go_roundg k1
          case measure => have := HQ2.out; omega
          case rel => exact ⟨k1, E, by omega, rfl, rfl, below_drewN hbq _, hrq, y3, y4, by rw [HX.out]; exact HEI.out, HEJ.out⟩

end Go.Proofs.Ytjbaildaifdgiaa
