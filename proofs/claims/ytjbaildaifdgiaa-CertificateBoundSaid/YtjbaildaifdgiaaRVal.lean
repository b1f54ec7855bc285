/-
  treatyref25.Values: its contract, at the same plain function.
-/
import Derived.Test.YtjbaildaifdgiaaValDef
import Derived.Test.YtjbaildaifdgiaaSpan
import Derived.Test.YtjbaildaifdgiaaVal
import Derived.Deep.OwnRows
import Derived.Deep.LoopGhost
import Derived.RegionTactic
namespace Go.Proofs.Ytjbaildaifdgiaa
open Go.RowKit
set_option linter.unusedVariables false

set_option maxRecDepth 100000 in
set_option maxHeartbeats 2000000 in
theorem rvalues_any (A : Option Addr) (c : Nat) (ps : List P2) (L : Int) (B : Option Addr) (d : Nat) (ls : List P2) (w : World) (hps : ps.length ≤ 1000) (hls : ls.length ≤ 1000) (hp : Pairs w 0 A ps) (hl : Pairs w 0 B ls) :
    Calls Try.prog 15 #[.slice A ps.length c, .int .i64 L, .slice B ls.length d] w fun e w' => ∃ G cc, e = .returned (.tuple #[.slice G (valuesF ps L ls).length cc, .int .i64 (chkErr ps L ls)]) ∧ Ints w' w.heap.size G (valuesF ps L ls) ∧ Below w.heap.size w w' := by
  have CC := Lib.hid (rcheck_any A c ps L B d ls w hps hls hp hl)
  by_cases hce : chkErr ps L ls = 0
  case neg =>
    have HX : Hid (valuesF ps L ls = []) := by unfold valuesF; rw [if_neg hce]; rfl
    have q0 : (chkErr ps L ls != 0) = true := by simpa using hce
    clear hce
    go_enter Try.func15, Try.ntmps15
    go_wp2_with (go_at_call 46; refine CC.out.mono ?_; rintro e w1 ⟨rfl, hb1⟩)
    go_ret2
    refine ⟨none, 0, by rw [HX.out]; rfl, by rw [HX.out]; exact Sl.none_, hb1⟩
  have HCE := Lib.hid hce
  have HX : Hid (valuesF ps L ls = valsF L ls ps) := by unfold valuesF; rw [if_pos hce]; rfl
  have G := Lib.hid (good_of hce)
  have q0 : (chkErr ps L ls != 0) = false := by rw [hce]; rfl
  clear hce
  obtain ⟨n, hn⟩ : ∃ n, n = ps.length := ⟨_, rfl⟩
  obtain ⟨m, hm⟩ : ∃ m, m = ls.length := ⟨_, rfl⟩
  have hlen : ps.length ≤ 1000 := hps
  have CN : Hid (∀ (W : World), Pairs W 0 A ps → ∀ (i j : Nat) (p q : P2), ps[i]? = some p → ps[j]? = some q → i ≤ j → L ≤ q.a - p.a → Calls Try.prog 47 #[.slice A n c, .int .i64 L, .slice B m d, .int .i64 i, .int .i64 j] W fun e w' => e = .returned (.tuple #[.int .i64 0, .bool false]) ∧ Below W.heap.size W w') := by
    intro W h i j p q hi hj hij hL; rw [hn, hm]; exact span_no A c ps L B d ls W h hlen G.out.pt i j p q hi hj hij hL
  have CY : Hid (∀ (W : World), Pairs W 0 A ps → Pairs W 0 B ls → ∀ (i j : Nat) (p q : P2), ps[i]? = some p → ps[j]? = some q → i ≤ j → q.a - p.a < L → Calls Try.prog 47 #[.slice A n c, .int .i64 L, .slice B m d, .int .i64 i, .int .i64 j] W fun e w' => e = .returned (.tuple #[.int .i64 (recVal (sumT ps i (j - i + 1)) ls), .bool true]) ∧ Below W.heap.size W w') := by
    intro W h h' i j p q hi hj hij hL; rw [hn, hm]; exact span_yes A c ps L B d ls W h h' hlen hls G.out.pt G.out.sum i j p q hi hj hij hL
  have hn64 : n ≤ 64 := by rw [hn]; exact G.out.len
  rw [← hn, ← hm] at CC
  rw [← hn, ← hm]
  have HN := Lib.hid hn
  clear hn hm hps hls hlen
  have hmk := run_make_row' (P := Try.prog) 24 3 (.int .i64 0) 8 Try.underlying24 Try.infoInt rfl .i64 .i64 (n + 1) (by omega) (by omega)
  have ec : ((n + 1 : Nat) : Int) = (n : Int) + 1 := by omega
  rw [ec] at hmk
  clear ec
  go_enter Try.func15, Try.ntmps15
  go_wp2_with (go_at_call 46; refine CC.out.mono ?_; rintro e w1 ⟨rfl, hb1⟩)
  have hrow0 := World.rowIs_made w1 (.int .i64 0) (n + 1) 3
  obtain ⟨g, hg⟩ : ∃ g, g = w1.heap.size := ⟨_, rfl⟩
  rw [← hg] at hrow0 ⊢
  have hgw : w.heap.size ≤ g := by rw [hg]; exact hb1.size
  have hb2 : Below w.heap.size w (w1.alloc (.cells (madeCells #[.int .i64 0] (n + 1)) 3)) := hb1.alloc hb1.size _
  clear hg hmk
  go_loopg [10, 11, 12, 13] n (fun k i _ _ _ wr => ∃ F : Nat → Int, k ≤ n ∧ i = .int .i64 ((k : Int) - 1) ∧ Below w.heap.size w wr ∧ wr.rowIs g 3 (n + 1) (fun x => .int .i64 (F x)) ∧ ∀ x, k ≤ x → x ≤ n → F x = valAt L ls ps x)
  case atStart =>
    refine ⟨fun _ => 0, Nat.le_refl _, rfl, hb2, hrow0, fun x h1 h2 => ?_⟩
    obtain rfl : x = n := by omega
    rw [HN.out, valAt_end]
  case round =>
    obtain ⟨F, hk, rfl, hb, hrow, hF⟩ := hrel
    have HF := Lib.hid hF
    clear hF
    by_cases hk1 : 1 ≤ gk
    case neg =>
      go_wp2_with fail
      go_ret2
      refine ⟨some ⟨g, 0, none⟩, n + 1, ?_, ?_, hb⟩
      · rw [HX.out, valsF_length, ← HN.out, HCE.out]; rfl
      · rw [HX.out]
        refine ints_of_row (F := F) (by rw [valsF_length, ← HN.out]; exact hrow) hgw fun i x hi => ?_
        have hil : i ≤ n := by
          have := (List.getElem?_eq_some_iff.1 hi).1
          rw [valsF_length, ← HN.out] at this; omega
        rw [valsF_get L ls ps i (by rw [← HN.out]; exact hil)] at hi
        rw [HF.out i (by omega) hil]
        exact Option.some.inj hi
    obtain ⟨m1, rfl⟩ : ∃ m1, gk = m1 + 1 := ⟨gk - 1, by omega⟩
    have ei : ((m1 + 1 : Nat) : Int) - 1 = (m1 : Int) := by omega
    rw [ei]
    clear ei
    have hm1 : m1 < n := by omega
    obtain ⟨p, hpm, hdm⟩ := drop_cons (xs := ps) (i := m1) (by rw [← HN.out]; exact hm1)
    have hpo := (ptOk_iff p).1 (G.out.pt p (List.mem_of_getElem? hpm))
    have HDM := Lib.hid hdm
    have HPM := Lib.hid hpm
    clear hpm hdm
    have hF1 : F (m1 + 1) = valAt L ls ps (m1 + 1) := HF.out _ (by omega) (by omega)
    have x1 : wr.cell? ⟨g, m1 + 1, none⟩ = some (.int .i64 (valAt L ls ps (m1 + 1))) := by rw [hrow.cell (by omega), hF1]
    have x0 := hrow.cell (i := m1) (by omega)
    have xf := hrow.frozen m1
    have HF1 := Lib.hid hF1
    clear hF1
    go_wp2_with fail
    obtain ⟨wo, hwo⟩ : ∃ wo : World, wo = wr.setCell ⟨g, m1, none⟩ (.int .i64 (valAt L ls ps (m1 + 1))) := ⟨_, rfl⟩
    have hrow1 : wo.rowIs g 3 (n + 1) (fun x => .int .i64 (if x = m1 then valAt L ls ps (m1 + 1) else F x)) := by
      rw [hwo]
      refine (hrow.set m1 _).congr fun i _ => ?_
      split <;> rfl
    have hbo : Below w.heap.size w wo := by rw [hwo]; exact hb.setCell hgw _
    rw [← hwo]
    clear hwo x0 x1 xf hrow hb
    go_loopg [11, 12, 13] (n - m1) (fun q jj _ _ wq => ∃ (j : Nat) (E : Nat → Int), m1 ≤ j ∧ j ≤ n ∧ q = n - j ∧ jj = .int .i64 j ∧ Below w.heap.size w wq ∧ wq.rowIs g 3 (n + 1) (fun x => .int .i64 (E x)) ∧ (∀ x, m1 < x → x ≤ n → E x = valAt L ls ps x) ∧ 0 ≤ E m1 ∧ E m1 ≤ 1152921504606846976 ∧ scanR L ls p.a (ps.drop j) (valsF L ls (ps.drop (j + 1))) (sumT ps m1 (j - m1)) (E m1) = valAt L ls ps m1)
    case atStart =>
      refine ⟨m1, _, Nat.le_refl _, by omega, rfl, rfl, hbo, hrow1, fun x h1 h2 => ?_, ?_, ?_, ?_⟩
      · rw [if_neg (by omega)]; exact HF.out x (by omega) h2
      · rw [if_pos rfl]; exact (valAt_bd L ls ps _).1
      · rw [if_pos rfl]; have := (valAt_bd L ls ps (m1 + 1)).2; rw [← HN.out] at this; omega
      · rw [if_pos rfl]; exact scanR_start G.out.asc HDM.out
    case round =>
      obtain ⟨j, E, hj1, hj2, hq, rfl, hbq, hrq, hE, he0, he1, hsc⟩ := hrel
      have HE := Lib.hid hE
      have HSC := Lib.hid hsc
      have HQ := Lib.hid hq
      clear hE hsc hq
      by_cases hjn : j < n
      · obtain ⟨q, hqj, hdj⟩ := drop_cons (xs := ps) (i := j) (by rw [← HN.out]; exact hjn)
        have hqo := (ptOk_iff q).1 (G.out.pt q (List.mem_of_getElem? hqj))
        have HDJ := Lib.hid hdj
        have HQJ := Lib.hid hqj
        have HT : Hid (sumT ps m1 (j + 1 - m1) = sumT ps m1 (j - m1) + q.b) := by
          have := sumT_snoc hj1 hqj
          rw [show j + 1 - m1 = j - m1 + 1 by omega]; exact this
        clear hdj hqj
        by_cases hle : L ≤ q.a - p.a
        · go_wp2_with (go_at_call 47; refine (CN.out _ (hp.below hbq) m1 j p q HPM.out HQJ.out hj1 hle).mono ?_; rintro e w2 ⟨rfl, hb2⟩)
          go_roundg (n - (j + 1))
          case measure => rw [HQ.out]; omega
          case rel =>
            refine ⟨j + 1, E, by omega, by omega, rfl, by go_num, hbq.trans (hb2.mono hbq.size), World.rowIs.of_block hrq (hb2.block g hrq.lt), HE.out, he0, he1, ?_⟩
            rw [HT.out]; exact scanR_no HDJ.out HSC.out hle
        · have hlt : q.a - p.a < L := by omega
          have hrb := recVal_bd (sumT ps m1 (j - m1 + 1)) ls
          have hvb := valAt_bd L ls ps (j + 1)
          rw [← HN.out] at hvb
          go_wp2_with (go_at_call 47; refine (CY.out _ (hp.below hbq) (hl.below hbq) m1 j p q HPM.out HQJ.out hj1 hlt).mono ?_; rintro e w2 ⟨rfl, hb2⟩)
          have hr2 : w2.rowIs g 3 (n + 1) (fun x => .int .i64 (E x)) := World.rowIs.of_block hrq (hb2.block g hrq.lt)
          have hbw : Below w.heap.size w w2 := hbq.trans (hb2.mono hbq.size)
          have x0 := hr2.cell (i := m1) (by omega)
          have x1 : w2.cell? ⟨g, j + 1, none⟩ = some (.int .i64 (valAt L ls ps (j + 1))) := by rw [hr2.cell (by omega), HE.out (j + 1) (by omega) (by omega)]
          have xf := hr2.frozen m1
          have hmx := @run_imax Try.prog
          clear hb2 hrq hbq
          go_region
          go_wp2_with fail
          go_roundg (n - (j + 1))
          case measure => rw [HQ.out]; omega
          case rel =>
            have hsc' := scanR_yes HDJ.out HSC.out (by omega)
            rw [show j - m1 + 1 = j + 1 - m1 by omega, HT.out]
            refine ⟨j + 1, fun x => if x = m1 then imax (E m1) (recVal (sumT ps m1 (j - m1) + q.b) ls + valAt L ls ps (j + 1)) else E x, by omega, by omega, rfl, by go_num, (hbw.drew).setCell hgw _, ?_, fun x h1 h2 => ?_, ?_, ?_, ?_⟩
            · refine ((World.rowIs.drew hr2).set m1 _).congr fun i _ => ?_
              by_cases hi : i = m1 <;> simp [hi]
            · dsimp only; rw [if_neg (by omega)]; exact HE.out x h1 h2
            · rw [show j - m1 + 1 = j + 1 - m1 by omega, HT.out] at hrb
              dsimp only; rw [if_pos rfl]; unfold imax; split <;> omega
            · rw [show j - m1 + 1 = j + 1 - m1 by omega, HT.out] at hrb
              dsimp only; rw [if_pos rfl]; unfold imax; split <;> omega
            · dsimp only; rw [if_pos rfl, HT.out]; exact hsc'
      · obtain rfl : j = n := by omega
        have hsc := HSC.out
        rw [HN.out] at hsc
        have hE1 := Lib.hid (scanR_end hsc)
        clear hsc
        go_wp2_with fail
        go_roundg m1
        case measure => omega
        case rel =>
          refine ⟨E, by omega, rfl, hbq, hrq, fun x h1 h2 => ?_⟩
          by_cases hx : x = m1
          · rw [hx]; exact hE1.out.symm
          · exact HE.out x (by omega) h2

end Go.Proofs.Ytjbaildaifdgiaa
