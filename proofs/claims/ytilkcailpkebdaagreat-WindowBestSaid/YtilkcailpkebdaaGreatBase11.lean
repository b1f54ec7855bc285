/-
  Texts of the proof, one after the other.
-/
import Derived.Test.YtilkcailpkebdaaGreatBase2
import Derived.Test.YtilkcailpkebdaaGreatBase10
import Derived.Test.YtilkcailpkebdaaGreatBase3
import Derived.Deep.OwnRows
import Derived.Deep.LoopGhost
import Derived.RegionTactic
import Derived.Test.YtilkcailpkebdaaGreatBase9
import Derived.Test.YtilkcailpkebdaaGreatBase4
import Derived.Test.YtilkcailpkebdaaGreatBase5
import Derived.Test.YtilkcailpkebdaaGreatBase6
import Derived.Deep.RegionHeld3
import Derived.Outline
import Derived.Test.YtilkcailpkebdaaGreatBase1
import Derived.ProofKit
import Derived.OpenShut
import Derived.ChangeOld
import Derived.Below
import Derived.Deep.Slices
import Derived.Deep.Fields
import Derived.ChangeSame

/-
  treatyref25.Values: its contract, at the same plain function.
-/
namespace Go.Proofs.YtilkcailpkebdaaGreat
open Go.RowKit
set_option linter.unusedVariables false

set_option maxRecDepth 100000 in
set_option maxHeartbeats 2000000 in
theorem rvalues_ty (A : Option Addr) (c : Nat) (ps : List P2) (L : Int) (B : Option Addr) (d : Nat) (ls : List P2) (w : World) (hps : ps.length ≤ 1000) (hls : ls.length ≤ 1000) (hp : Pairs w 0 A ps) (hl : Pairs w 0 B ls) :
    Calls Tryz.prog 44 #[.slice A ps.length c, .int .i64 L, .slice B ls.length d] w fun e w' => ∃ G cc, e = .returned (.tuple #[.slice G (valuesF ps L ls).length cc, .int .i64 (chkErr ps L ls)]) ∧ Ints w' w.heap.size G (valuesF ps L ls) ∧ Below w.heap.size w w' ∧ (∀ a, G = some a → ∃ cs fr, w'.heap[a.block]? = some (.cells cs 3 fr)) := by
  have CC := Lib.hid (rcheck_any A c ps L B d ls w hps hls hp hl)
  by_cases hce : chkErr ps L ls = 0
  case neg =>
    have HX : Hid (valuesF ps L ls = []) := by unfold valuesF; rw [if_neg hce]; rfl
    have q0 : (chkErr ps L ls != 0) = true := by simpa using hce
    clear hce
    go_enter Tryz.func44, Tryz.ntmps44
    go_wp2_with (go_at_call 69; refine CC.out.mono ?_; rintro e w1 ⟨rfl, hb1⟩)
    go_ret2
    refine ⟨none, 0, by rw [HX.out]; rfl, by rw [HX.out]; exact Sl.none_, hb1, fun a h => by cases h⟩
  have HCE := Lib.hid hce
  have HX : Hid (valuesF ps L ls = valsF L ls ps) := by unfold valuesF; rw [if_pos hce]; rfl
  have G := Lib.hid (good_of hce)
  have q0 : (chkErr ps L ls != 0) = false := by rw [hce]; rfl
  clear hce
  obtain ⟨n, hn⟩ : ∃ n, n = ps.length := ⟨_, rfl⟩
  obtain ⟨m, hm⟩ : ∃ m, m = ls.length := ⟨_, rfl⟩
  have hlen : ps.length ≤ 1000 := hps
  have CN : Hid (∀ (W : World), Pairs W 0 A ps → ∀ (i j : Nat) (p q : P2), ps[i]? = some p → ps[j]? = some q → i ≤ j → L ≤ q.a - p.a → Calls Tryz.prog 66 #[.slice A n c, .int .i64 L, .slice B m d, .int .i64 i, .int .i64 j] W fun e w' => e = .returned (.tuple #[.int .i64 0, .bool false]) ∧ Below W.heap.size W w') := by
    intro W h i j p q hi hj hij hL; rw [hn, hm]; exact span_no A c ps L B d ls W h hlen G.out.pt i j p q hi hj hij hL
  have CY : Hid (∀ (W : World), Pairs W 0 A ps → Pairs W 0 B ls → ∀ (i j : Nat) (p q : P2), ps[i]? = some p → ps[j]? = some q → i ≤ j → q.a - p.a < L → Calls Tryz.prog 66 #[.slice A n c, .int .i64 L, .slice B m d, .int .i64 i, .int .i64 j] W fun e w' => e = .returned (.tuple #[.int .i64 (recVal (sumT ps i (j - i + 1)) ls), .bool true]) ∧ Below W.heap.size W w') := by
    intro W h h' i j p q hi hj hij hL; rw [hn, hm]; exact span_yes A c ps L B d ls W h h' hlen hls G.out.pt G.out.sum i j p q hi hj hij hL
  have hn64 : n ≤ 64 := by rw [hn]; exact G.out.len
  rw [← hn, ← hm] at CC
  rw [← hn, ← hm]
  have HN := Lib.hid hn
  clear hn hm hps hls hlen
  have hmk := run_make_row' (P := Tryz.prog) 23 3 (.int .i64 0) 8 Tryz.underlying23 Tryz.infoInt rfl .i64 .i64 (n + 1) (by omega) (by omega)
  have ec : ((n + 1 : Nat) : Int) = (n : Int) + 1 := by omega
  rw [ec] at hmk
  clear ec
  go_enter Tryz.func44, Tryz.ntmps44
  go_wp2_with (go_at_call 69; refine CC.out.mono ?_; rintro e w1 ⟨rfl, hb1⟩)
  have hrow0 := World.rowIs_made w1 (.int .i64 0) (n + 1) 3
  obtain ⟨g, hg⟩ : ∃ g, g = w1.heap.size := ⟨_, rfl⟩
  rw [← hg] at hrow0 ⊢
  have hgw : w.heap.size ≤ g := by rw [hg]; exact hb1.size
  have hb2 : Below w.heap.size w (w1.alloc (.cells (madeCells #[.int .i64 0] (n + 1)) 3)) := hb1.alloc hb1.size _
  clear hg hmk
  go_loopg [10, 11, 12, 13] n (fun k i _ _ _ wr => ∃ F : Nat → Int, k ≤ n ∧ i = .int .i64 ((k : Int) - 1) ∧ Below w.heap.size w wr ∧ wr.rowIs g 3 (n + 1) (fun x => .int .i64 (F x)) ∧ ∀ x, k ≤ x → x ≤ n → F x = valAt L ls ps x)
  case atStart =>
    refine ⟨fun _ => 0, Nat.le_refl _, rfl, hb2, hrow0, fun x h1 h2 => ?_⟩
    obtain rfl : x = n := by omega
    rw [HN.out, valAt_end]
  case round =>
    obtain ⟨F, hk, rfl, hb, hrow, hF⟩ := hrel
    have HF := Lib.hid hF
    clear hF
    by_cases hk1 : 1 ≤ gk
    case neg =>
      go_wp2_with fail
      go_ret2
      refine ⟨some ⟨g, 0, none⟩, n + 1, ?_, ?_, hb, fun a h => by injection h with h; subst h; obtain ⟨cs, h1, _⟩ := hrow; exact ⟨cs, _, h1⟩⟩
      · rw [HX.out, valsF_length, ← HN.out, HCE.out]; rfl
      · rw [HX.out]
        refine ints_of_row (F := F) (by rw [valsF_length, ← HN.out]; exact hrow) hgw fun i x hi => ?_
        have hil : i ≤ n := by
          have := (List.getElem?_eq_some_iff.1 hi).1
          rw [valsF_length, ← HN.out] at this; omega
        rw [valsF_get L ls ps i (by rw [← HN.out]; exact hil)] at hi
        rw [HF.out i (by omega) hil]
        exact Option.some.inj hi
    obtain ⟨m1, rfl⟩ : ∃ m1, gk = m1 + 1 := ⟨gk - 1, by omega⟩
    have ei : ((m1 + 1 : Nat) : Int) - 1 = (m1 : Int) := by omega
    rw [ei]
    clear ei
    have hm1 : m1 < n := by omega
    obtain ⟨p, hpm, hdm⟩ := drop_cons (xs := ps) (i := m1) (by rw [← HN.out]; exact hm1)
    have hpo := (ptOk_iff p).1 (G.out.pt p (List.mem_of_getElem? hpm))
    have HDM := Lib.hid hdm
    have HPM := Lib.hid hpm
    clear hpm hdm
    have hF1 : F (m1 + 1) = valAt L ls ps (m1 + 1) := HF.out _ (by omega) (by omega)
    have x1 : wr.cell? ⟨g, m1 + 1, none⟩ = some (.int .i64 (valAt L ls ps (m1 + 1))) := by rw [hrow.cell (by omega), hF1]
    have x0 := hrow.cell (i := m1) (by omega)
    have xf := hrow.frozen m1
    have HF1 := Lib.hid hF1
    clear hF1
    go_wp2_with fail
    obtain ⟨wo, hwo⟩ : ∃ wo : World, wo = wr.setCell ⟨g, m1, none⟩ (.int .i64 (valAt L ls ps (m1 + 1))) := ⟨_, rfl⟩
    have hrow1 : wo.rowIs g 3 (n + 1) (fun x => .int .i64 (if x = m1 then valAt L ls ps (m1 + 1) else F x)) := by
      rw [hwo]
      refine (hrow.set m1 _).congr fun i _ => ?_
      split <;> rfl
    have hbo : Below w.heap.size w wo := by rw [hwo]; exact hb.setCell hgw _
    rw [← hwo]
    clear hwo x0 x1 xf hrow hb
    go_loopg [11, 12, 13] (n - m1) (fun q jj _ _ wq => ∃ (j : Nat) (E : Nat → Int), m1 ≤ j ∧ j ≤ n ∧ q = n - j ∧ jj = .int .i64 j ∧ Below w.heap.size w wq ∧ wq.rowIs g 3 (n + 1) (fun x => .int .i64 (E x)) ∧ (∀ x, m1 < x → x ≤ n → E x = valAt L ls ps x) ∧ 0 ≤ E m1 ∧ E m1 ≤ 1152921504606846976 ∧ scanR L ls p.a (ps.drop j) (valsF L ls (ps.drop (j + 1))) (sumT ps m1 (j - m1)) (E m1) = valAt L ls ps m1)
    case atStart =>
      refine ⟨m1, _, Nat.le_refl _, by omega, rfl, rfl, hbo, hrow1, fun x h1 h2 => ?_, ?_, ?_, ?_⟩
      · rw [if_neg (by omega)]; exact HF.out x (by omega) h2
      · rw [if_pos rfl]; exact (valAt_bd L ls ps _).1
      · rw [if_pos rfl]; have := (valAt_bd L ls ps (m1 + 1)).2; rw [← HN.out] at this; omega
      · rw [if_pos rfl]; exact scanR_start G.out.asc HDM.out
    case round =>
      obtain ⟨j, E, hj1, hj2, hq, rfl, hbq, hrq, hE, he0, he1, hsc⟩ := hrel
      have HE := Lib.hid hE
      have HSC := Lib.hid hsc
      have HQ := Lib.hid hq
      clear hE hsc hq
      by_cases hjn : j < n
      · obtain ⟨q, hqj, hdj⟩ := drop_cons (xs := ps) (i := j) (by rw [← HN.out]; exact hjn)
        have hqo := (ptOk_iff q).1 (G.out.pt q (List.mem_of_getElem? hqj))
        have HDJ := Lib.hid hdj
        have HQJ := Lib.hid hqj
        have HT : Hid (sumT ps m1 (j + 1 - m1) = sumT ps m1 (j - m1) + q.b) := by
          have := sumT_snoc hj1 hqj
          rw [show j + 1 - m1 = j - m1 + 1 by omega]; exact this
        clear hdj hqj
        by_cases hle : L ≤ q.a - p.a
        · go_wp2_with (go_at_call 66; refine (CN.out _ (hp.below hbq) m1 j p q HPM.out HQJ.out hj1 hle).mono ?_; rintro e w2 ⟨rfl, hb2⟩)
          go_roundg (n - (j + 1))
          case measure => rw [HQ.out]; omega
          case rel =>
            refine ⟨j + 1, E, by omega, by omega, rfl, by go_num, hbq.trans (hb2.mono hbq.size), World.rowIs.of_block hrq (hb2.block g hrq.lt), HE.out, he0, he1, ?_⟩
            rw [HT.out]; exact scanR_no HDJ.out HSC.out hle
        · have hlt : q.a - p.a < L := by omega
          have hrb := recVal_bd (sumT ps m1 (j - m1 + 1)) ls
          have hvb := valAt_bd L ls ps (j + 1)
          rw [← HN.out] at hvb
          go_wp2_with (go_at_call 66; refine (CY.out _ (hp.below hbq) (hl.below hbq) m1 j p q HPM.out HQJ.out hj1 hlt).mono ?_; rintro e w2 ⟨rfl, hb2⟩)
          have hr2 : w2.rowIs g 3 (n + 1) (fun x => .int .i64 (E x)) := World.rowIs.of_block hrq (hb2.block g hrq.lt)
          have hbw : Below w.heap.size w w2 := hbq.trans (hb2.mono hbq.size)
          have x0 := hr2.cell (i := m1) (by omega)
          have x1 : w2.cell? ⟨g, j + 1, none⟩ = some (.int .i64 (valAt L ls ps (j + 1))) := by rw [hr2.cell (by omega), HE.out (j + 1) (by omega) (by omega)]
          have xf := hr2.frozen m1
          have hmx := @run_imax Tryz.prog
          clear hb2 hrq hbq
          go_region
          go_wp2_with fail
          go_roundg (n - (j + 1))
          case measure => rw [HQ.out]; omega
          case rel =>
            have hsc' := scanR_yes HDJ.out HSC.out (by omega)
            rw [show j - m1 + 1 = j + 1 - m1 by omega, HT.out]
            refine ⟨j + 1, fun x => if x = m1 then imax (E m1) (recVal (sumT ps m1 (j - m1) + q.b) ls + valAt L ls ps (j + 1)) else E x, by omega, by omega, rfl, by go_num, (hbw.drew).setCell hgw _, ?_, fun x h1 h2 => ?_, ?_, ?_, ?_⟩
            · refine ((World.rowIs.drew hr2).set m1 _).congr fun i _ => ?_
              by_cases hi : i = m1 <;> simp [hi]
            · dsimp only; rw [if_neg (by omega)]; exact HE.out x h1 h2
            · rw [show j - m1 + 1 = j + 1 - m1 by omega, HT.out] at hrb
              dsimp only; rw [if_pos rfl]; unfold imax; split <;> omega
            · rw [show j - m1 + 1 = j + 1 - m1 by omega, HT.out] at hrb
              dsimp only; rw [if_pos rfl]; unfold imax; split <;> omega
            · dsimp only; rw [if_pos rfl, HT.out]; exact hsc'
      · obtain rfl : j = n := by omega
        have hsc := HSC.out
        rw [HN.out] at hsc
        have hE1 := Lib.hid (scanR_end hsc)
        clear hsc
        go_wp2_with fail
        go_roundg m1
        case measure => omega
        case rel =>
          refine ⟨E, by omega, rfl, hbq, hrq, fun x h1 h2 => ?_⟩
          by_cases hx : x = m1
          · rw [hx]; exact hE1.out.symm
          · exact HE.out x (by omega) h2
theorem rvalues_any (A : Option Addr) (c : Nat) (ps : List P2) (L : Int) (B : Option Addr) (d : Nat) (ls : List P2) (w : World) (hps : ps.length ≤ 1000) (hls : ls.length ≤ 1000) (hp : Pairs w 0 A ps) (hl : Pairs w 0 B ls) :
    Calls Tryz.prog 44 #[.slice A ps.length c, .int .i64 L, .slice B ls.length d] w fun e w' => ∃ G cc, e = .returned (.tuple #[.slice G (valuesF ps L ls).length cc, .int .i64 (chkErr ps L ls)]) ∧ Ints w' w.heap.size G (valuesF ps L ls) ∧ Below w.heap.size w w' := by
  refine (rvalues_ty A c ps L B d ls w hps hls hp hl).mono ?_
  rintro e w' ⟨G, cc, h1, h2, h3, _⟩
  exact ⟨G, cc, h1, h2, h3⟩

end Go.Proofs.YtilkcailpkebdaaGreat

/-
  treatyref25.Spans: its contract, at the same plain function.
-/
namespace Go.Proofs.YtilkcailpkebdaaGreat
open Go.RowKit
set_option linter.unusedVariables false

set_option maxRecDepth 100000 in
set_option maxHeartbeats 2000000 in
theorem rspans_any (A : Option Addr) (c : Nat) (ps : List P2) (L : Int) (B : Option Addr) (d : Nat) (ls : List P2) (w : World) (hps : ps.length ≤ 1000) (hls : ls.length ≤ 1000) (hp : Pairs w 0 A ps) (hl : Pairs w 0 B ls) :
    Calls Tryz.prog 40 #[.slice A ps.length c, .int .i64 L, .slice B ls.length d] w fun e w' => ∃ v, e = .returned (.tuple #[v, .int .i64 (chkErr ps L ls)]) ∧ w'.ownsRow w.heap.size 63 2 v (spansOf ps L ls).length ((spansOf ps L ls).flatMap P2.cells) ∧ Below w.heap.size w w' := by
  have CC := Lib.hid (rvalues_any A c ps L B d ls w hps hls hp hl)
  by_cases hce : chkErr ps L ls = 0
  case neg =>
    have HX : Hid (spansOf ps L ls = []) := by unfold spansOf; rw [if_neg hce]; rfl
    have q0 : (chkErr ps L ls != 0) = true := by simpa using hce
    clear hce
    go_enter Tryz.func40, Tryz.ntmps40
    go_wp2_with (go_at_call 44; refine CC.out.mono ?_; rintro e w1 ⟨G, cc, rfl, hG, hb1⟩)
    go_ret2
    refine ⟨_, rfl, by rw [HX.out]; exact own_nil _ _ _ _, hb1⟩
  have HCE := Lib.hid hce
  have HX : Hid (spansOf ps L ls = spansF L ls ps ps.length 0) := by unfold spansOf; rw [if_pos hce]; rfl
  have HV : Hid (valuesF ps L ls = valsF L ls ps) := by unfold valuesF; rw [if_pos hce]; rfl
  have GG := Lib.hid (good_of hce)
  have q0 : (chkErr ps L ls != 0) = false := by rw [hce]; rfl
  clear hce
  obtain ⟨n, hn⟩ : ∃ n, n = ps.length := ⟨_, rfl⟩
  obtain ⟨m, hm⟩ : ∃ m, m = ls.length := ⟨_, rfl⟩
  have hlen : ps.length ≤ 1000 := hps
  have CN : Hid (∀ (W : World), Pairs W 0 A ps → ∀ (i j : Nat) (p q : P2), ps[i]? = some p → ps[j]? = some q → i ≤ j → L ≤ q.a - p.a → Calls Tryz.prog 66 #[.slice A n c, .int .i64 L, .slice B m d, .int .i64 i, .int .i64 j] W fun e w' => e = .returned (.tuple #[.int .i64 0, .bool false]) ∧ Below W.heap.size W w') := by
    intro W h i j p q hi hj hij hL; rw [hn, hm]; exact span_no A c ps L B d ls W h hlen GG.out.pt i j p q hi hj hij hL
  have CY : Hid (∀ (W : World), Pairs W 0 A ps → Pairs W 0 B ls → ∀ (i j : Nat) (p q : P2), ps[i]? = some p → ps[j]? = some q → i ≤ j → q.a - p.a < L → Calls Tryz.prog 66 #[.slice A n c, .int .i64 L, .slice B m d, .int .i64 i, .int .i64 j] W fun e w' => e = .returned (.tuple #[.int .i64 (recVal (sumT ps i (j - i + 1)) ls), .bool true]) ∧ Below W.heap.size W w') := by
    intro W h h' i j p q hi hj hij hL; rw [hn, hm]; exact span_yes A c ps L B d ls W h h' hlen hls GG.out.pt GG.out.sum i j p q hi hj hij hL
  have hn64 : n ≤ 64 := by rw [hn]; exact GG.out.len
  rw [HV.out, valsF_length, ← hn, ← hm] at CC
  rw [← hn, ← hm]
  have HN := Lib.hid hn
  clear hn hm hps hls hlen
  obtain ⟨i0, hi, hz0, hz1, hz2⟩ := info_parts Tryz.infoTwo
  go_enter Tryz.func40, Tryz.ntmps40
  go_wp2_with (go_at_call 44; refine CC.out.mono ?_; rintro e w1 ⟨G, cc, rfl, hG, hb1⟩)
  have hp1 := hp.below hb1
  have hl1 := hl.below hb1
  have HB1 := Lib.hid hb1
  clear hb1 hp hl
  go_loopg [10, 11, 12, 13, 14, 15] n (fun f v ii _ _ _ _ wr => ∃ (acc : List P2) (i : Nat), ii = .int .i64 i ∧ i ≤ n ∧ n ≤ i + f ∧ acc.length ≤ i ∧ acc ++ spansF L ls ps f i = spansF L ls ps n 0 ∧ wr.ownsRow w1.heap.size 63 2 v acc.length (acc.flatMap P2.cells) ∧ Below w1.heap.size w1 wr)
  case atStart => exact ⟨[], 0, rfl, Nat.zero_le _, by omega, by simp, rfl, own_nil _ _ _ _, Below.refl _ _⟩
  case round =>
    obtain ⟨acc, i, rfl, hi1, hif, hal, hacc, hown, hb⟩ := hrel
    have HACC := Lib.hid hacc
    clear hacc
    by_cases hin : i < n
    case neg =>
      go_wp2_with fail
      go_ret2
      have he : spansOf ps L ls = acc := by
        rw [HX.out, ← HN.out, ← HACC.out, spans_end (by rw [← HN.out]; omega), List.append_nil]
      refine ⟨_, by rw [HCE.out]; rfl, by rw [he]; exact own_mono hown HB1.out.size, HB1.out.trans (hb.mono HB1.out.size)⟩
    obtain ⟨f1, rfl⟩ : ∃ f1, gk = f1 + 1 := ⟨gk - 1, by omega⟩
    obtain ⟨p, hpi, hdi⟩ := drop_cons (xs := ps) (i := i) (by rw [← HN.out]; exact hin)
    have hpo := (ptOk_iff p).1 (GG.out.pt p (List.mem_of_getElem? hpi))
    have HDI := Lib.hid hdi
    have HPI := Lib.hid hpi
    clear hdi hpi
    obtain ⟨g, goff, rfl, _, hgl, g0⟩ := (hG.below hb).at_ (valsF_get L ls ps i (by rw [← HN.out]; omega))
    obtain ⟨g', goff', hA', _, _, g1⟩ := (hG.below hb).at_ (valsF_get L ls ps (i + 1) (by rw [← HN.out]; omega))
    obtain ⟨rfl, rfl⟩ : g = g' ∧ goff = goff' := by simpa using hA'
    clear hA'
    by_cases hve : valAt L ls ps i = valAt L ls ps (i + 1)
    · have HS := Lib.hid (spans_eq (f := f1) HPI.out hve)
      have qe : (valAt L ls ps i == valAt L ls ps (i + 1)) = true := by rw [hve]; simp
      clear hve
      go_wp2_with fail
      go_quiet (fail)
      go_wp2_with fail
      go_roundg f1
      case measure => omega
      case rel => exact ⟨acc, i + 1, by go_num, by omega, by omega, by omega, by rw [← HS.out]; exact HACC.out, hown, below_drewN hb _⟩
    · have qe : (valAt L ls ps i == valAt L ls ps (i + 1)) = false := by simpa using hve
      obtain ⟨j0, hj0⟩ := findAt_some HDI.out hve
      have hjb := findAt_bd hj0
      rw [← HN.out] at hjb
      have HS := Lib.hid (spans_hit (f := f1) HPI.out hve hj0)
      have HF := Lib.hid hj0
      clear hve hj0
      go_wp2_with fail
      go_quiet (fail)
      go_wp2_with fail
      clear g1
      obtain ⟨wo, hwo⟩ : ∃ wo : World, wo = wr.drewN nq := ⟨_, rfl⟩
      have hbo : Below w1.heap.size w1 wo := by rw [hwo]; exact below_drewN hb _
      rw [← hwo]
      have hown1 : wo.ownsRow w1.heap.size 63 2 u10 acc.length (acc.flatMap P2.cells) := by rw [hwo]; exact hown
      obtain ⟨sv, hsv⟩ : ∃ sv : Value, sv = u10 := ⟨_, rfl⟩
      rw [← hsv] at hown1 ⊢
      clear hwo hb hown g0 hgl hsv
      go_loopg [12, 13, 14, 15] (n - i) (fun q nn jj _ _ wq => ∃ (k nx : Nat), i ≤ k ∧ k ≤ n ∧ q = k - i ∧ jj = .int .i64 ((k : Int) - 1) ∧ nn = .int .i64 nx ∧ nx ≤ n ∧ NextIs L ls ps i p.a k nx ∧ wq.ownsRow w1.heap.size 63 2 sv acc.length (acc.flatMap P2.cells) ∧ Below w1.heap.size w1 wq)
      case atStart =>
        refine ⟨n, n, by omega, Nat.le_refl _, rfl, rfl, rfl, Nat.le_refl _, ?_, hown1, hbo⟩
        rw [HN.out]; exact NextIs.start
      case round =>
        obtain ⟨k, nx, hk1, hk2, hq, rfl, rfl, hnx, hnext, hownq, hbq⟩ := hrel
        have HNX := Lib.hid hnext
        have HQ := Lib.hid hq
        clear hnext hq hown1 hbo
        by_cases hki : k = i
        case neg =>
          obtain ⟨j, rfl⟩ : ∃ j, k = j + 1 := ⟨k - 1, by omega⟩
          have ei : ((j + 1 : Nat) : Int) - 1 = (j : Int) := by omega
          rw [ei]
          clear ei
          have hij : i ≤ j := by omega
          have hjn : j < n := by omega
          have qi : decide (i ≤ j) = true := by simpa using hij
          obtain ⟨q, hqj, hdj⟩ := drop_cons (xs := ps) (i := j) (by rw [← HN.out]; exact hjn)
          have HIF := Lib.hid (hit_iff (L := L) (ls := ls) (i := i) (h0 := p.a) hqj)
          have HQJ := Lib.hid hqj
          clear hqj hdj
          by_cases hle : L ≤ q.a - p.a
          · go_wp2_with (go_at_call 66; refine (CN.out _ (hp1.below hbq) i j p q HPI.out HQJ.out hij hle).mono ?_; rintro e w2 ⟨rfl, hb2⟩)
            go_quiet (fail)
            go_wp2_with fail
            go_roundg (j - i)
            case measure => rw [HQ.out]; omega
            case rel => exact ⟨j, nx, hij, by omega, rfl, rfl, rfl, hnx, HNX.out.no (fun h => by have := (HIF.out.1 h).1; omega), own_below hownq (below_drewN hb2 _), below_drewN (hbq.trans (hb2.mono hbq.size)) _⟩
          · have hlt : q.a - p.a < L := by omega
            have hrb := recVal_bd (sumT ps i (j - i + 1)) ls
            have hvb := valAt_bd L ls ps (j + 1)
            rw [← HN.out] at hvb
            go_wp2_with (go_at_call 66; refine (CY.out _ (hp1.below hbq) (hl1.below hbq) i j p q HPI.out HQJ.out hij hlt).mono ?_; rintro e w2 ⟨rfl, hb2⟩)
            have hbw : Below w1.heap.size w1 w2 := hbq.trans (hb2.mono hbq.size)
            have hown2 := own_below hownq hb2
            obtain ⟨g', goff', hA', _, hgl, g0⟩ := (hG.below hbw).at_ (valsF_get L ls ps i (by rw [← HN.out]; omega))
            obtain ⟨rfl, rfl⟩ : g = g' ∧ goff = goff' := by simpa using hA'
            obtain ⟨g', goff', hA2, _, _, g1⟩ := (hG.below hbw).at_ (valsF_get L ls ps (j + 1) (by rw [← HN.out]; omega))
            obtain ⟨rfl, rfl⟩ : g = g' ∧ goff = goff' := by simpa using hA2
            clear hA' hA2 hb2 hbq hownq
            by_cases hhit : recVal (sumT ps i (j - i + 1)) ls + valAt L ls ps (j + 1) = valAt L ls ps i
            · have HH := Lib.hid (HIF.out.2 ⟨hlt, hhit⟩)
              have qh : (recVal (sumT ps i (j - i + 1)) ls + valAt L ls ps (j + 1) == valAt L ls ps i) = true := by simpa using hhit
              clear hhit
              go_quiet (fail)
              go_wp2_with fail
              go_roundg (j - i)
              case measure => rw [HQ.out]; omega
              case rel => exact ⟨j, j + 1, hij, by omega, rfl, rfl, by go_num, by omega, NextIs.yes HH.out, hown2, below_drewN hbw _⟩
            · have qh : (recVal (sumT ps i (j - i + 1)) ls + valAt L ls ps (j + 1) == valAt L ls ps i) = false := by simpa using hhit
              have HH : Hid (¬ Hit L ls ps i p.a j) := fun h => hhit (HIF.out.1 h).2
              clear hhit
              go_quiet (fail)
              go_wp2_with fail
              go_roundg (j - i)
              case measure => rw [HQ.out]; omega
              case rel => exact ⟨j, nx, hij, by omega, rfl, rfl, rfl, hnx, HNX.out.no HH.out, hown2, below_drewN hbw _⟩
        subst hki
        have hnj := HNX.out.find HF.out
        obtain rfl : nx = j0 + 1 := hnj
        clear HNX
        have hlow := own_low hownq
        have ej : ((j0 + 1 : Nat) : Int) = (j0 : Int) + 1 := by omega
        rw [ej]
        clear ej
        go_wp2_with (at_builtin; refine wpList_append_own _ rfl (.tmp 78) (.tmp 83) 59 rfl w1.heap.size 63 i0 _ 2 16 Tryz.underlying59 hi hz0 hz1 hz2 rfl (by decide) _ _ _ rfl (hownq.alloc _) ⟨wr.heap.size, 0, none⟩ 1 1 [.int .i64 k, .int .i64 j0] rfl rfl ?c1 ?c2 ?c3 ?c4 ?c5 ?_)
        case c1 => exact cell_new _ _ _
        case c2 => intro u hu; simp at hu; rcases hu with rfl | rfl <;> rfl
        case c3 => unfold maxLen; omega
        case c4 => omega
        case c5 => have := hbq.size; simp; omega
        intro v' w4 hown4 hg4 _
        have hb4 : Below w1.heap.size w1 w4 := (hbq.alloc hbq.size _).grown hg4 (by have := hbq.size; simp; omega) hlow
        clear hbq hownq
        go_wp2_with fail
        go_roundg f1
        case measure => omega
        case rel =>
          refine ⟨acc ++ [⟨k, j0⟩], j0 + 1, by go_num, by omega, by omega, by simp; omega, ?_, ?_, hb4⟩
          · have := HACC.out
            rw [HS.out] at this
            rw [List.append_assoc]; exact this
          · rw [List.flatMap_append, List.length_append]; exact hown4

end Go.Proofs.YtilkcailpkebdaaGreat

/-
  treatyref25.Perils: its contract.
-/
namespace Go.Proofs.YtilkcailpkebdaaGreat
open Go.RowKit
set_option linter.unusedVariables false

theorem perilsF_eq (los : List Los) : perilsF los = insAll (perilsL los) := compact_sorted _
theorem ins_next (xs : List Int) {k : Nat} {x : Int} (h : xs[k]? = some x) : insI (insAll (xs.take k)) x = insAll (xs.take (k + 1)) := by
  unfold insAll
  rw [List.take_add_one, h]; simp
theorem insAll_take_len (xs : List Int) (k : Nat) : (insAll (xs.take k)).length ≤ xs.length := Nat.le_trans (insAll_len _) (by rw [List.length_take]; omega)

set_option maxRecDepth 100000 in
set_option maxHeartbeats 1000000 in
theorem rperils_any (A : Option Addr) (c : Nat) (los : List Los) (w : World) (hll : los.length ≤ 900) (hL : Losses w 0 A los) :
    Calls Tryz.prog 38 #[.slice A los.length c] w fun e w' => ∃ (B : Option Addr) (d : Nat), e = .returned (.slice B (perilsF los).length d) ∧ Ints w' 0 B (perilsF los) ∧ Below w.heap.size w w' := by
  rw [perilsF_eq]
  obtain ⟨n, hn⟩ : ∃ n, n = los.length := ⟨_, rfl⟩
  rw [← hn] at hll ⊢
  have HN := Lib.hid hn
  have HPL : Hid ((perilsL los).length = n) := by show _ = _; unfold perilsL; rw [List.length_map]; exact hn.symm
  clear hn
  go_enter Tryz.func38, Tryz.ntmps38
  go_wp2_with fail
  go_loopw [3, 4, 7] (fun v _ ii wr => ∃ (k : Nat) (B : Option Addr) (d : Nat), k ≤ n ∧ ii = .int .i64 k ∧ v = .slice B (insAll ((perilsL los).take k)).length d ∧ (insAll ((perilsL los).take k)).length ≤ d ∧ d ≤ 9223372036854775807 ∧ (B = none → d = 0) ∧ Flat B ∧ Ints wr 0 B (insAll ((perilsL los).take k)) ∧ Below w.heap.size w wr) (fun _ _ ii _ => n - (intOf ii).toNat)
  case atStart => exact ⟨0, none, 0, Nat.zero_le _, rfl, rfl, Nat.le_refl _, by omega, fun _ => rfl, .inl rfl, Sl.none_, Below.refl _ _⟩
  case round =>
    obtain ⟨k, B, d, hk, rfl, rfl, hd1, hd2, hBn, hBf, hI, hb⟩ := hrel
    have hlen := insAll_take_len (perilsL los) k
    rw [HPL.out] at hlen
    by_cases hkn : k < n
    · obtain ⟨x, hx, _⟩ := drop_cons (xs := los) (i := k) (by rw [← HN.out]; exact hkn)
      obtain ⟨b, off, rfl, _, hbl, c0, c1, c2, c3, c4, c5, c6, c7, c8, c9⟩ := (hL.below hb).at_ hx
      have HX : Hid ((perilsL los)[k]? = some x.peril) := by show _ = _; unfold perilsL; rw [List.getElem?_map, hx]; rfl
      have C1 := Lib.hid (insert_any B d (insAll ((perilsL los).take k)) x.peril wr (by omega) hd1 hd2 hBn hBf hI)
      rw [ins_next _ HX.out] at C1
      obtain ⟨m, hm⟩ : ∃ m, m = (insAll ((perilsL los).take k)).length := ⟨_, rfl⟩
      rw [← hm] at C1 ⊢
      clear hx c0 c1 c2 c3 c5 c6 c7 c8 c9 hm hd1 hd2 hBn hBf hI hlen
      go_wp2_with fail
      refine C1.out.mono ?_
      rintro e w2 ⟨B2, d2, rfl, h1, h2, h3, h4, h5, hb2⟩
      have hb02 := hb.trans (hb2.mono hb.size)
      obtain ⟨m2, hm2⟩ : ∃ m, m = (insAll ((perilsL los).take (k + 1))).length := ⟨_, rfl⟩
      rw [← hm2] at h1 ⊢
      have HM2 := Lib.hid hm2
      have H5 := Lib.hid h5
      have H3 := Lib.hid h3
      have H4 := Lib.hid h4
      clear hm2 h5 h3 h4 C1 hb2
      go_wp2_with fail
      go_roundw
      case rel => exact ⟨k + 1, B2, d2, by omega, by go_num, by rw [← HM2.out], by rw [← HM2.out]; exact h1, h2, H3.out, H4.out, H5.out, hb02⟩
      case measure => simp [intOf]; omega
    · obtain rfl : k = n := by omega
      rw [List.take_of_length_le (by rw [HPL.out]; exact Nat.le_refl _)] at hI ⊢
      go_wp2_with fail
      go_ret
      exact ⟨B, d, rfl, hI, hb⟩

end Go.Proofs.YtilkcailpkebdaaGreat

/-
  treatyref25.Points: its contract.
-/
namespace Go.Proofs.YtilkcailpkebdaaGreat
open Go.RowKit
set_option linter.unusedVariables false

theorem hoursL_snoc (p : Int) : ∀ (ls : List Los) (ams : List Int) (l : Los) (a : Int), ls.length = ams.length → hoursL (ls ++ [l]) (ams ++ [a]) p = hoursL ls ams p ++ if l.peril = p ∧ 0 < a then [l.hour] else [] := by
  intro ls
  induction ls with
  | nil =>
    intro ams l a hl
    cases ams with
    | nil => simp only [List.nil_append, hoursL]
    | cons b bs => simp at hl
  | cons x xs ih =>
    intro ams l a hl
    cases ams with
    | nil => simp at hl
    | cons b bs =>
      simp only [List.cons_append, hoursL]
      rw [ih bs l a (by simpa using hl)]
      by_cases h : x.peril = p ∧ 0 < b
      · rw [if_pos h, if_pos h]; rfl
      · rw [if_neg h, if_neg h]
theorem hoursL_next {los : List Los} {am : List Int} {k : Nat} {l : Los} {a : Int} (hlen : am.length = los.length) (hl : los[k]? = some l) (ha : am[k]? = some a) (p : Int) : hoursL (los.take (k + 1)) (am.take (k + 1)) p = hoursL (los.take k) (am.take k) p ++ if l.peril = p ∧ 0 < a then [l.hour] else [] := by
  have h1 := (List.getElem?_eq_some_iff.1 hl).1
  have h2 := (List.getElem?_eq_some_iff.1 ha).1
  rw [List.take_add_one, List.take_add_one, hl, ha]
  exact hoursL_snoc p _ _ l a (by rw [List.length_take, List.length_take]; omega)
theorem hoursF_yes {los : List Los} {am : List Int} {k : Nat} {l : Los} {a : Int} (hlen : am.length = los.length) (hl : los[k]? = some l) (ha : am[k]? = some a) {p : Int} (h : l.peril = p ∧ 0 < a) : insI (hoursF (los.take k) (am.take k) p) l.hour = hoursF (los.take (k + 1)) (am.take (k + 1)) p := by
  unfold hoursF insAll; rw [hoursL_next hlen hl ha, if_pos h]; simp
theorem hoursF_no {los : List Los} {am : List Int} {k : Nat} {l : Los} {a : Int} (hlen : am.length = los.length) (hl : los[k]? = some l) (ha : am[k]? = some a) {p : Int} (h : ¬ (l.peril = p ∧ 0 < a)) : hoursF (los.take k) (am.take k) p = hoursF (los.take (k + 1)) (am.take (k + 1)) p := by
  unfold hoursF; rw [hoursL_next hlen hl ha, if_neg h]; simp
theorem hoursL_len (p : Int) : ∀ (ls : List Los) (ams : List Int), (hoursL ls ams p).length ≤ ls.length := by
  intro ls
  induction ls with
  | nil => intro ams; simp [hoursL]
  | cons l ls ih =>
    intro ams
    cases ams with
    | nil => simp [hoursL]
    | cons a ams =>
      have := ih ams
      simp only [hoursL]; split <;> simp only [List.length_cons] <;> omega
theorem hoursF_len (los : List Los) (am : List Int) (p : Int) : (hoursF los am p).length ≤ los.length := Nat.le_trans (insAll_len _) (hoursL_len p los am)
theorem hoursF_take_len (los : List Los) (am : List Int) (p : Int) (k : Nat) : (hoursF (los.take k) (am.take k) p).length ≤ los.length := Nat.le_trans (hoursF_len _ _ _) (by rw [List.length_take]; omega)
theorem lt_of_heap1 {w : World} {b : Nat} {o : Obj} (h : w.heap[b]? = some o) : b < w.heap.size := by
  rcases Nat.lt_or_ge b w.heap.size with hlt | hge
  · exact hlt
  · rw [Array.getElem?_eq_none hge] at h; cases h
theorem pts_next {los : List Los} {am : List Int} {p : Int} {hs : List Int} {j : Nat} {h : Int} (hh : hs[j]? = some h) : (((hs.take j).map fun t => (⟨t, sumAt los am p t⟩ : P2)).flatMap P2.cells) ++ P2.cells ⟨h, sumAt los am p h⟩ = (((hs.take (j + 1)).map fun t => (⟨t, sumAt los am p t⟩ : P2)).flatMap P2.cells) := by
  rw [List.take_add_one, hh]; simp

set_option maxRecDepth 100000 in
set_option maxHeartbeats 4000000 in
theorem rpoints_any (A : Option Addr) (c : Nat) (los : List Los) (M : Option Addr) (mc : Nat) (am : List Int) (p : Int) (w : World) (hll : los.length ≤ 1000) (hal : am.length ≤ 1000) (hL : Losses w 0 A los) (hM : Ints w 0 M am) :
    Calls Tryz.prog 39 #[.slice A los.length c, .slice M am.length mc, .int .i64 p] w fun e w' => ∃ v, e = .returned (.tuple #[v, .int .i64 (chkE los am)]) ∧ w'.ownsRow w.heap.size 55 2 v (eptsF los am p).length ((eptsF los am p).flatMap P2.cells) ∧ Below w.heap.size w w' := by
  have C1 := Lib.hid (rcheckE_any A c los M mc am w (by omega) (by omega) hL hM)
  obtain ⟨n, hn⟩ : ∃ k, k = los.length := ⟨_, rfl⟩
  obtain ⟨na, hna⟩ : ∃ k, k = am.length := ⟨_, rfl⟩
  rw [← hn, ← hna] at C1 ⊢
  rw [← hn] at hll
  rw [← hna] at hal
  have HN := Lib.hid hn
  have HNA := Lib.hid hna
  clear hn hna
  by_cases hE : chkE los am = 0
  case neg =>
    have q : (chkE los am != 0) = true := by simpa using hE
    have HX : Hid (eptsF los am p = []) := by unfold eptsF; rw [if_neg hE]; rfl
    clear hE
    go_enter Tryz.func39, Tryz.ntmps39
    go_wp2_with (go_at_call 63; refine C1.out.mono ?_; rintro e w1 ⟨rfl, hb1⟩)
    go_ret2
    refine ⟨_, rfl, ?_, hb1⟩
    rw [HX.out]; exact own_nil _ _ _ _
  have hG := goodE_of hE
  have hna : na = n := by rw [HNA.out, HN.out]; exact hG.same
  subst hna
  have HX : Hid (eptsF los am p = ptsF los am p) := by unfold eptsF; rw [if_pos hE]; rfl
  have q : (chkE los am != 0) = false := by rw [hE]; rfl
  have hn64 : na ≤ 64 := by rw [HN.out]; exact hG.len
  have HAMB := Lib.hid (fun a ha => (zip_amounts hG.same hG.all a ha).1)
  have HSUM := Lib.hid hG.sum
  have HALL := Lib.hid hG.all
  have HSAME := Lib.hid hG.same
  rw [hE] at C1
  rw [hE]
  clear hE hG
  go_enter Tryz.func39, Tryz.ntmps39
  go_wp2_with fail
  refine C1.out.mono ?_
  rintro e w1 ⟨rfl, hb1⟩
  go_wp2_with fail
  go_loopw [9, 10, 11, 26] (fun v _ _ ii wr => ∃ (k : Nat) (B : Option Addr) (d : Nat), k ≤ na ∧ ii = .int .i64 k ∧ v = .slice B (hoursF (los.take k) (am.take k) p).length d ∧ (hoursF (los.take k) (am.take k) p).length ≤ d ∧ d ≤ 9223372036854775807 ∧ (B = none → d = 0) ∧ Flat B ∧ Ints wr 0 B (hoursF (los.take k) (am.take k) p) ∧ Below w.heap.size w wr) (fun _ _ _ ii _ => na - (intOf ii).toNat)
  case atStart => exact ⟨0, none, 0, Nat.zero_le _, rfl, rfl, Nat.le_refl _, by omega, fun _ => rfl, .inl rfl, Sl.none_, hb1⟩
  case round =>
    obtain ⟨k, B, d, hk, rfl, rfl, hd1, hd2, hBn, hBf, hI, hb⟩ := hrel
    have hlen := hoursF_take_len los am p k
    rw [← HN.out] at hlen
    clear C1 hb1
    by_cases hkn : k < na
    · obtain ⟨l, hl, _⟩ := drop_cons (xs := los) (i := k) (by rw [← HN.out]; exact hkn)
      obtain ⟨a, ha, _⟩ := drop_cons (xs := am) (i := k) (by rw [← HNA.out]; exact hkn)
      obtain ⟨b, off, rfl, _, hbl, c0, c1, c2, c3, c4, c5, c6, c7, c8, c9⟩ := (hL.below hb).at_ hl
      obtain ⟨b2, off2, rfl, _, hbm, m0⟩ := (hM.below hb).at_ ha
      have HLX := Lib.hid hl
      have HAX := Lib.hid ha
      clear hl ha
      obtain ⟨wb, hwb⟩ : ∃ wb : World, wb = wr.alloc (.cells #[.int .i64 l.id, .int .i64 l.pol, .int .i64 l.risk, .int .i64 l.hour, .int .i64 l.peril, .int .i64 l.area, .int .i64 l.cur, .int .i64 l.sum, .int .i64 l.amt, .int .i64 l.paid] 92) := ⟨_, rfl⟩
      have hbb : Below wr.heap.size wr wb := by rw [hwb]; exact (Below.refl _ _).alloc (Nat.le_refl _) _
      have hb0b := hb.trans (hbb.mono hb.size)
      have p3 : wb.cell? ⟨wr.heap.size, 3, none⟩ = some (.int .i64 l.hour) := by rw [hwb]; simp
      have p4 : wb.cell? ⟨wr.heap.size, 4, none⟩ = some (.int .i64 l.peril) := by rw [hwb]; simp
      have m0b : wb.cell? ⟨b2, off2 + k, none⟩ = some (.int .i64 a) := (hbb.cell (p := ⟨b2, _, none⟩) hbm).trans m0
      have hIb := hI.below hbb
      go_upto_region 8 with fail
      rw [← hwb]
      clear hwb c0 c1 c2 c3 c4 c5 c6 c7 c8 c9 hbb m0 hI
      by_cases hp : l.peril = p ∧ 0 < a
      · have qp : (l.peril == p) = true := by simpa using hp.1
        have qa : decide (0 < a) = true := by simpa using hp.2
        have CI := Lib.hid (insert_any B d (hoursF (los.take k) (am.take k) p) l.hour wb (by omega) hd1 hd2 hBn hBf hIb)
        rw [hoursF_yes HSAME.out HLX.out HAX.out hp] at CI
        obtain ⟨m, hm⟩ : ∃ m, m = (hoursF (los.take k) (am.take k) p).length := ⟨_, rfl⟩
        rw [← hm] at CI ⊢
        clear hp hm hd1 hd2 hBn hBf hIb hlen
        go_wp2_with fail
        refine CI.out.mono ?_
        rintro e w2 ⟨B2, d2, rfl, h1, h2, h3, h4, h5, hb2⟩
        have hb02 := hb0b.trans (hb2.mono hb0b.size)
        obtain ⟨m2, hm2⟩ : ∃ m, m = (hoursF (los.take (k + 1)) (am.take (k + 1)) p).length := ⟨_, rfl⟩
        rw [← hm2] at h1 ⊢
        have HM2 := Lib.hid hm2
        have H5 := Lib.hid h5
        have H3 := Lib.hid h3
        have H4 := Lib.hid h4
        clear hm2 h5 h3 h4 CI hb2
        go_wp2_with fail
        go_roundw
        case rel => exact ⟨k + 1, B2, d2, by omega, by go_num, by rw [← HM2.out], by rw [← HM2.out]; exact h1, h2, H3.out, H4.out, H5.out, hb02⟩
        case measure => simp [intOf]; omega
      · have hno := hoursF_no HSAME.out HLX.out HAX.out hp
        rw [hno] at hd1 hIb ⊢
        obtain ⟨m, hm⟩ : ∃ m, m = (hoursF (los.take (k + 1)) (am.take (k + 1)) p).length := ⟨_, rfl⟩
        rw [← hm] at hd1 ⊢
        have HM2 := Lib.hid hm
        have H5 := Lib.hid hIb
        have H3 := Lib.hid hBn
        have H4 := Lib.hid hBf
        clear hno hm hIb hBn hBf hlen
        by_cases hpp : l.peril = p
        · have qp : (l.peril == p) = true := by simpa using hpp
          have qa : decide (0 < a) = false := by simp; omega
          clear hp hpp
          go_wp2_with fail
          go_roundw
          case rel => exact ⟨k + 1, B, d, by omega, by go_num, by rw [← HM2.out], by rw [← HM2.out]; exact hd1, hd2, H3.out, H4.out, H5.out, hb0b⟩
          case measure => simp [intOf]; omega
        · have qp : (l.peril == p) = false := by simpa using hpp
          clear hp hpp
          go_wp2_with fail
          go_roundw
          case rel => exact ⟨k + 1, B, d, by omega, by go_num, by rw [← HM2.out], by rw [← HM2.out]; exact hd1, hd2, H3.out, H4.out, H5.out, hb0b⟩
          case measure => simp [intOf]; omega
    · obtain rfl : k = na := by omega
      rw [List.take_of_length_le (by rw [← HN.out]; exact Nat.le_refl _), List.take_of_length_le (by rw [← HNA.out]; exact Nat.le_refl _)] at hI hlen ⊢
      obtain ⟨nh, hnh⟩ : ∃ m, m = (hoursF los am p).length := ⟨_, rfl⟩
      rw [← hnh] at hlen ⊢
      have HNH := Lib.hid hnh
      obtain ⟨w2, hw2⟩ : ∃ w2 : World, w2 = wr := ⟨_, rfl⟩
      rw [← hw2] at hI hb ⊢
      clear hnh hw2 hd1 hd2 hBn hBf
      obtain ⟨i0, hi, hz0, hz1, hz2⟩ := info_parts Tryz.infoPoint
      go_wp2_with fail
      go_loopw [12, 14, 15, 16, 17, 49] (fun v _ _ _ _ ii wx => ∃ (j : Nat), j ≤ nh ∧ ii = .int .i64 j ∧ wx.ownsRow w2.heap.size 55 2 v j ((((hoursF los am p).take j).map fun t => (⟨t, sumAt los am p t⟩ : P2)).flatMap P2.cells) ∧ Below w2.heap.size w2 wx) (fun _ _ _ _ _ ii _ => nh - (intOf ii).toNat)
      case atStart => exact ⟨0, Nat.zero_le _, rfl, own_nil _ _ _ _, Below.refl _ _⟩
      case round =>
        obtain ⟨j, hj, rfl, hown, hbx⟩ := hrel
        obtain ⟨V, vc, rfl, _⟩ := own_shape hown
        have hb0x := hb.trans (hbx.mono hb.size)
        by_cases hjn : j < nh
        case neg =>
          obtain rfl : j = nh := by omega
          rw [List.take_of_length_le (by rw [← HNH.out]; exact Nat.le_refl _)] at hown
          go_wp2_with fail
          go_ret2
          refine ⟨_, rfl, ?_, hb0x⟩
          rw [HX.out]
          unfold ptsF
          rw [List.length_map, ← HNH.out]
          exact own_base hown hb.size
        obtain ⟨h, hh, _⟩ := drop_cons (xs := hoursF los am p) (i := j) (by rw [← HNH.out]; exact hjn)
        obtain ⟨hbk, hof, rfl, _, hbh, h0⟩ := (hI.below hbx).at_ hh
        have HH := Lib.hid hh
        obtain ⟨bp, hbp⟩ : ∃ bp, bp = wr.heap.size := ⟨_, rfl⟩
        obtain ⟨wp, hwp⟩ : ∃ wp : World, wp = wr.alloc (.cells #[.int .i64 h, .int .i64 0] 55) := ⟨_, rfl⟩
        have hbw : Below wr.heap.size wr wp := by rw [hwp]; exact (Below.refl _ _).alloc (Nat.le_refl _) _
        have hhp : wp.heap[bp]? = some (.cells #[.int .i64 h, .int .i64 0] 55 (0, 0)) := by rw [hwp, hbp]; exact heap_alloc_new _ _
        have hownp := own_below hown hbw
        have hb2p := hbx.trans (hbw.mono hbx.size)
        have HF : Hid (∀ g, (Value.slice V j vc).ownBlock = some g → g < bp) := fun g hg => by have := own_lt hown g hg; omega
        have hbp2 : w2.heap.size ≤ bp := by rw [hbp]; exact hbx.size
        go_upto_region 16 with fail
        rw [← hwp, ← hbp]
        have HBP := Lib.hid hbp
        clear hh hbp hwp hbw hown hbx hb0x h0
        go_wp2_with fail
        go_loopw [16, 17, 57] (fun _ _ ii wy => ∃ (i : Nat), i ≤ k ∧ ii = .int .i64 i ∧ wy.heap[bp]? = some (.cells #[.int .i64 h, .int .i64 (sumAt (los.take i) (am.take i) p h)] 55 (0, 0)) ∧ wy.ownsRow w2.heap.size 55 2 (.slice V j vc) j ((((hoursF los am p).take j).map fun t => (⟨t, sumAt los am p t⟩ : P2)).flatMap P2.cells) ∧ Below w2.heap.size w2 wy) (fun _ _ ii _ => k - (intOf ii).toNat)
        case atStart => exact ⟨0, Nat.zero_le _, rfl, by simpa [sumAt] using hhp, hownp, hb2p⟩
        case round =>
          obtain ⟨i, hik, rfl, hhi, hown, hbx⟩ := hrel
          clear hhp hownp hb2p
          have hb0x := hb.trans (hbx.mono hb.size)
          by_cases hin : i < k
          case neg =>
            obtain rfl : i = k := by omega
            rw [List.take_of_length_le (by rw [← HN.out]; exact Nat.le_refl _), List.take_of_length_le (by rw [← HNA.out]; exact Nat.le_refl _)] at hhi
            obtain ⟨s, hs⟩ : ∃ s, s = sumAt los am p h := ⟨_, rfl⟩
            rw [← hs] at hhi
            have HS := Lib.hid hs
            have d0 : wr.cell? ⟨bp, 0, none⟩ = some (.int .i64 h) := by simp [World.cell?, hhi]
            have d1 : wr.cell? ⟨bp, 1, none⟩ = some (.int .i64 s) := by simp [World.cell?, hhi]
            clear hs
            have hsz := hbx.size
            go_wp2_with (at_builtin; refine wpList_append_own _ rfl (.tmp 81) (.tmp 83) 56 rfl w2.heap.size 55 i0 _ 2 16 Tryz.underlying56 hi hz0 hz1 hz2 rfl (by decide) _ j _ rfl (own_below hown ((Below.refl _ _).alloc (Nat.le_refl _) _)) ⟨wr.heap.size, 0, none⟩ 1 1 (P2.cells ⟨h, s⟩) rfl rfl ?c1 ?c2 ?c3 ?c4 ?c5 ?_)
            case c1 => exact cell_new wr (P2.cells ⟨h, s⟩) 55
            case c2 => intro u hu; simp [P2.cells] at hu; rcases hu with rfl | rfl <;> rfl
            case c3 => unfold maxLen; omega
            case c4 => omega
            case c5 => simp; omega
            intro v' w8 hown8 hg8 _
            have hb8 : Below w2.heap.size w2 w8 := (hbx.alloc hbx.size _).grown hg8 (by simp; omega) (fun g' hg' => own_low hown g' hg')
            obtain ⟨V', vc', rfl, _⟩ := own_shape hown8
            rw [HS.out, ← List.map_take, pts_next HH.out] at hown8
            clear hg8 hown hhi
            go_wp2_with fail
            go_roundw
            case rel => exact ⟨j + 1, by omega, by go_num, hown8, hb8⟩
            case measure => simp [intOf]; omega
          obtain ⟨l, hl, _⟩ := drop_cons (xs := los) (i := i) (by rw [← HN.out]; exact hin)
          obtain ⟨a, ha, _⟩ := drop_cons (xs := am) (i := i) (by rw [← HNA.out]; exact hin)
          obtain ⟨b, off, rfl, _, hbl, c0, c1, c2, c3, c4, c5, c6, c7, c8, c9⟩ := (hL.below hb0x).at_ hl
          obtain ⟨b2, off2, rfl, _, hbm, m0⟩ := (hM.below hb0x).at_ ha
          have hpo := (pairOk_iff l a).1 (List.all_eq_true.1 HALL.out _ (List.mem_of_getElem? (zip_get hl ha)))
          have hsn := Lib.hid (sumAt_next HSAME.out hl ha p h)
          have hsb := sumAt_bd (los := los) HAMB.out i p h
          obtain ⟨s, hs⟩ : ∃ s, s = sumAt (los.take i) (am.take i) p h := ⟨_, rfl⟩
          rw [← hs] at hsb hhi hsn
          have hsm := HSUM.out
          clear hl ha hs
          obtain ⟨wb, hwb⟩ : ∃ wb : World, wb = wr.alloc (.cells #[.int .i64 l.id, .int .i64 l.pol, .int .i64 l.risk, .int .i64 l.hour, .int .i64 l.peril, .int .i64 l.area, .int .i64 l.cur, .int .i64 l.sum, .int .i64 l.amt, .int .i64 l.paid] 92) := ⟨_, rfl⟩
          have hbb : Below wr.heap.size wr wb := by rw [hwb]; exact (Below.refl _ _).alloc (Nat.le_refl _) _
          have hbxb := hbx.trans (hbb.mono hbx.size)
          have p3 : wb.cell? ⟨wr.heap.size, 3, none⟩ = some (.int .i64 l.hour) := by rw [hwb]; simp
          have p4 : wb.cell? ⟨wr.heap.size, 4, none⟩ = some (.int .i64 l.peril) := by rw [hwb]; simp
          have m0b : wb.cell? ⟨b2, off2 + i, none⟩ = some (.int .i64 a) := (hbb.cell (p := ⟨b2, _, none⟩) hbm).trans m0
          have hhb := (hbb.block bp (lt_of_heap1 hhi)).trans hhi
          have hownb := own_below hown hbb
          have d1 : wb.cell? ⟨bp, 1, none⟩ = some (.int .i64 s) := by simp [World.cell?, hhb]
          have e1 : wb.frozen? ⟨bp, 1, none⟩ = false := by simp [World.frozen?, hhb]
          go_upto_region 19 with fail
          rw [← hwb]
          clear hwb c0 c1 c2 c3 c4 c5 c6 c7 c8 c9 hbb m0 hhi hown hbx hb0x
          by_cases hp : l.peril = p ∧ l.hour = h
          · have qp : (l.peril == p) = true := by simpa using hp.1
            have qh : (l.hour == h) = true := by simpa using hp.2
            have hsn2 : Hid (sumAt (los.take (i + 1)) (am.take (i + 1)) p h = s + a) := by show _ = _; rw [hsn.out, if_pos hp]
            clear hp
            have hwr : IntKind.i64.wrap (s + a) = s + a := IntWalk.i64_in _ (by omega)
            have HWR := Lib.hid hwr
            clear hwr
            go_wp2_with fail
            go_still_tail 8, (by kernel_rfl)
            rw [HWR.out]
            go_wp2_with fail
            go_roundw
            case rel =>
              have k1 : wb.grownBy ((wb.setCell ⟨bp, 1, none⟩ (.int .i64 (s + a))).drew) (some bp) := only_drewN (only_setCell (only_refl _ _) (.inl rfl) _) 1
              refine ⟨i + 1, by omega, by go_num, ?_, ?_, ?_⟩
              · rw [hsn2.out]
                show (wb.setCell ⟨bp, 1, none⟩ (.int .i64 (s + a))).heap[bp]? = _
                simp [World.setCell, Array.getElem?_modify, hhb]
              · exact hownb.kept k1 (.inr fun e => by have := HF.out bp e; omega)
              · exact (hbxb.setCell hbp2 _).drew
            case measure => simp [intOf]; omega
          · have hsn2 : Hid (sumAt (los.take (i + 1)) (am.take (i + 1)) p h = s) := by show _ = _; rw [hsn.out, if_neg hp, Int.add_zero]
            by_cases hpp : l.peril = p
            · have qp : (l.peril == p) = true := by simpa using hpp
              have qh : (l.hour == h) = false := by simp; exact fun e => hp ⟨hpp, e⟩
              clear hp hpp
              go_wp2_with fail
              go_roundw
              case rel => exact ⟨i + 1, by omega, by go_num, by rw [hsn2.out]; exact hhb, hownb, hbxb⟩
              case measure => simp [intOf]; omega
            · have qp : (l.peril == p) = false := by simpa using hpp
              clear hp hpp
              go_wp2_with fail
              go_roundw
              case rel => exact ⟨i + 1, by omega, by go_num, by rw [hsn2.out]; exact hhb, hownb, hbxb⟩
              case measure => simp [intOf]; omega

end Go.Proofs.YtilkcailpkebdaaGreat

/-
  treatyref25.SameChoice on two choices with the same data.
-/
namespace Go.Proofs.YtilkcailpkebdaaGreat
open Go.RowKit
set_option linter.unusedVariables false

theorem sameB_refl (xs : List Int) : sameB xs xs = true := by simp [sameB]

set_option maxHeartbeats 1000000 in
theorem sameChoice_self (W T R W' T' R' : Option Addr) (wc tc rc wc' tc' rc' : Nat) (ws : List Win) (ts rs : List Int) (tot : Int) (w : World)
    (hwl : ws.length ≤ 9223372036854775807) (htl : ts.length ≤ 9223372036854775807) (hrl : rs.length ≤ 9223372036854775807)
    (hW : Wins w 0 W ws) (hT : Ints w 0 T ts) (hR : Ints w 0 R rs) (hW' : Wins w 0 W' ws) (hT' : Ints w 0 T' ts) (hR' : Ints w 0 R' rs) :
    Calls Tryz.prog 11 #[.agg #[.slice W ws.length wc, .slice T ts.length tc, .slice R rs.length rc, .int .i64 tot], .agg #[.slice W' ws.length wc', .slice T' ts.length tc', .slice R' rs.length rc', .int .i64 tot]] w fun e w' => e = .returned (.bool true) ∧ Below w.heap.size w w' := by
  have C1 : Hid (∀ V, Wins V 0 W ws → Wins V 0 W' ws → _) := fun V h h' => sameWindows_self W W' wc wc' ws V hwl h h'
  have C2 : Hid (∀ V, Ints V 0 T ts → Ints V 0 T' ts → _) := fun V h h' => sameInts_any T T' tc tc' ts ts V h h' htl htl
  have C3 : Hid (∀ V, Ints V 0 R rs → Ints V 0 R' rs → _) := fun V h h' => sameInts_any R R' rc rc' rs rs V h h' hrl hrl
  rw [sameB_refl] at C2 C3
  obtain ⟨nw, hnw⟩ : ∃ k, k = ws.length := ⟨_, rfl⟩
  obtain ⟨nt, hnt⟩ : ∃ k, k = ts.length := ⟨_, rfl⟩
  obtain ⟨nr, hnr⟩ : ∃ k, k = rs.length := ⟨_, rfl⟩
  rw [← hnw] at C1 ⊢
  rw [← hnt] at C2 ⊢
  rw [← hnr] at C3 ⊢
  clear hnw hnt hnr hwl htl hrl
  go_enter Tryz.func11, Tryz.ntmps11
  go_wp2_with fail
  obtain ⟨w1, hw1⟩ : ∃ w1 : World, w1 = (w.alloc (.cells #[.slice W nw wc, .slice T nt tc, .slice R nr rc, .int .i64 tot] 32)).alloc (.cells #[.slice W' nw wc', .slice T' nt tc', .slice R' nr rc', .int .i64 tot] 32) := ⟨_, rfl⟩
  have hb1 : Below w.heap.size w w1 := by rw [hw1]; exact (below_alloc w _).alloc (by simp) _
  have hA : w1.heap[w.heap.size]? = some (.cells #[.slice W nw wc, .slice T nt tc, .slice R nr rc, .int .i64 tot] 32 (0, 0)) := by
    rw [hw1]; exact (Below.heap_alloc _ _ _ (by simp)).trans (heap_alloc_new w _)
  have hB : w1.heap[w.heap.size + 1]? = some (.cells #[.slice W' nw wc', .slice T' nt tc', .slice R' nr rc', .int .i64 tot] 32 (0, 0)) := by
    have h := heap_alloc_new (w.alloc (.cells #[.slice W nw wc, .slice T nt tc, .slice R nr rc, .int .i64 tot] 32)) (.cells #[.slice W' nw wc', .slice T' nt tc', .slice R' nr rc', .int .i64 tot] 32)
    have e : (w.alloc (.cells #[.slice W nw wc, .slice T nt tc, .slice R nr rc, .int .i64 tot] 32)).heap.size = w.heap.size + 1 := by simp
    rw [e] at h; rw [hw1]; exact h
  have hs1 : w.heap.size + 1 < w1.heap.size := by rw [hw1]; simp
  rw [← hw1]
  clear hw1
  refine (C1.out _ (hW.below hb1) (hW'.below hb1)).mono ?_
  rintro e w2 ⟨rfl, hb2⟩
  have hA2 := (hb2.block _ (by omega)).trans hA
  have hB2 := (hb2.block _ (by omega)).trans hB
  have hs2 := Nat.lt_of_lt_of_le hs1 hb2.size
  have hb02 := hb1.trans (hb2.mono hb1.size)
  have a1 : w2.cell? ⟨w.heap.size, 1, none⟩ = some (.slice T nt tc) := by simp [World.cell?, hA2]
  have d1 : w2.cell? ⟨w.heap.size + 1, 1, none⟩ = some (.slice T' nt tc') := by simp [World.cell?, hB2]
  clear hb1 hb2 hA hB hs1
  go_wp2_with fail
  refine (C2.out _ (hT.below hb02) (hT'.below hb02)).mono ?_
  rintro e w3 ⟨rfl, hb3⟩
  have hA3 := (hb3.block _ (by omega)).trans hA2
  have hB3 := (hb3.block _ (by omega)).trans hB2
  have hs3 := Nat.lt_of_lt_of_le hs2 hb3.size
  have hb03 := hb02.trans (hb3.mono hb02.size)
  have a2 : w3.cell? ⟨w.heap.size, 2, none⟩ = some (.slice R nr rc) := by simp [World.cell?, hA3]
  have d2 : w3.cell? ⟨w.heap.size + 1, 2, none⟩ = some (.slice R' nr rc') := by simp [World.cell?, hB3]
  clear hb02 hb3 hA2 hB2 hs2 a1 d1
  go_wp2_with fail
  refine (C3.out _ (hR.below hb03) (hR'.below hb03)).mono ?_
  rintro e w4 ⟨rfl, hb4⟩
  have hA4 := (hb4.block _ (by omega)).trans hA3
  have hB4 := (hb4.block _ (by omega)).trans hB3
  have a3 : w4.cell? ⟨w.heap.size, 3, none⟩ = some (.int .i64 tot) := by simp [World.cell?, hA4]
  have d3 : w4.cell? ⟨w.heap.size + 1, 3, none⟩ = some (.int .i64 tot) := by simp [World.cell?, hB4]
  have hb04 := hb03.trans (hb4.mono hb03.size)
  clear hb03 hb4 hA3 hB3 a2 d2
  go_wp2_with fail
  go_ret
  exact ⟨rfl, hb04⟩

end Go.Proofs.YtilkcailpkebdaaGreat

/-
  Arguments that came in: slices of ints and of structs of ints, opened to cells.
-/
namespace Go.Proofs.YtilkcailpkebdaaGreat
open Go.ChangeShapes Go.WideShapes Go.Deep Go.RowKit
set_option linter.unusedVariables false

theorem addr_add_none (b off i : Nat) : (({ block := b, off := off } : Addr).add i) = ⟨b, off + i, none⟩ := by
  unfold Addr.add; split
  · rename_i h; rw [h]; simp
  · rfl

section
variable {H : Type} {enc : TypeId × Value → H} {P : Program} {w : World} {spare : Nat → Bool} {held : Bool}

theorem open_rows {t e : TypeId} {fs : Array Field} {fuel : Nat} {cs : List Value} {x : DataW H × List MemPlace} (ht : P.underlying t = some (.slice e)) (he : P.underlying e = some (.struct fs))
    (hone : oneCellFields P fs = true) (hC : P.cellsOf e = fs.size) (hint : ∀ (j : Nat) (f : Field), fs[j]? = some f → P.underlying f.type = some (.int .i64)) (h0 : 0 < fs.size)
    (h : DataW.trod enc P w 0 (fun _ => true) held fuel t cs = some x) :
    ∃ (A : Option Addr) (n c : Nat) (F : Nat → Nat → Int), cs = [.slice A n c] ∧ n ≤ c ∧ c ≤ maxLen ∧ (0 < n → ∃ b off, A = some ⟨b, off, none⟩ ∧ b < w.heap.size ∧ ∀ i, i < n → ∀ j, j < fs.size → w.cell? ⟨b, off + i * fs.size + j, none⟩ = some (.int .i64 (F i j))) := by
  rcases open_slice ht h with ⟨rfl, _⟩ | ⟨a, len, cap, m, n, D, Pl, hcs, hb, hl, hm, hmm, hx, hi⟩
  · exact ⟨none, 0, 0, fun _ _ => 0, rfl, Nat.le_refl _, Nat.zero_le _, fun h => absurd h (by omega)⟩
  · have hcell : ∀ i j, i < m → j < fs.size → ∃ z : Int, w.cell? (a.add (i * fs.size + j)) = some (.int .i64 z) := by
      intro i j him hj
      obtain ⟨cs', hc, ht'⟩ := hi i him
      rw [hC] at hc
      obtain ⟨ys, n', hn', hy, hlen, hyl, hf⟩ := DataW.trod_struct he ht'
      obtain ⟨_, hcl, hat⟩ := World.cells?_some hc
      obtain ⟨f, hfj⟩ : ∃ f, fs[j]? = some f := ⟨_, Array.getElem?_eq_getElem hj⟩
      obtain ⟨ho, hk⟩ := hone_of hone j f hfj
      have h1 := hf j f hfj
      rw [ho, hk] at h1
      have hone' : (cs'.drop j).take 1 = [cs'[j]'(by omega)] := by
        rw [List.drop_eq_getElem_cons (by omega)]
        rfl
      rw [hone'] at h1
      have hys : ys[j]? = some (ys[j]'(by omega)) := List.getElem?_eq_getElem (by omega)
      obtain ⟨z, e0, _, _⟩ := DataW.trod_int (hint j f hfj) (h1.trans hys)
      refine ⟨z, ?_⟩
      rw [← Go.Deep.add_add, hat j hj, List.getElem?_eq_getElem (by omega)]
      simp only [List.cons.injEq, and_true] at e0
      rw [e0]
    have hm2 : len ≤ m := by rw [hmm]; split <;> omega
    refine ⟨some a, len, cap, fun i j => if hh : i < m ∧ j < fs.size then (hcell i j hh.1 hh.2).choose else 0, hcs, hl, hm, fun hp => ?_⟩
    obtain ⟨z, hz⟩ := hcell 0 0 (by omega) h0
    obtain ⟨b, off, sp⟩ := a
    have hz' : w.cell? ⟨b, off, sp⟩ = some (.int .i64 z) := by simpa [Addr.add] using hz
    obtain rfl : sp = none := by simpa using World.cell?_spot hz'
    refine ⟨b, off, rfl, World.block_lt_of_cell? w _ hz', fun i hin j hj => ?_⟩
    have hh : i < m ∧ j < fs.size := ⟨by omega, hj⟩
    have := (hcell i j hh.1 hh.2).choose_spec
    have hadd : (({ block := b, off := off } : Addr).add (i * fs.size + j)) = ⟨b, off + i * fs.size + j, none⟩ := by rw [addr_add_none, Nat.add_assoc]
    dsimp only
    rw [dif_pos hh]
    exact (congrArg w.cell? hadd.symm).trans this

theorem open_pairs {r : Reach} {b0 : Nat} {t e : TypeId} {f0 f1 : Field} {v : Value} {d : DataW H} {p : List MemPlace} (ht : P.underlying t = some (.slice e)) (he : P.underlying e = some (.struct #[f0, f1]))
    (hone : oneCellFields P #[f0, f1] = true) (hC : P.cellsOf e = 2) (i0 : P.underlying f0.type = some (.int .i64)) (i1 : P.underlying f1.type = some (.int .i64))
    (hv : Value.okWide P w r b0 t v) (h : DataW.Trod enc P w 0 (fun _ => true) held t v d p) :
    ∃ (A : Option Addr) (c : Nat) (xs : List P2), v = .slice A xs.length c ∧ Pairs w 0 A xs ∧ xs.length ≤ 9223372036854775807 := by
  obtain ⟨a0, len, cap, rfl⟩ := okWide_slice ht hv
  obtain ⟨fuel, hf⟩ := h
  obtain ⟨A, n, c, F, hcs, hnc, hcm, hc⟩ := open_rows ht he hone (by simpa using hC) (fun j f hj => by
    match j, hj with
    | 0, hj => simp at hj; subst hj; exact i0
    | 1, hj => simp at hj; subst hj; exact i1
    | j + 2, hj => simp at hj) (by simp) hf
  simp [Value.cells] at hcs
  obtain ⟨rfl, rfl, rfl⟩ := hcs
  refine ⟨a0, cap, (List.range len).map fun i => ⟨F i 0, F i 1⟩, by simp, fun hp => ?_, by simp; unfold maxLen at hcm; omega⟩
  obtain ⟨b, off, e0, hb, hcell⟩ := hc (by simpa using hp)
  refine ⟨b, off, e0, Nat.zero_le _, hb, fun i x hx j u hu => ?_⟩
  simp only [List.getElem?_map, Option.map_eq_some_iff] at hx
  obtain ⟨y, ⟨k, hk, rfl⟩, rfl⟩ := hx
  obtain ⟨hkl, hk⟩ := List.getElem?_eq_some_iff.1 hk
  have hki : k = i := by simpa using hk.symm
  subst hki
  have hlen : k < len := by simpa using hkl
  match j, hu with
  | 0, hu => simp [P2.cells] at hu; subst hu; exact hcell k hlen 0 (by simp)
  | 1, hu => simp [P2.cells] at hu; subst hu; exact hcell k hlen 1 (by simp)
  | j + 2, hu => simp [P2.cells] at hu

theorem open_intsL {r : Reach} {b0 : Nat} {t e : TypeId} {v : Value} {d : DataW H} {p : List MemPlace} (ht : P.underlying t = some (.slice e)) (he : P.underlying e = some (.int .i64)) (hC : P.cellsOf e = 1)
    (hv : Value.okWide P w r b0 t v) (h : DataW.Trod enc P w 0 (fun _ => true) held t v d p) :
    ∃ (A : Option Addr) (c : Nat) (xs : List Int), v = .slice A xs.length c ∧ Ints w 0 A xs ∧ xs.length ≤ 9223372036854775807 := by
  obtain ⟨a0, len, cap, rfl⟩ := okWide_slice ht hv
  obtain ⟨fuel, hf⟩ := h
  rcases open_ints ht he hC hf with ⟨hcs, _⟩ | ⟨x, l, c, zs, hcs, _, hl, hm, hz, _, hcell, hwz⟩
  · simp [Value.cells] at hcs
    obtain ⟨rfl, rfl, rfl⟩ := hcs
    exact ⟨none, 0, [], rfl, Sl.none_, by simp⟩
  · simp [Value.cells] at hcs
    obtain ⟨rfl, rfl, rfl⟩ := hcs
    have hzl : len ≤ zs.length := by simp at hz; omega
    refine ⟨some x, cap, zs.take len, by simp [hzl], fun hp => ?_, by simp; unfold maxLen at hm; omega⟩
    have hp' : 0 < len := by simp at hp; omega
    have hc0 := hcell 0 (by omega)
    obtain ⟨b, off, sp⟩ := x
    have hz' : w.cell? ⟨b, off, sp⟩ = some (.int .i64 (zs.getD 0 0)) := by simpa [Addr.add] using hc0
    obtain rfl : sp = none := by simpa using World.cell?_spot hz'
    refine ⟨b, off, rfl, Nat.zero_le _, World.block_lt_of_cell? w _ hz', fun i x hx j u hu => ?_⟩
    rw [List.getElem?_map, Option.map_eq_some_iff] at hx
    obtain ⟨y, hy, rfl⟩ := hx
    match j, hu with
    | 0, hu =>
      simp [V1] at hu
      subst hu
      rw [List.getElem?_take] at hy
      split at hy
      · have hi := (List.getElem?_eq_some_iff.1 hy).1
        have := hcell i hi
        rw [show zs.getD i 0 = y by simp [hy]] at this
        simpa [addr_add_none] using this
      · cases hy
    | j + 1, hu => simp [V1] at hu
end

end Go.Proofs.YtilkcailpkebdaaGreat
