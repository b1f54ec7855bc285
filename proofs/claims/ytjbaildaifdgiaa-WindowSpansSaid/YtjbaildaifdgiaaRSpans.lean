/-
  treatyref25.Spans: its contract, at the same plain function.
-/
import Derived.Test.YtjbaildaifdgiaaRSpansDef
import Derived.Test.YtjbaildaifdgiaaRVal
import Derived.Test.YtjbaildaifdgiaaSpans
namespace Go.Proofs.Ytjbaildaifdgiaa
open Go.RowKit
set_option linter.unusedVariables false

set_option maxRecDepth 100000 in
set_option maxHeartbeats 2000000 in
theorem rspans_any (A : Option Addr) (c : Nat) (ps : List P2) (L : Int) (B : Option Addr) (d : Nat) (ls : List P2) (w : World) (hps : ps.length ≤ 1000) (hls : ls.length ≤ 1000) (hp : Pairs w 0 A ps) (hl : Pairs w 0 B ls) :
    Calls Try.prog 27 #[.slice A ps.length c, .int .i64 L, .slice B ls.length d] w fun e w' => ∃ v, e = .returned (.tuple #[v, .int .i64 (chkErr ps L ls)]) ∧ w'.ownsRow w.heap.size 52 2 v (spansOf ps L ls).length ((spansOf ps L ls).flatMap P2.cells) ∧ Below w.heap.size w w' := by
  have CC := Lib.hid (rvalues_any A c ps L B d ls w hps hls hp hl)
  by_cases hce : chkErr ps L ls = 0
  case neg =>
    have HX : Hid (spansOf ps L ls = []) := by unfold spansOf; rw [if_neg hce]; rfl
    have q0 : (chkErr ps L ls != 0) = true := by simpa using hce
    clear hce
    go_enter Try.func27, Try.ntmps27
    go_wp2_with (go_at_call 15; refine CC.out.mono ?_; rintro e w1 ⟨G, cc, rfl, hG, hb1⟩)
    go_ret2
    refine ⟨_, rfl, by rw [HX.out]; exact own_nil _ _ _ _, hb1⟩
  have HCE := Lib.hid hce
  have HX : Hid (spansOf ps L ls = spansF L ls ps ps.length 0) := by unfold spansOf; rw [if_pos hce]; rfl
  have HV : Hid (valuesF ps L ls = valsF L ls ps) := by unfold valuesF; rw [if_pos hce]; rfl
  have GG := Lib.hid (good_of hce)
  have q0 : (chkErr ps L ls != 0) = false := by rw [hce]; rfl
  clear hce
  obtain ⟨n, hn⟩ : ∃ n, n = ps.length := ⟨_, rfl⟩
  obtain ⟨m, hm⟩ : ∃ m, m = ls.length := ⟨_, rfl⟩
  have hlen : ps.length ≤ 1000 := hps
  have CN : Hid (∀ (W : World), Pairs W 0 A ps → ∀ (i j : Nat) (p q : P2), ps[i]? = some p → ps[j]? = some q → i ≤ j → L ≤ q.a - p.a → Calls Try.prog 47 #[.slice A n c, .int .i64 L, .slice B m d, .int .i64 i, .int .i64 j] W fun e w' => e = .returned (.tuple #[.int .i64 0, .bool false]) ∧ Below W.heap.size W w') := by
    intro W h i j p q hi hj hij hL; rw [hn, hm]; exact span_no A c ps L B d ls W h hlen GG.out.pt i j p q hi hj hij hL
  have CY : Hid (∀ (W : World), Pairs W 0 A ps → Pairs W 0 B ls → ∀ (i j : Nat) (p q : P2), ps[i]? = some p → ps[j]? = some q → i ≤ j → q.a - p.a < L → Calls Try.prog 47 #[.slice A n c, .int .i64 L, .slice B m d, .int .i64 i, .int .i64 j] W fun e w' => e = .returned (.tuple #[.int .i64 (recVal (sumT ps i (j - i + 1)) ls), .bool true]) ∧ Below W.heap.size W w') := by
    intro W h h' i j p q hi hj hij hL; rw [hn, hm]; exact span_yes A c ps L B d ls W h h' hlen hls GG.out.pt GG.out.sum i j p q hi hj hij hL
  have hn64 : n ≤ 64 := by rw [hn]; exact GG.out.len
  rw [HV.out, valsF_length, ← hn, ← hm] at CC
  rw [← hn, ← hm]
  have HN := Lib.hid hn
  clear hn hm hps hls hlen
  obtain ⟨i0, hi, hz0, hz1, hz2⟩ := info_parts Try.infoTwo
  go_enter Try.func27, Try.ntmps27
  go_wp2_with (go_at_call 15; refine CC.out.mono ?_; rintro e w1 ⟨G, cc, rfl, hG, hb1⟩)
  have hp1 := hp.below hb1
  have hl1 := hl.below hb1
  have HB1 := Lib.hid hb1
  clear hb1 hp hl
  go_loopg [10, 11, 12, 13, 14, 15] n (fun f v ii _ _ _ _ wr => ∃ (acc : List P2) (i : Nat), ii = .int .i64 i ∧ i ≤ n ∧ n ≤ i + f ∧ acc.length ≤ i ∧ acc ++ spansF L ls ps f i = spansF L ls ps n 0 ∧ wr.ownsRow w1.heap.size 52 2 v acc.length (acc.flatMap P2.cells) ∧ Below w1.heap.size w1 wr)
  case atStart => exact ⟨[], 0, rfl, Nat.zero_le _, by omega, by simp, rfl, own_nil _ _ _ _, Below.refl _ _⟩
  case round =>
    obtain ⟨acc, i, rfl, hi1, hif, hal, hacc, hown, hb⟩ := hrel
    have HACC := Lib.hid hacc
    clear hacc
    by_cases hin : i < n
    case neg =>
      go_wp2_with fail
      go_ret2
      have he : spansOf ps L ls = acc := by
        rw [HX.out, ← HN.out, ← HACC.out, spans_end (by rw [← HN.out]; omega), List.append_nil]
      refine ⟨_, by rw [HCE.out]; rfl, by rw [he]; exact own_mono hown HB1.out.size, HB1.out.trans (hb.mono HB1.out.size)⟩
    obtain ⟨f1, rfl⟩ : ∃ f1, gk = f1 + 1 := ⟨gk - 1, by omega⟩
    obtain ⟨p, hpi, hdi⟩ := drop_cons (xs := ps) (i := i) (by rw [← HN.out]; exact hin)
    have hpo := (ptOk_iff p).1 (GG.out.pt p (List.mem_of_getElem? hpi))
    have HDI := Lib.hid hdi
    have HPI := Lib.hid hpi
    clear hdi hpi
    obtain ⟨g, goff, rfl, _, hgl, g0⟩ := (hG.below hb).at_ (valsF_get L ls ps i (by rw [← HN.out]; omega))
    obtain ⟨g', goff', hA', _, _, g1⟩ := (hG.below hb).at_ (valsF_get L ls ps (i + 1) (by rw [← HN.out]; omega))
    obtain ⟨rfl, rfl⟩ : g = g' ∧ goff = goff' := by simpa using hA'
    clear hA'
    by_cases hve : valAt L ls ps i = valAt L ls ps (i + 1)
    · have HS := Lib.hid (spans_eq (f := f1) HPI.out hve)
      have qe : (valAt L ls ps i == valAt L ls ps (i + 1)) = true := by rw [hve]; simp
      clear hve
      go_wp2_with fail
      go_quiet (fail)
      go_wp2_with fail
      go_roundg f1
      case measure => omega
      case rel => exact ⟨acc, i + 1, by go_num, by omega, by omega, by omega, by rw [← HS.out]; exact HACC.out, hown, below_drewN hb _⟩
    · have qe : (valAt L ls ps i == valAt L ls ps (i + 1)) = false := by simpa using hve
      obtain ⟨j0, hj0⟩ := findAt_some HDI.out hve
      have hjb := findAt_bd hj0
      rw [← HN.out] at hjb
      have HS := Lib.hid (spans_hit (f := f1) HPI.out hve hj0)
      have HF := Lib.hid hj0
      clear hve hj0
      go_wp2_with fail
      go_quiet (fail)
      go_wp2_with fail
      clear g1
      obtain ⟨wo, hwo⟩ : ∃ wo : World, wo = wr.drewN nq := ⟨_, rfl⟩
      have hbo : Below w1.heap.size w1 wo := by rw [hwo]; exact below_drewN hb _
      rw [← hwo]
      have hown1 : wo.ownsRow w1.heap.size 52 2 u10 acc.length (acc.flatMap P2.cells) := by rw [hwo]; exact hown
      obtain ⟨sv, hsv⟩ : ∃ sv : Value, sv = u10 := ⟨_, rfl⟩
      rw [← hsv] at hown1 ⊢
      clear hwo hb hown g0 hgl hsv
      go_loopg [12, 13, 14, 15] (n - i) (fun q nn jj _ _ wq => ∃ (k nx : Nat), i ≤ k ∧ k ≤ n ∧ q = k - i ∧ jj = .int .i64 ((k : Int) - 1) ∧ nn = .int .i64 nx ∧ nx ≤ n ∧ NextIs L ls ps i p.a k nx ∧ wq.ownsRow w1.heap.size 52 2 sv acc.length (acc.flatMap P2.cells) ∧ Below w1.heap.size w1 wq)
      case atStart =>
        refine ⟨n, n, by omega, Nat.le_refl _, rfl, rfl, rfl, Nat.le_refl _, ?_, hown1, hbo⟩
        rw [HN.out]; exact NextIs.start
      case round =>
        obtain ⟨k, nx, hk1, hk2, hq, rfl, rfl, hnx, hnext, hownq, hbq⟩ := hrel
        have HNX := Lib.hid hnext
        have HQ := Lib.hid hq
        clear hnext hq hown1 hbo
        by_cases hki : k = i
        case neg =>
          obtain ⟨j, rfl⟩ : ∃ j, k = j + 1 := ⟨k - 1, by omega⟩
          have ei : ((j + 1 : Nat) : Int) - 1 = (j : Int) := by omega
          rw [ei]
          clear ei
          have hij : i ≤ j := by omega
          have hjn : j < n := by omega
          have qi : decide (i ≤ j) = true := by simpa using hij
          obtain ⟨q, hqj, hdj⟩ := drop_cons (xs := ps) (i := j) (by rw [← HN.out]; exact hjn)
          have HIF := Lib.hid (hit_iff (L := L) (ls := ls) (i := i) (h0 := p.a) hqj)
          have HQJ := Lib.hid hqj
          clear hqj hdj
          by_cases hle : L ≤ q.a - p.a
          · go_wp2_with (go_at_call 47; refine (CN.out _ (hp1.below hbq) i j p q HPI.out HQJ.out hij hle).mono ?_; rintro e w2 ⟨rfl, hb2⟩)
            go_quiet (fail)
            go_wp2_with fail
            go_roundg (j - i)
            case measure => rw [HQ.out]; omega
            case rel => exact ⟨j, nx, hij, by omega, rfl, rfl, rfl, hnx, HNX.out.no (fun h => by have := (HIF.out.1 h).1; omega), own_below hownq (below_drewN hb2 _), below_drewN (hbq.trans (hb2.mono hbq.size)) _⟩
          · have hlt : q.a - p.a < L := by omega
            have hrb := recVal_bd (sumT ps i (j - i + 1)) ls
            have hvb := valAt_bd L ls ps (j + 1)
            rw [← HN.out] at hvb
            go_wp2_with (go_at_call 47; refine (CY.out _ (hp1.below hbq) (hl1.below hbq) i j p q HPI.out HQJ.out hij hlt).mono ?_; rintro e w2 ⟨rfl, hb2⟩)
            have hbw : Below w1.heap.size w1 w2 := hbq.trans (hb2.mono hbq.size)
            have hown2 := own_below hownq hb2
            obtain ⟨g', goff', hA', _, hgl, g0⟩ := (hG.below hbw).at_ (valsF_get L ls ps i (by rw [← HN.out]; omega))
            obtain ⟨rfl, rfl⟩ : g = g' ∧ goff = goff' := by simpa using hA'
            obtain ⟨g', goff', hA2, _, _, g1⟩ := (hG.below hbw).at_ (valsF_get L ls ps (j + 1) (by rw [← HN.out]; omega))
            obtain ⟨rfl, rfl⟩ : g = g' ∧ goff = goff' := by simpa using hA2
            clear hA' hA2 hb2 hbq hownq
            by_cases hhit : recVal (sumT ps i (j - i + 1)) ls + valAt L ls ps (j + 1) = valAt L ls ps i
            · have HH := Lib.hid (HIF.out.2 ⟨hlt, hhit⟩)
              have qh : (recVal (sumT ps i (j - i + 1)) ls + valAt L ls ps (j + 1) == valAt L ls ps i) = true := by simpa using hhit
              clear hhit
              go_quiet (fail)
              go_wp2_with fail
              go_roundg (j - i)
              case measure => rw [HQ.out]; omega
              case rel => exact ⟨j, j + 1, hij, by omega, rfl, rfl, by go_num, by omega, NextIs.yes HH.out, hown2, below_drewN hbw _⟩
            · have qh : (recVal (sumT ps i (j - i + 1)) ls + valAt L ls ps (j + 1) == valAt L ls ps i) = false := by simpa using hhit
              have HH : Hid (¬ Hit L ls ps i p.a j) := fun h => hhit (HIF.out.1 h).2
              clear hhit
              go_quiet (fail)
              go_wp2_with fail
              go_roundg (j - i)
              case measure => rw [HQ.out]; omega
              case rel => exact ⟨j, nx, hij, by omega, rfl, rfl, rfl, hnx, HNX.out.no HH.out, hown2, below_drewN hbw _⟩
        subst hki
        have hnj := HNX.out.find HF.out
        obtain rfl : nx = j0 + 1 := hnj
        clear HNX
        have hlow := own_low hownq
        have ej : ((j0 + 1 : Nat) : Int) = (j0 : Int) + 1 := by omega
        rw [ej]
        clear ej
        go_wp2_with (at_builtin; refine wpList_append_own _ rfl (.tmp 78) (.tmp 83) 49 rfl w1.heap.size 52 i0 _ 2 16 Try.underlying49 hi hz0 hz1 hz2 rfl (by decide) _ _ _ rfl (hownq.alloc _) ⟨wr.heap.size, 0, none⟩ 1 1 [.int .i64 k, .int .i64 j0] rfl rfl ?c1 ?c2 ?c3 ?c4 ?c5 ?_)
        case c1 => exact cell_new _ _ _
        case c2 => intro u hu; simp at hu; rcases hu with rfl | rfl <;> rfl
        case c3 => unfold maxLen; omega
        case c4 => omega
        case c5 => have := hbq.size; simp; omega
        intro v' w4 hown4 hg4 _
        have hb4 : Below w1.heap.size w1 w4 := (hbq.alloc hbq.size _).grown hg4 (by have := hbq.size; simp; omega) hlow
        clear hbq hownq
        go_wp2_with fail
        go_roundg f1
        case measure => omega
        case rel =>
          refine ⟨acc ++ [⟨k, j0⟩], j0 + 1, by go_num, by omega, by omega, by simp; omega, ?_, ?_, hb4⟩
          · have := HACC.out
            rw [HS.out] at this
            rw [List.append_assoc]; exact this
          · rw [List.flatMap_append, List.length_append]; exact hown4

end Go.Proofs.Ytjbaildaifdgiaa
