/-
  window.Spans: its contract.
-/
import Derived.Test.YtjbaildaifdgiaaSpansDef
import Derived.Test.YtjbaildaifdgiaaVal
import Derived.Test.YtjbaildaifdgiaaOwn
namespace Go.Proofs.Ytjbaildaifdgiaa
open Go.RowKit
set_option linter.unusedVariables false

theorem own_mono {w : World} {base base' : Nat} {e : TypeId} {size n : Nat} {v : Value} {xs : List Value} (h : w.ownsRow base e size v n xs) (hb : base' ≤ base) : w.ownsRow base' e size v n xs := by
  refine ⟨h.1, ?_⟩
  rcases h.2 with h0 | ⟨g, cap, cur, hv, hg, r⟩
  · exact .inl h0
  · exact .inr ⟨g, cap, cur, hv, by omega, r⟩

theorem Try.infoTwo : (Try.prog.info? 52).map (fun i => (i.zero, i.size, i.bytes)) = some (some (.agg #[.int .i64 0, .int .i64 0]), 2, 16) := by kernel_rfl

set_option maxRecDepth 100000 in
set_option maxHeartbeats 2000000 in
theorem spans_any (A : Option Addr) (c : Nat) (ps : List P2) (L : Int) (B : Option Addr) (d : Nat) (ls : List P2) (w : World) (hps : ps.length ≤ 1000) (hls : ls.length ≤ 1000) (hp : Pairs w 0 A ps) (hl : Pairs w 0 B ls) :
    Calls Try.prog 26 #[.slice A ps.length c, .int .i64 L, .slice B ls.length d] w fun e w' => ∃ v, e = .returned (.tuple #[v, .int .i64 (chkErr ps L ls)]) ∧ w'.ownsRow w.heap.size 52 2 v (spansOf ps L ls).length ((spansOf ps L ls).flatMap P2.cells) ∧ Below w.heap.size w w' := by
  have CC := Lib.hid (values_any A c ps L B d ls w hps hls hp hl)
  by_cases hce : chkErr ps L ls = 0
  case neg =>
    have HX : Hid (spansOf ps L ls = []) := by unfold spansOf; rw [if_neg hce]; rfl
    have q0 : (chkErr ps L ls != 0) = true := by simpa using hce
    clear hce
    go_enter Try.func26, Try.ntmps26
    go_wp2_with fail
    go_step3
    go_wp2_with (go_at_call 24; refine CC.out.mono ?_; rintro e w1 ⟨G, cc, rfl, hG, hb1⟩)
    rw [Exit.noGoto_ret]
    go_ret2
    refine ⟨_, rfl, by rw [HX.out]; exact own_nil _ _ _ _, hb1⟩
  have HCE := Lib.hid hce
  have HX : Hid (spansOf ps L ls = spansF L ls ps ps.length 0) := by unfold spansOf; rw [if_pos hce]; rfl
  have HV : Hid (valuesF ps L ls = valsF L ls ps) := by unfold valuesF; rw [if_pos hce]; rfl
  have GG := Lib.hid (good_of hce)
  have q0 : (chkErr ps L ls != 0) = false := by rw [hce]; rfl
  clear hce
  obtain ⟨n, hn⟩ : ∃ n, n = ps.length := ⟨_, rfl⟩
  obtain ⟨m, hm⟩ : ∃ m, m = ls.length := ⟨_, rfl⟩
  have CR : Hid (∀ (t : Int) (W : World), Pairs W 0 B ls → Calls Try.prog 21 #[.int .i64 t, .slice B m d] W fun e w' => e = .returned (.tuple #[.int .i64 (recVal t ls), .int .i64 (recErr t ls)]) ∧ Below W.heap.size W w') := by
    intro t W h; rw [hm]; exact recovery_any t B d ls W hls h
  have hn64 : n ≤ 64 := by rw [hn]; exact GG.out.len
  rw [HV.out, valsF_length, ← hn, ← hm] at CC
  rw [← hn, ← hm]
  have HN := Lib.hid hn
  clear hn hm hps hls
  obtain ⟨i0, hi, hz0, hz1, hz2⟩ := info_parts Try.infoTwo
  go_enter Try.func26, Try.ntmps26
  go_wp2_with fail
  go_step3
  go_wp2_with (go_at_call 24; refine CC.out.mono ?_; rintro e w1 ⟨G, cc, rfl, hG, hb1⟩)
  go_step3
  go_wp2_with fail
  have hp1 := hp.below hb1
  have hl1 := hl.below hb1
  have HB1 := Lib.hid hb1
  clear hb1 hp hl
  go_loopg [10, 11, 12, 13, 14, 15] n (fun f v ii _ _ _ _ wr => ∃ (acc : List P2) (i : Nat), ii = .int .i64 i ∧ i ≤ n ∧ n ≤ i + f ∧ acc.length ≤ i ∧ acc ++ spansF L ls ps f i = spansF L ls ps n 0 ∧ wr.ownsRow w1.heap.size 52 2 v acc.length (acc.flatMap P2.cells) ∧ Below w1.heap.size w1 wr)
  case atStart => exact ⟨[], 0, rfl, Nat.zero_le _, by omega, by simp, rfl, own_nil _ _ _ _, Below.refl _ _⟩
  case round =>
    obtain ⟨acc, i, rfl, hi1, hif, hal, hacc, hown, hb⟩ := hrel
    have HACC := Lib.hid hacc
    clear hacc
    by_cases hin : i < n
    case neg =>
      go_wp2_with fail
      rw [Exit.noGoto_ret]
      go_ret2
      have he : spansOf ps L ls = acc := by
        rw [HX.out, ← HN.out, ← HACC.out, spans_end (by rw [← HN.out]; omega), List.append_nil]
      refine ⟨_, by rw [HCE.out]; rfl, by rw [he]; exact own_mono hown HB1.out.size, HB1.out.trans (hb.mono HB1.out.size)⟩
    obtain ⟨f1, rfl⟩ : ∃ f1, gk = f1 + 1 := ⟨gk - 1, by omega⟩
    obtain ⟨p, hpi, hdi⟩ := drop_cons (xs := ps) (i := i) (by rw [← HN.out]; exact hin)
    have hpo := (ptOk_iff p).1 (GG.out.pt p (List.mem_of_getElem? hpi))
    have HDI := Lib.hid hdi
    have HPI := Lib.hid hpi
    clear hdi hpi
    obtain ⟨g, goff, rfl, _, hgl, g0⟩ := (hG.below hb).at_ (valsF_get L ls ps i (by rw [← HN.out]; omega))
    obtain ⟨g', goff', hA', _, _, g1⟩ := (hG.below hb).at_ (valsF_get L ls ps (i + 1) (by rw [← HN.out]; omega))
    obtain ⟨rfl, rfl⟩ : g = g' ∧ goff = goff' := by simpa using hA'
    clear hA'
    by_cases hve : valAt L ls ps i = valAt L ls ps (i + 1)
    · have HS := Lib.hid (spans_eq (f := f1) HPI.out hve)
      have qe : (valAt L ls ps i != valAt L ls ps (i + 1)) = false := by rw [hve]; simp
      clear hve
      go_wp2_with fail
      go_quiet (fail)
      go_wp2_with fail
      go_roundg f1
      case measure => omega
      case rel => exact ⟨acc, i + 1, by go_num, by omega, by omega, by omega, by rw [← HS.out]; exact HACC.out, hown, below_drewN hb _⟩
    · have qe : (valAt L ls ps i != valAt L ls ps (i + 1)) = true := by simpa using hve
      obtain ⟨j0, hj0⟩ := findAt_some HDI.out hve
      have hjb := findAt_bd hj0
      rw [← HN.out] at hjb
      have HS := Lib.hid (spans_hit (f := f1) HPI.out hve hj0)
      have HF := Lib.hid hj0
      clear hve hj0
      go_wp2_with fail
      go_quiet (fail)
      go_wp2_with fail
      clear g1
      obtain ⟨wo, hwo⟩ : ∃ wo : World, wo = wr.drewN nq := ⟨_, rfl⟩
      have hbo : Below w1.heap.size w1 wo := by rw [hwo]; exact below_drewN hb _
      rw [← hwo]
      have hown1 : wo.ownsRow w1.heap.size 52 2 u10 acc.length (acc.flatMap P2.cells) := by rw [hwo]; exact hown
      obtain ⟨sv, hsv⟩ : ∃ sv : Value, sv = u10 := ⟨_, rfl⟩
      rw [← hsv] at hown1 ⊢
      clear hwo hb hown g0 hgl hsv
      go_loopg [10, 11, 12, 13, 14, 15] (n - i) (fun q sl ii t jj _ _ wq => ∃ (j : Nat) (tot : Int), sl = sv ∧ ii = .int .i64 i ∧ i ≤ j ∧ j ≤ n ∧ q = n - j ∧ jj = .int .i64 j ∧ t = .int .i64 tot ∧ 0 ≤ tot ∧ tot + sumB (ps.drop j) ≤ 17592186044416 ∧ findJ L ls p.a (valAt L ls ps i) (ps.drop j) (valsF L ls (ps.drop (j + 1))) tot j = findAt L ls ps i p.a ∧ wq.ownsRow w1.heap.size 52 2 sv acc.length (acc.flatMap P2.cells) ∧ Below w1.heap.size w1 wq)
      case atStart =>
        refine ⟨i, 0, rfl, rfl, Nat.le_refl _, by omega, rfl, rfl, rfl, by omega, ?_, rfl, hown1, hbo⟩
        have := sumB_drop_le GG.out.pt i; have := GG.out.sum; omega
      case round =>
        obtain ⟨j, tot, rfl, rfl, hj1, hj2, hq, rfl, rfl, ht0, ht1, hfj, hownq, hbq⟩ := hrel
        have HFJ := Lib.hid hfj
        have HQ := Lib.hid hq
        clear hfj hq hown1 hbo
        by_cases hjn : j < n
        case neg =>
          exfalso
          obtain rfl : j = n := by omega
          have h1 := HFJ.out
          rw [HN.out] at h1
          have h2 := findJ_end h1
          rw [HF.out] at h2
          cases h2
        obtain ⟨q, hqj, hdj⟩ := drop_cons (xs := ps) (i := j) (by rw [← HN.out]; exact hjn)
        have hqo := (ptOk_iff q).1 (GG.out.pt q (List.mem_of_getElem? hqj))
        have HDJ := Lib.hid hdj
        by_cases hle : L ≤ q.a - p.a
        · exfalso
          have h2 := findJ_far HDJ.out HFJ.out hle
          rw [HF.out] at h2
          cases h2
        obtain ⟨b, off, rfl, _, hbl, y0, y1⟩ := (hp1.below hbq).at_ hqj
        obtain ⟨b', off', hA', _, _, z0, _⟩ := (hp1.below hbq).at_ HPI.out
        obtain ⟨rfl, rfl⟩ : b = b' ∧ off = off' := by simpa using hA'
        clear hdj hqj hA'
        have qj : decide (j < n) = true := by simpa using hjn
        have ql : decide (q.a - p.a < L) = true := by simp; omega
        have hlt : q.a - p.a < L := by omega
        have htq : tot + q.b ≤ 17592186044416 := by
          have h1 := sumB_drop HDJ.out ht1
          have h2 := sumB_nonneg (ps := ps.drop (j + 1)) (fun u hu => GG.out.pt u (List.mem_of_mem_drop hu))
          omega
        have he := (GG.out.rec0 (t := tot + q.b) (by omega) htq).1
        have q1 : (recErr (tot + q.b) ls != 0) = false := by rw [he]; rfl
        have hrb := recVal_bd (tot + q.b) ls
        have hvb := valAt_bd L ls ps (j + 1)
        rw [← HN.out] at hvb
        clear he
        go_wp2_with fail
        go_quiet (fail)
        go_wp2_with (go_at_call 21; refine (CR.out _ _ (Sl.drewN (hl1.below hbq) _)).mono ?_; rintro e w2 ⟨rfl, hb2⟩)
        have hbw : Below w1.heap.size w1 w2 := (below_drewN hbq _).trans (hb2.mono hbq.size)
        have hown2 := own_below (w := wr.drewN nq) hownq hb2
        obtain ⟨g', goff', hA', _, hgl, g0⟩ := (hG.below hbw).at_ (valsF_get L ls ps i (by rw [← HN.out]; omega))
        obtain ⟨rfl, rfl⟩ : g = g' ∧ goff = goff' := by simpa using hA'
        obtain ⟨g', goff', hA2, _, _, g1⟩ := (hG.below hbw).at_ (valsF_get L ls ps (j + 1) (by rw [← HN.out]; omega))
        obtain ⟨rfl, rfl⟩ : g = g' ∧ goff = goff' := by simpa using hA2
        clear hA' hA2 y0 y1 z0 hb2 hbq hownq
        by_cases hhit : recVal (tot + q.b) ls + valAt L ls ps (j + 1) = valAt L ls ps i
        · have HH := Lib.hid (findJ_hit HDJ.out HFJ.out hlt hhit)
          have qh : (recVal (tot + q.b) ls + valAt L ls ps (j + 1) == valAt L ls ps i) = true := by simpa using hhit
          clear hhit
          have hlow := own_low hown2
          go_quiet (fail)
          go_wp2_with (at_builtin; refine wpList_append_own _ rfl (.tmp 90) (.tmp 94) 49 rfl w1.heap.size 52 i0 _ 2 16 Try.underlying49 hi hz0 hz1 hz2 rfl (by decide) _ _ _ rfl (World.ownsRow.alloc (w := w2.drewN nq) hown2 _) ⟨w2.heap.size, 0, none⟩ 1 1 [.int .i64 i, .int .i64 j] rfl rfl ?c1 ?c2 ?c3 ?c4 ?c5 ?_)
          case c1 => exact cell_new (w2.drewN nq) [.int .i64 i, .int .i64 j] _
          case c2 => intro u hu; simp at hu; rcases hu with rfl | rfl <;> rfl
          case c3 => unfold maxLen; omega
          case c4 => omega
          case c5 => have := hbw.size; simp; omega
          intro v' w4 hown4 hg4 _
          have hb4 : Below w1.heap.size w1 w4 := ((below_drewN hbw nq).alloc hbw.size _).grown hg4 (by have := hbw.size; simp; omega) hlow
          clear g0 g1 hgl hbw hown2
          go_wp2_with fail
          go_roundg f1
          case measure => omega
          case rel =>
            have hj0 : j0 = j := by
              have := HH.out
              rw [HF.out] at this
              injection this
            refine ⟨acc ++ [⟨i, j⟩], j + 1, by go_num, by omega, by omega, by simp; omega, ?_, ?_, hb4⟩
            · have := HACC.out
              rw [HS.out, hj0] at this
              rw [List.append_assoc]; exact this
            · rw [List.flatMap_append, List.length_append]; exact hown4
        · have HH := Lib.hid (findJ_step HDJ.out HFJ.out hlt hhit)
          have qh : (recVal (tot + q.b) ls + valAt L ls ps (j + 1) == valAt L ls ps i) = false := by simpa using hhit
          clear hhit
          go_quiet (fail)
          go_wp2_with fail
          go_roundg (n - (j + 1))
          case measure => rw [HQ.out]; omega
          case rel => exact ⟨j + 1, tot + q.b, rfl, rfl, by omega, by omega, rfl, by go_num, rfl, by omega, sumB_drop HDJ.out ht1, HH.out, hown2, below_drewN hbw _⟩

end Go.Proofs.Ytjbaildaifdgiaa
