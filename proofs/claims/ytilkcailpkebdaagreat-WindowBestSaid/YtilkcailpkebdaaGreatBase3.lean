/-
  Texts of the proof, one after the other.
-/
import Derived.Test.YtilkcailpkebdaaGreatBase2
import Derived.Deep.OwnRows
import Derived.Deep.LoopGhost
import Derived.RegionTactic
import Derived.Test.YtilkcailpkebdaaGreatBase1
import Derived.ChangeKeysEq
import Derived.Laws.StructEq
import Derived.Deep.RegionHeld3
import Derived.Deep.RegionWith
import Derived.Deep.DeepCutAuto
import Derived.Sort.Grow

/-
  window.Values: its contract.
-/
namespace Go.Proofs.YtilkcailpkebdaaGreat
open Go.RowKit

theorem Tryz.infoInt : (Tryz.prog.info? 3).map (fun i => (i.zero, i.size, i.bytes)) = some (some (.int .i64 0), 1, 8) := by kernel_rfl

theorem ints_of_row {w : World} {g lo : Nat} {F : Nat → Int} {xs : List Int} (h : w.rowIs g 3 xs.length (fun j => .int .i64 (F j))) (hg : lo ≤ g) (hx : ∀ (i : Nat) (x : Int), xs[i]? = some x → F i = x) : Ints w lo (some ⟨g, 0, none⟩) xs := by
  intro hp
  refine ⟨g, 0, rfl, hg, h.lt, fun i x hi j u hu => ?_⟩
  rw [List.getElem?_map, Option.map_eq_some_iff] at hi
  obtain ⟨y, hy, rfl⟩ := hi
  have hl : i < xs.length := (List.getElem?_eq_some_iff.1 hy).1
  have := h.cell hl
  rw [hx i y hy] at this
  match j, hu with
  | 0, hu => simp only [V1, List.getElem?_cons_zero, Option.some.injEq] at hu; subst hu; simpa using this

set_option maxRecDepth 100000 in
set_option maxHeartbeats 2000000 in
theorem values_ty (A : Option Addr) (c : Nat) (ps : List P2) (L : Int) (B : Option Addr) (d : Nat) (ls : List P2) (w : World) (hps : ps.length ≤ 1000) (hls : ls.length ≤ 1000) (hp : Pairs w 0 A ps) (hl : Pairs w 0 B ls) :
    Calls Tryz.prog 22 #[.slice A ps.length c, .int .i64 L, .slice B ls.length d] w fun e w' => ∃ G cc, e = .returned (.tuple #[.slice G (valuesF ps L ls).length cc, .int .i64 (chkErr ps L ls)]) ∧ Ints w' w.heap.size G (valuesF ps L ls) ∧ Below w.heap.size w w' ∧ (∀ a, G = some a → ∃ cs fr, w'.heap[a.block]? = some (.cells cs 3 fr)) := by
  have CC := Lib.hid (check_any A c ps L B d ls w hps hls hp hl)
  by_cases hce : chkErr ps L ls = 0
  case neg =>
    have HX : Hid (valuesF ps L ls = []) := by unfold valuesF; rw [if_neg hce]; rfl
    have q0 : (chkErr ps L ls != 0) = true := by simpa using hce
    clear hce
    go_enter Tryz.func22, Tryz.ntmps22
    go_wp2_with fail
    go_step3
    go_wp2_with (go_at_call 51; refine CC.out.mono ?_; rintro e w1 ⟨rfl, hb1⟩)
    rw [Exit.noGoto_ret]
    go_ret2
    refine ⟨none, 0, by rw [HX.out]; rfl, by rw [HX.out]; exact Sl.none_, hb1, fun a h => by cases h⟩
  have HCE := Lib.hid hce
  have HX : Hid (valuesF ps L ls = valsF L ls ps) := by unfold valuesF; rw [if_pos hce]; rfl
  have G := Lib.hid (good_of hce)
  have q0 : (chkErr ps L ls != 0) = false := by rw [hce]; rfl
  clear hce
  obtain ⟨n, hn⟩ : ∃ n, n = ps.length := ⟨_, rfl⟩
  obtain ⟨m, hm⟩ : ∃ m, m = ls.length := ⟨_, rfl⟩
  have CR : Hid (∀ (t : Int) (W : World), Pairs W 0 B ls → Calls Tryz.prog 30 #[.int .i64 t, .slice B m d] W fun e w' => e = .returned (.tuple #[.int .i64 (recVal t ls), .int .i64 (recErr t ls)]) ∧ Below W.heap.size W w') := by
    intro t W h; rw [hm]; exact recovery_any t B d ls W hls h
  have hn64 : n ≤ 64 := by rw [hn]; exact G.out.len
  rw [← hn, ← hm] at CC
  rw [← hn, ← hm]
  have HN := Lib.hid hn
  clear hn hm hps hls
  have hmk := run_make_row' (P := Tryz.prog) 23 3 (.int .i64 0) 8 Tryz.underlying23 Tryz.infoInt rfl .i64 .i64 (n + 1) (by omega) (by omega)
  have ec : ((n + 1 : Nat) : Int) = (n : Int) + 1 := by omega
  rw [ec] at hmk
  clear ec
  go_enter Tryz.func22, Tryz.ntmps22
  go_wp2_with fail
  go_step3
  go_wp2_with (go_at_call 51; refine CC.out.mono ?_; rintro e w1 ⟨rfl, hb1⟩)
  go_step3
  go_wp2_with fail
  have hrow0 := World.rowIs_made w1 (.int .i64 0) (n + 1) 3
  obtain ⟨g, hg⟩ : ∃ g, g = w1.heap.size := ⟨_, rfl⟩
  rw [← hg] at hrow0 ⊢
  have hgw : w.heap.size ≤ g := by rw [hg]; exact hb1.size
  have hb2 : Below w.heap.size w (w1.alloc (.cells (madeCells #[.int .i64 0] (n + 1)) 3)) := hb1.alloc hb1.size _
  clear hg hmk
  go_loopg [10, 11, 12, 13, 14] n (fun k i _ _ _ _ wr => ∃ F : Nat → Int, k ≤ n ∧ i = .int .i64 ((k : Int) - 1) ∧ Below w.heap.size w wr ∧ wr.rowIs g 3 (n + 1) (fun x => .int .i64 (F x)) ∧ ∀ x, k ≤ x → x ≤ n → F x = valAt L ls ps x)
  case atStart =>
    refine ⟨fun _ => 0, Nat.le_refl _, rfl, hb2, hrow0, fun x h1 h2 => ?_⟩
    obtain rfl : x = n := by omega
    rw [HN.out, valAt_end]
  case round =>
    obtain ⟨F, hk, rfl, hb, hrow, hF⟩ := hrel
    have HF := Lib.hid hF
    clear hF
    by_cases hk1 : 1 ≤ gk
    case neg =>
      go_wp2_with fail
      rw [Exit.noGoto_ret]
      go_ret2
      refine ⟨some ⟨g, 0, none⟩, n + 1, ?_, ?_, hb, fun a h => by injection h with h; subst h; obtain ⟨cs, h1, _⟩ := hrow; exact ⟨cs, _, h1⟩⟩
      · rw [HX.out, valsF_length, ← HN.out, HCE.out]; rfl
      · rw [HX.out]
        refine ints_of_row (F := F) (by rw [valsF_length, ← HN.out]; exact hrow) hgw fun i x hi => ?_
        have hil : i ≤ n := by
          have := (List.getElem?_eq_some_iff.1 hi).1
          rw [valsF_length, ← HN.out] at this; omega
        rw [valsF_get L ls ps i (by rw [← HN.out]; exact hil)] at hi
        rw [HF.out i (by omega) hil]
        exact Option.some.inj hi
    obtain ⟨m1, rfl⟩ : ∃ m1, gk = m1 + 1 := ⟨gk - 1, by omega⟩
    have ei : ((m1 + 1 : Nat) : Int) - 1 = (m1 : Int) := by omega
    rw [ei]
    clear ei
    have hm1 : m1 < n := by omega
    obtain ⟨p, hpm, hdm⟩ := drop_cons (xs := ps) (i := m1) (by rw [← HN.out]; exact hm1)
    obtain ⟨b, off, rfl, _, hbl, c0, _⟩ := hp.at_ hpm
    have hpo := (ptOk_iff p).1 (G.out.pt p (List.mem_of_getElem? hpm))
    have HDM := Lib.hid hdm
    clear hpm hdm
    have hF1 : F (m1 + 1) = valAt L ls ps (m1 + 1) := HF.out _ (by omega) (by omega)
    have x1 : wr.cell? ⟨g, m1 + 1, none⟩ = some (.int .i64 (valAt L ls ps (m1 + 1))) := by rw [hrow.cell (by omega), hF1]
    have x0 := hrow.cell (i := m1) (by omega)
    have xf := hrow.frozen m1
    have HF1 := Lib.hid hF1
    clear hF1
    go_wp2_with fail
    obtain ⟨wo, hwo⟩ : ∃ wo : World, wo = wr.setCell ⟨g, m1, none⟩ (.int .i64 (valAt L ls ps (m1 + 1))) := ⟨_, rfl⟩
    have hrow1 : wo.rowIs g 3 (n + 1) (fun x => .int .i64 (if x = m1 then valAt L ls ps (m1 + 1) else F x)) := by
      rw [hwo]
      refine (hrow.set m1 _).congr fun i _ => ?_
      split <;> rfl
    have hbo : Below w.heap.size w wo := by rw [hwo]; exact hb.setCell hgw _
    rw [← hwo]
    clear hwo x0 x1 xf hrow hb
    go_loopg [11, 12, 13, 14] (n - m1) (fun q t jj _ _ wq => ∃ (j : Nat) (tot : Int) (E : Nat → Int), m1 ≤ j ∧ j ≤ n ∧ q = n - j ∧ jj = .int .i64 j ∧ t = .int .i64 tot ∧ 0 ≤ tot ∧ tot + sumB (ps.drop j) ≤ 17592186044416 ∧ Below w.heap.size w wq ∧ wq.rowIs g 3 (n + 1) (fun x => .int .i64 (E x)) ∧ (∀ x, m1 < x → x ≤ n → E x = valAt L ls ps x) ∧ 0 ≤ E m1 ∧ E m1 ≤ 1152921504606846976 ∧ scan L ls p.a (ps.drop j) (valsF L ls (ps.drop (j + 1))) tot (E m1) = valAt L ls ps m1)
    case atStart =>
      refine ⟨m1, 0, _, Nat.le_refl _, by omega, rfl, rfl, rfl, by omega, ?_, hbo, hrow1, fun x h1 h2 => ?_, ?_, ?_, ?_⟩
      · have := sumB_drop_le G.out.pt m1; have := G.out.sum; omega
      · rw [if_neg (by omega)]; exact HF.out x (by omega) h2
      · rw [if_pos rfl]; exact (valAt_bd L ls ps _).1
      · rw [if_pos rfl]; have := (valAt_bd L ls ps (m1 + 1)).2; rw [← HN.out] at this; omega
      · rw [if_pos rfl]; exact scan_start HDM.out
    case round =>
      obtain ⟨j, tot, E, hj1, hj2, hq, rfl, rfl, ht0, ht1, hbq, hrq, hE, he0, he1, hsc⟩ := hrel
      have HE := Lib.hid hE
      have HSC := Lib.hid hsc
      have HQ := Lib.hid hq
      clear hE hsc hq
      by_cases hjn : j < n
      · obtain ⟨q, hqj, hdj⟩ := drop_cons (xs := ps) (i := j) (by rw [← HN.out]; exact hjn)
        have hqo := (ptOk_iff q).1 (G.out.pt q (List.mem_of_getElem? hqj))
        obtain ⟨b', off', hA', _, _, y0, y1⟩ := (hp.below hbq).at_ hqj
        obtain ⟨rfl, rfl⟩ : b = b' ∧ off = off' := by simpa using hA'
        have z0 : wr.cell? ⟨b, off + m1 * 2, none⟩ = some (.int .i64 p.a) := (hbq.cell (p := ⟨b, _, none⟩) hbl).trans c0
        have HDJ := Lib.hid hdj
        clear hdj hqj hA' c0
        by_cases hle : L ≤ q.a - p.a
        · have hE1 := Lib.hid (scan_break HDJ.out HSC.out hle)
          go_wp2_with fail
          go_quiet (fail)
          go_wp2_with fail
          go_roundg m1
          case measure => omega
          case rel =>
            refine ⟨E, by omega, rfl, below_drewN hbq _, hrq, fun x h1 h2 => ?_⟩
            by_cases hx : x = m1
            · rw [hx]; exact hE1.out.symm
            · exact HE.out x (by omega) h2
        · have hle' : decide (L ≤ q.a - p.a) = false := by simpa using hle
          have htq : tot + q.b ≤ 17592186044416 := by
            have h1 := sumB_drop HDJ.out ht1
            have h2 := sumB_nonneg (ps := ps.drop (j + 1)) (fun u hu => G.out.pt u (List.mem_of_mem_drop hu))
            omega
          have he := (G.out.rec0 (t := tot + q.b) (by omega) htq).1
          have q1 : (recErr (tot + q.b) ls != 0) = false := by rw [he]; rfl
          have hrb := recVal_bd (tot + q.b) ls
          have hvb := valAt_bd L ls ps (j + 1)
          rw [← HN.out] at hvb
          clear he
          go_wp2_with fail
          go_quiet (fail)
          go_wp2_with (go_at_call 30; refine (CR.out _ _ (Sl.drewN (hl.below hbq) _)).mono ?_; rintro e w2 ⟨rfl, hb2⟩)
          have hr2 : w2.rowIs g 3 (n + 1) (fun x => .int .i64 (E x)) := World.rowIs.of_block hrq (hb2.block g hrq.lt)
          have hbw : Below w.heap.size w w2 := (below_drewN hbq _).trans (hb2.mono hbq.size)
          have x0 := hr2.cell (i := m1) (by omega)
          have x1 : w2.cell? ⟨g, j + 1, none⟩ = some (.int .i64 (valAt L ls ps (j + 1))) := by rw [hr2.cell (by omega), HE.out (j + 1) (by omega) (by omega)]
          have xf := hr2.frozen m1
          have hmx := @run_imax Tryz.prog
          clear hb2 hrq y0 y1 z0 hbq
          go_region
          go_wp2_with fail
          go_roundg (n - (j + 1))
          case measure => rw [HQ.out]; omega
          case rel =>
            have hsc' := scan_step HDJ.out HSC.out (by omega)
            refine ⟨j + 1, tot + q.b, fun x => if x = m1 then imax (E m1) (recVal (tot + q.b) ls + valAt L ls ps (j + 1)) else E x, by omega, by omega, rfl, by go_num, rfl, by omega, sumB_drop HDJ.out ht1, (hbw.drew).setCell hgw _, ?_, fun x h1 h2 => ?_, ?_, ?_, ?_⟩
            · refine ((World.rowIs.drew hr2).set m1 _).congr fun i _ => ?_
              by_cases hi : i = m1 <;> simp [hi]
            · dsimp only; rw [if_neg (by omega)]; exact HE.out x h1 h2
            · dsimp only; rw [if_pos rfl]; unfold imax; split <;> omega
            · dsimp only; rw [if_pos rfl]; unfold imax; split <;> omega
            · dsimp only; rw [if_pos rfl]; exact hsc'
      · obtain rfl : j = n := by omega
        have hsc := HSC.out
        rw [HN.out] at hsc
        have hE1 := Lib.hid (scan_end hsc)
        clear hsc
        go_wp2_with fail
        go_roundg m1
        case measure => omega
        case rel =>
          refine ⟨E, by omega, rfl, hbq, hrq, fun x h1 h2 => ?_⟩
          by_cases hx : x = m1
          · rw [hx]; exact hE1.out.symm
          · exact HE.out x (by omega) h2
theorem values_any (A : Option Addr) (c : Nat) (ps : List P2) (L : Int) (B : Option Addr) (d : Nat) (ls : List P2) (w : World) (hps : ps.length ≤ 1000) (hls : ls.length ≤ 1000) (hp : Pairs w 0 A ps) (hl : Pairs w 0 B ls) :
    Calls Tryz.prog 22 #[.slice A ps.length c, .int .i64 L, .slice B ls.length d] w fun e w' => ∃ G cc, e = .returned (.tuple #[.slice G (valuesF ps L ls).length cc, .int .i64 (chkErr ps L ls)]) ∧ Ints w' w.heap.size G (valuesF ps L ls) ∧ Below w.heap.size w w' := by
  refine (values_ty A c ps L B d ls w hps hls hp hl).mono ?_
  rintro e w' ⟨G, cc, h1, h2, h3, _⟩
  exact ⟨G, cc, h1, h2, h3⟩

end Go.Proofs.YtilkcailpkebdaaGreat

/-
  window.Spans: its contract.
-/
namespace Go.Proofs.YtilkcailpkebdaaGreat
open Go.RowKit
set_option linter.unusedVariables false

theorem own_mono {w : World} {base base' : Nat} {e : TypeId} {size n : Nat} {v : Value} {xs : List Value} (h : w.ownsRow base e size v n xs) (hb : base' ≤ base) : w.ownsRow base' e size v n xs := by
  refine ⟨h.1, ?_⟩
  rcases h.2 with h0 | ⟨g, cap, cur, hv, hg, r⟩
  · exact .inl h0
  · exact .inr ⟨g, cap, cur, hv, by omega, r⟩

theorem Tryz.infoTwo : (Tryz.prog.info? 63).map (fun i => (i.zero, i.size, i.bytes)) = some (some (.agg #[.int .i64 0, .int .i64 0]), 2, 16) := by kernel_rfl

set_option maxRecDepth 100000 in
set_option maxHeartbeats 2000000 in
theorem spans_any (A : Option Addr) (c : Nat) (ps : List P2) (L : Int) (B : Option Addr) (d : Nat) (ls : List P2) (w : World) (hps : ps.length ≤ 1000) (hls : ls.length ≤ 1000) (hp : Pairs w 0 A ps) (hl : Pairs w 0 B ls) :
    Calls Tryz.prog 23 #[.slice A ps.length c, .int .i64 L, .slice B ls.length d] w fun e w' => ∃ v, e = .returned (.tuple #[v, .int .i64 (chkErr ps L ls)]) ∧ w'.ownsRow w.heap.size 63 2 v (spansOf ps L ls).length ((spansOf ps L ls).flatMap P2.cells) ∧ Below w.heap.size w w' := by
  have CC := Lib.hid (values_any A c ps L B d ls w hps hls hp hl)
  by_cases hce : chkErr ps L ls = 0
  case neg =>
    have HX : Hid (spansOf ps L ls = []) := by unfold spansOf; rw [if_neg hce]; rfl
    have q0 : (chkErr ps L ls != 0) = true := by simpa using hce
    clear hce
    go_enter Tryz.func23, Tryz.ntmps23
    go_wp2_with fail
    go_step3
    go_wp2_with (go_at_call 22; refine CC.out.mono ?_; rintro e w1 ⟨G, cc, rfl, hG, hb1⟩)
    rw [Exit.noGoto_ret]
    go_ret2
    refine ⟨_, rfl, by rw [HX.out]; exact own_nil _ _ _ _, hb1⟩
  have HCE := Lib.hid hce
  have HX : Hid (spansOf ps L ls = spansF L ls ps ps.length 0) := by unfold spansOf; rw [if_pos hce]; rfl
  have HV : Hid (valuesF ps L ls = valsF L ls ps) := by unfold valuesF; rw [if_pos hce]; rfl
  have GG := Lib.hid (good_of hce)
  have q0 : (chkErr ps L ls != 0) = false := by rw [hce]; rfl
  clear hce
  obtain ⟨n, hn⟩ : ∃ n, n = ps.length := ⟨_, rfl⟩
  obtain ⟨m, hm⟩ : ∃ m, m = ls.length := ⟨_, rfl⟩
  have CR : Hid (∀ (t : Int) (W : World), Pairs W 0 B ls → Calls Tryz.prog 30 #[.int .i64 t, .slice B m d] W fun e w' => e = .returned (.tuple #[.int .i64 (recVal t ls), .int .i64 (recErr t ls)]) ∧ Below W.heap.size W w') := by
    intro t W h; rw [hm]; exact recovery_any t B d ls W hls h
  have hn64 : n ≤ 64 := by rw [hn]; exact GG.out.len
  rw [HV.out, valsF_length, ← hn, ← hm] at CC
  rw [← hn, ← hm]
  have HN := Lib.hid hn
  clear hn hm hps hls
  obtain ⟨i0, hi, hz0, hz1, hz2⟩ := info_parts Tryz.infoTwo
  go_enter Tryz.func23, Tryz.ntmps23
  go_wp2_with fail
  go_step3
  go_wp2_with (go_at_call 22; refine CC.out.mono ?_; rintro e w1 ⟨G, cc, rfl, hG, hb1⟩)
  go_step3
  go_wp2_with fail
  have hp1 := hp.below hb1
  have hl1 := hl.below hb1
  have HB1 := Lib.hid hb1
  clear hb1 hp hl
  go_loopg [10, 11, 12, 13, 14, 15] n (fun f v ii _ _ _ _ wr => ∃ (acc : List P2) (i : Nat), ii = .int .i64 i ∧ i ≤ n ∧ n ≤ i + f ∧ acc.length ≤ i ∧ acc ++ spansF L ls ps f i = spansF L ls ps n 0 ∧ wr.ownsRow w1.heap.size 63 2 v acc.length (acc.flatMap P2.cells) ∧ Below w1.heap.size w1 wr)
  case atStart => exact ⟨[], 0, rfl, Nat.zero_le _, by omega, by simp, rfl, own_nil _ _ _ _, Below.refl _ _⟩
  case round =>
    obtain ⟨acc, i, rfl, hi1, hif, hal, hacc, hown, hb⟩ := hrel
    have HACC := Lib.hid hacc
    clear hacc
    by_cases hin : i < n
    case neg =>
      go_wp2_with fail
      rw [Exit.noGoto_ret]
      go_ret2
      have he : spansOf ps L ls = acc := by
        rw [HX.out, ← HN.out, ← HACC.out, spans_end (by rw [← HN.out]; omega), List.append_nil]
      refine ⟨_, by rw [HCE.out]; rfl, by rw [he]; exact own_mono hown HB1.out.size, HB1.out.trans (hb.mono HB1.out.size)⟩
    obtain ⟨f1, rfl⟩ : ∃ f1, gk = f1 + 1 := ⟨gk - 1, by omega⟩
    obtain ⟨p, hpi, hdi⟩ := drop_cons (xs := ps) (i := i) (by rw [← HN.out]; exact hin)
    have hpo := (ptOk_iff p).1 (GG.out.pt p (List.mem_of_getElem? hpi))
    have HDI := Lib.hid hdi
    have HPI := Lib.hid hpi
    clear hdi hpi
    obtain ⟨g, goff, rfl, _, hgl, g0⟩ := (hG.below hb).at_ (valsF_get L ls ps i (by rw [← HN.out]; omega))
    obtain ⟨g', goff', hA', _, _, g1⟩ := (hG.below hb).at_ (valsF_get L ls ps (i + 1) (by rw [← HN.out]; omega))
    obtain ⟨rfl, rfl⟩ : g = g' ∧ goff = goff' := by simpa using hA'
    clear hA'
    by_cases hve : valAt L ls ps i = valAt L ls ps (i + 1)
    · have HS := Lib.hid (spans_eq (f := f1) HPI.out hve)
      have qe : (valAt L ls ps i != valAt L ls ps (i + 1)) = false := by rw [hve]; simp
      clear hve
      go_wp2_with fail
      go_quiet (fail)
      go_wp2_with fail
      go_roundg f1
      case measure => omega
      case rel => exact ⟨acc, i + 1, by go_num, by omega, by omega, by omega, by rw [← HS.out]; exact HACC.out, hown, below_drewN hb _⟩
    · have qe : (valAt L ls ps i != valAt L ls ps (i + 1)) = true := by simpa using hve
      obtain ⟨j0, hj0⟩ := findAt_some HDI.out hve
      have hjb := findAt_bd hj0
      rw [← HN.out] at hjb
      have HS := Lib.hid (spans_hit (f := f1) HPI.out hve hj0)
      have HF := Lib.hid hj0
      clear hve hj0
      go_wp2_with fail
      go_quiet (fail)
      go_wp2_with fail
      clear g1
      obtain ⟨wo, hwo⟩ : ∃ wo : World, wo = wr.drewN nq := ⟨_, rfl⟩
      have hbo : Below w1.heap.size w1 wo := by rw [hwo]; exact below_drewN hb _
      rw [← hwo]
      have hown1 : wo.ownsRow w1.heap.size 63 2 u10 acc.length (acc.flatMap P2.cells) := by rw [hwo]; exact hown
      obtain ⟨sv, hsv⟩ : ∃ sv : Value, sv = u10 := ⟨_, rfl⟩
      rw [← hsv] at hown1 ⊢
      clear hwo hb hown g0 hgl hsv
      go_loopg [10, 11, 12, 13, 14, 15] (n - i) (fun q sl ii t jj _ _ wq => ∃ (j : Nat) (tot : Int), sl = sv ∧ ii = .int .i64 i ∧ i ≤ j ∧ j ≤ n ∧ q = n - j ∧ jj = .int .i64 j ∧ t = .int .i64 tot ∧ 0 ≤ tot ∧ tot + sumB (ps.drop j) ≤ 17592186044416 ∧ findJ L ls p.a (valAt L ls ps i) (ps.drop j) (valsF L ls (ps.drop (j + 1))) tot j = findAt L ls ps i p.a ∧ wq.ownsRow w1.heap.size 63 2 sv acc.length (acc.flatMap P2.cells) ∧ Below w1.heap.size w1 wq)
      case atStart =>
        refine ⟨i, 0, rfl, rfl, Nat.le_refl _, by omega, rfl, rfl, rfl, by omega, ?_, rfl, hown1, hbo⟩
        have := sumB_drop_le GG.out.pt i; have := GG.out.sum; omega
      case round =>
        obtain ⟨j, tot, rfl, rfl, hj1, hj2, hq, rfl, rfl, ht0, ht1, hfj, hownq, hbq⟩ := hrel
        have HFJ := Lib.hid hfj
        have HQ := Lib.hid hq
        clear hfj hq hown1 hbo
        by_cases hjn : j < n
        case neg =>
          exfalso
          obtain rfl : j = n := by omega
          have h1 := HFJ.out
          rw [HN.out] at h1
          have h2 := findJ_end h1
          rw [HF.out] at h2
          cases h2
        obtain ⟨q, hqj, hdj⟩ := drop_cons (xs := ps) (i := j) (by rw [← HN.out]; exact hjn)
        have hqo := (ptOk_iff q).1 (GG.out.pt q (List.mem_of_getElem? hqj))
        have HDJ := Lib.hid hdj
        by_cases hle : L ≤ q.a - p.a
        · exfalso
          have h2 := findJ_far HDJ.out HFJ.out hle
          rw [HF.out] at h2
          cases h2
        obtain ⟨b, off, rfl, _, hbl, y0, y1⟩ := (hp1.below hbq).at_ hqj
        obtain ⟨b', off', hA', _, _, z0, _⟩ := (hp1.below hbq).at_ HPI.out
        obtain ⟨rfl, rfl⟩ : b = b' ∧ off = off' := by simpa using hA'
        clear hdj hqj hA'
        have qj : decide (j < n) = true := by simpa using hjn
        have ql : decide (q.a - p.a < L) = true := by simp; omega
        have hlt : q.a - p.a < L := by omega
        have htq : tot + q.b ≤ 17592186044416 := by
          have h1 := sumB_drop HDJ.out ht1
          have h2 := sumB_nonneg (ps := ps.drop (j + 1)) (fun u hu => GG.out.pt u (List.mem_of_mem_drop hu))
          omega
        have he := (GG.out.rec0 (t := tot + q.b) (by omega) htq).1
        have q1 : (recErr (tot + q.b) ls != 0) = false := by rw [he]; rfl
        have hrb := recVal_bd (tot + q.b) ls
        have hvb := valAt_bd L ls ps (j + 1)
        rw [← HN.out] at hvb
        clear he
        go_wp2_with fail
        go_quiet (fail)
        go_wp2_with (go_at_call 30; refine (CR.out _ _ (Sl.drewN (hl1.below hbq) _)).mono ?_; rintro e w2 ⟨rfl, hb2⟩)
        have hbw : Below w1.heap.size w1 w2 := (below_drewN hbq _).trans (hb2.mono hbq.size)
        have hown2 := own_below (w := wr.drewN nq) hownq hb2
        obtain ⟨g', goff', hA', _, hgl, g0⟩ := (hG.below hbw).at_ (valsF_get L ls ps i (by rw [← HN.out]; omega))
        obtain ⟨rfl, rfl⟩ : g = g' ∧ goff = goff' := by simpa using hA'
        obtain ⟨g', goff', hA2, _, _, g1⟩ := (hG.below hbw).at_ (valsF_get L ls ps (j + 1) (by rw [← HN.out]; omega))
        obtain ⟨rfl, rfl⟩ : g = g' ∧ goff = goff' := by simpa using hA2
        clear hA' hA2 y0 y1 z0 hb2 hbq hownq
        by_cases hhit : recVal (tot + q.b) ls + valAt L ls ps (j + 1) = valAt L ls ps i
        · have HH := Lib.hid (findJ_hit HDJ.out HFJ.out hlt hhit)
          have qh : (recVal (tot + q.b) ls + valAt L ls ps (j + 1) == valAt L ls ps i) = true := by simpa using hhit
          clear hhit
          have hlow := own_low hown2
          go_quiet (fail)
          go_wp2_with (at_builtin; refine wpList_append_own _ rfl (.tmp 90) (.tmp 94) 59 rfl w1.heap.size 63 i0 _ 2 16 Tryz.underlying59 hi hz0 hz1 hz2 rfl (by decide) _ _ _ rfl (World.ownsRow.alloc (w := w2.drewN nq) hown2 _) ⟨w2.heap.size, 0, none⟩ 1 1 [.int .i64 i, .int .i64 j] rfl rfl ?c1 ?c2 ?c3 ?c4 ?c5 ?_)
          case c1 => exact cell_new (w2.drewN nq) [.int .i64 i, .int .i64 j] _
          case c2 => intro u hu; simp at hu; rcases hu with rfl | rfl <;> rfl
          case c3 => unfold maxLen; omega
          case c4 => omega
          case c5 => have := hbw.size; simp; omega
          intro v' w4 hown4 hg4 _
          have hb4 : Below w1.heap.size w1 w4 := ((below_drewN hbw nq).alloc hbw.size _).grown hg4 (by have := hbw.size; simp; omega) hlow
          clear g0 g1 hgl hbw hown2
          go_wp2_with fail
          go_roundg f1
          case measure => omega
          case rel =>
            have hj0 : j0 = j := by
              have := HH.out
              rw [HF.out] at this
              injection this
            refine ⟨acc ++ [⟨i, j⟩], j + 1, by go_num, by omega, by omega, by simp; omega, ?_, ?_, hb4⟩
            · have := HACC.out
              rw [HS.out, hj0] at this
              rw [List.append_assoc]; exact this
            · rw [List.flatMap_append, List.length_append]; exact hown4
        · have HH := Lib.hid (findJ_step HDJ.out HFJ.out hlt hhit)
          have qh : (recVal (tot + q.b) ls + valAt L ls ps (j + 1) == valAt L ls ps i) = false := by simpa using hhit
          clear hhit
          go_quiet (fail)
          go_wp2_with fail
          go_roundg (n - (j + 1))
          case measure => rw [HQ.out]; omega
          case rel => exact ⟨j + 1, tot + q.b, rfl, rfl, by omega, by omega, rfl, by go_num, rfl, by omega, sumB_drop HDJ.out ht1, HH.out, hown2, below_drewN hbw _⟩

end Go.Proofs.YtilkcailpkebdaaGreat

/-
  '==' and '!=' on [2]int.
-/
namespace Go.Proofs.YtilkcailpkebdaaGreat
open Go.RowKit
set_option linter.unusedVariables false

theorem Tryz.cellsInt : Tryz.prog.cellsOf 3 = 1 := by kernel_rfl
theorem part_int (xs : Array Value) (k : Nat) (n : Int) (hx : xs[k]? = some (.int .i64 n)) (w : World) : (part 3 xs k).run Tryz.prog w = .ok (.int .i64 n) w := by
  simp [part, hx]
theorem eq2_run (a b c d : Int) (w : World) : (Op.equalIn 10000 63 (.agg #[.int .i64 a, .int .i64 b]) (.agg #[.int .i64 c, .int .i64 d])).run Tryz.prog w = .ok (a == c && b == d) w := by
  obtain ⟨i, hi, _, h2, _⟩ := info_parts (show (Tryz.prog.info? 3).map (fun i => (i.zero, i.size, i.bytes)) = some (some (.int .i64 0), 1, 8) by kernel_rfl)
  rw [show (10000 : Nat) = 9999 + 1 from rfl, run_equalIn_array w 9999 _ _ Tryz.underlying63 hi]
  rw [Tryz.cellsInt, show List.range 2 = [0, 1] from rfl]
  simp only [Op.eqItems, Sem.run_bind]
  rw [part_int _ _ a rfl, Result.andThen_ok, part_int _ _ c rfl, Result.andThen_ok]
  rw [show (9999 : Nat) = 9998 + 1 from rfl, run_equalIn_int w 9998 _ _ _ a c Tryz.underlying3, Result.andThen_ok]
  by_cases h : a = c
  · have h1 : (a == c) = true := by simpa using h
    rw [h1]
    simp only [Bool.not_true, Bool.false_eq_true, if_false, Sem.run_bind, Bool.true_and]
    rw [part_int _ _ b rfl, Result.andThen_ok, part_int _ _ d rfl, Result.andThen_ok, run_equalIn_int w 9998 _ _ _ b d Tryz.underlying3, Result.andThen_ok]
    cases (b == d) <;> simp
  · have h1 : (a == c) = false := by simpa using h
    rw [h1]
    simp
theorem eql2 (a b c d : Int) (w : World) : (binOp .eql 63 (.agg #[.int .i64 a, .int .i64 b]) (.agg #[.int .i64 c, .int .i64 d])).run Tryz.prog w = .ok (.bool (a == c && b == d)) w := by
  rw [run_eql_struct, eq2_run, Result.andThen_ok]
theorem neq2 (a b c d : Int) (w : World) : (binOp .neq 63 (.agg #[.int .i64 a, .int .i64 b]) (.agg #[.int .i64 c, .int .i64 d])).run Tryz.prog w = .ok (.bool (!(a == c && b == d))) w := by
  rw [run_neq_struct, eq2_run, Result.andThen_ok]

end Go.Proofs.YtilkcailpkebdaaGreat

/-
  treatylaw26.awake: it returns true.
-/
namespace Go.Proofs.YtilkcailpkebdaaGreat
open Go.RowKit
set_option linter.unusedVariables false

def exL : List P2 := [⟨10, 20⟩]
def exP : List P2 := [⟨0, 8⟩, ⟨20, 8⟩, ⟨30, 8⟩]
theorem exChk : chkErr exP 24 exL = 0 := by decide +kernel
theorem exVals : valuesF exP 24 exL = [6, 6, 0, 0] := by decide +kernel
theorem exSpans : (spansOf exP 24 exL).length = 1 ∧ (spansOf exP 24 exL).flatMap P2.cells = [.int .i64 1, .int .i64 2] := by
  have h : spansOf exP 24 exL = [⟨1, 2⟩] := by rfl
  rw [h]; exact ⟨rfl, rfl⟩

set_option maxHeartbeats 1000000 in
theorem awake26_any (w : World) :
    Calls Tryz.prog 6 #[] w fun e w' => e = .returned (.bool true) ∧ Below w.heap.size w w' := by
  go_enter Tryz.func6, Tryz.ntmps6
  go_wp2_with fail
  obtain ⟨w1, hw1⟩ : ∃ w1 : World, w1 = w.alloc (.cells #[.int .i64 10, .int .i64 20] 53) := ⟨_, rfl⟩
  obtain ⟨w2, hw2⟩ : ∃ w2 : World, w2 = w1.alloc (.cells #[.int .i64 0, .int .i64 8, .int .i64 20, .int .i64 8, .int .i64 30, .int .i64 8] 55) := ⟨_, rfl⟩
  have hl : Pairs w2 0 (some ⟨w.heap.size, 0, none⟩) exL := by
    have h1 : Pairs w1 w.heap.size (some ⟨w.heap.size, 0, none⟩) exL := by rw [hw1]; exact pairs_new w exL _
    rw [hw2]; exact (h1.below (below_alloc _ _)).low (Nat.zero_le _)
  have hs1 : w1.heap.size = w.heap.size + 1 := by rw [hw1]; simp
  have hp : Pairs w2 0 (some ⟨w.heap.size + 1, 0, none⟩) exP := by
    rw [hw2, ← hs1]; exact (pairs_new w1 exP _).low (Nat.zero_le _)
  have hb2 : Below w.heap.size w w2 := by
    rw [hw2, hw1]; exact (below_alloc w _).alloc (by simp) _
  rw [← hw1, ← hw2]
  clear hw1 hw2 hs1
  have C1 := values_any (some ⟨w.heap.size + 1, 0, none⟩) 3 exP 24 (some ⟨w.heap.size, 0, none⟩) 1 exL w2 (by decide) (by decide) hp hl
  rw [exVals, exChk] at C1
  refine C1.mono ?_
  rintro e w3 ⟨G, cc, rfl, hG, hb3⟩
  clear C1
  go_wp2_with fail
  have hb23 := hb2.trans (hb3.mono hb2.size)
  have C2 := spans_any (some ⟨w.heap.size + 1, 0, none⟩) 3 exP 24 (some ⟨w.heap.size, 0, none⟩) 1 exL w3 (by decide) (by decide) (hp.below hb3) (hl.below hb3)
  rw [exSpans.1, exSpans.2, exChk] at C2
  refine C2.mono ?_
  rintro e w4 ⟨v, rfl, hown, hb4⟩
  clear C2
  have hb24 := hb23.trans (hb4.mono hb23.size)
  have hG4 := (hG.below hb4).low (Nat.zero_le _)
  go_wp2_with fail
  have hb5 := below_alloc w4 (.cells #[.int .i64 6, .int .i64 6, .int .i64 0, .int .i64 0] 3)
  have C3 := sameInts_any G (some ⟨w4.heap.size, 0, none⟩) cc 4 [6, 6, 0, 0] [6, 6, 0, 0] (w4.alloc (.cells #[.int .i64 6, .int .i64 6, .int .i64 0, .int .i64 0] 3)) (hG4.below hb5) ((ints_new w4 [6, 6, 0, 0] _).low (Nat.zero_le _)) (by simp) (by simp)
  rw [show sameB [6, 6, 0, 0] [6, 6, 0, 0] = true from by decide] at C3
  refine C3.mono ?_
  rintro e w5 ⟨rfl, hb6⟩
  clear C3
  obtain ⟨A, c, rfl, _⟩ := own_shape hown
  have hpr : Pairs w4 w3.heap.size A [⟨1, 2⟩] := pairs_of_own (xs := [⟨1, 2⟩]) hown
  obtain ⟨g, off, rfl, _, _, s0, s1⟩ := ((hpr.below hb5).below hb6).at_ (i := 0) rfl
  simp only [Nat.zero_mul, Nat.add_zero] at s0 s1
  have hbw : Below w.heap.size w w5 := (hb24.trans (hb5.mono hb24.size)).trans (hb6.mono (Nat.le_trans hb24.size hb5.size))
  clear hpr hown hb5 hb6 hb24 hb23 hG hG4 hp hl
  have heq := eql2 1 2 1 2
  go_wp2_with fail
  go_ret
  exact ⟨rfl, hbw⟩

end Go.Proofs.YtilkcailpkebdaaGreat

/-
  treatymade2.Points: points in ascending order; treatymade2.Layers: layers that are accepted.
-/
namespace Go.Proofs.YtilkcailpkebdaaGreat
open Go.RowKit
set_option linter.unusedVariables false

theorem Tryz.infoPoint : (Tryz.prog.info? 55).map (fun i => (i.zero, i.size, i.bytes)) = some (some (.agg #[.int .i64 0, .int .i64 0]), 2, 16) := by kernel_rfl

/-- Points that the deck makes: ascending hours from 1 on, at most the last one's; small amounts. -/
structure MadePts (xs : List P2) (last : Int) : Prop where
  each : ∀ p ∈ xs, 1 ≤ p.a ∧ p.a ≤ last ∧ 0 ≤ p.b ∧ p.b < 268435456
  asc : xs.Pairwise (fun p q => p.a < q.a)
theorem MadePts.nil : MadePts [] 0 := ⟨by simp, List.Pairwise.nil⟩
theorem MadePts.snoc {xs : List P2} {last : Int} (h : MadePts xs last) (h0 : 0 ≤ last) {r s : Int} (hr : 0 ≤ r) (hs0 : 0 ≤ s) (hs1 : s < 268435456) : MadePts (xs ++ [⟨last + (1 + r), s⟩]) (last + (1 + r)) := by
  refine ⟨fun p hp => ?_, ?_⟩
  · rcases List.mem_append.1 hp with hp | hp
    · have := h.each p hp; omega
    · obtain rfl : p = _ := by simpa using hp
      dsimp only; omega
  · rw [List.pairwise_append]
    refine ⟨h.asc, by simp, fun a ha b hb => ?_⟩
    obtain rfl : b = _ := by simpa using hb
    have := h.each a ha
    dsimp only; omega


end Go.Proofs.YtilkcailpkebdaaGreat

/-
  treatymade2.Layers: layers that are accepted.
-/
namespace Go.Proofs.YtilkcailpkebdaaGreat
open Go.RowKit
set_option linter.unusedVariables false

theorem Tryz.infoLayer : (Tryz.prog.info? 53).map (fun i => (i.zero, i.size, i.bytes)) = some (some (.agg #[.int .i64 0, .int .i64 0]), 2, 16) := by kernel_rfl

theorem mul_small {r s : Int} (h0 : 0 ≤ r) (h1 : r < 2) (h2 : 0 ≤ s) (h3 : s < 50) : 0 ≤ r * s ∧ r * s < 50 := by
  obtain rfl | rfl : r = 0 ∨ r = 1 := by omega
  · omega
  · omega

set_option maxHeartbeats 1000000 in
theorem layers_any (bd : Nat) (w : World) (hd : Deck w bd) :
    Calls Tryz.prog 28 #[.pointer (some ⟨bd, 0, none⟩)] w fun e w' => ∃ (v : Value) (xs : List P2), e = .returned v ∧ 1 ≤ xs.length ∧ xs.length ≤ 3 ∧ xs.all okLay = true ∧ w'.ownsRow w.heap.size 53 2 v xs.length (xs.flatMap P2.cells) ∧ Deck w' bd ∧ w.grownBy w' (some bd) := by
  obtain ⟨i0, hi, hz0, hz1, hz2⟩ := info_parts Tryz.infoLayer
  have hlt := hd.lt
  go_enter Tryz.func28, Tryz.ntmps28
  go_wp2_with fail
  refine (small_any bd w hd).mono ?_
  rintro e w1 ⟨r, rfl, hr0, hr1, hd1, hg1⟩
  go_wp2_with fail
  refine (next_any bd 3 w1 (by omega) (by omega) hd1).mono ?_
  rintro e w2 ⟨r', rfl, hr0', hr1', hd2, hg2⟩
  go_wp2_with fail
  go_loopw [3, 4, 5, 6] (fun v t k _ wr => ∃ (xs : List P2) (from_ : Int) (kk : Nat), t = .int .i64 from_ ∧ k = .int .i64 kk ∧ 1 ≤ xs.length + kk ∧ xs.length + kk ≤ 3 ∧ 0 ≤ from_ ∧ from_ ≤ 268435456 + 268435506 * (xs.length : Int) ∧ xs.all okLay = true ∧ wr.ownsRow w.heap.size 53 2 v xs.length (xs.flatMap P2.cells) ∧ Deck wr bd ∧ w.grownBy wr (some bd)) (fun _ _ k _ _ => (intOf k).toNat)
  case atStart =>
    obtain ⟨rn, rfl⟩ := Int.eq_ofNat_of_zero_le hr0'
    exact ⟨[], r, 1 + rn, rfl, val_int (by omega), by simp, by simp; omega, hr0, by simp; omega, rfl, own_nil _ _ _ _, hd2, only_trans hg1 hg2⟩
  case round =>
    obtain ⟨xs, from_, kk, rfl, rfl, hkn1, hkn2, hf0, hf1, hall, hown, hdk, hgr⟩ := hrel
    have HALL := Lib.hid hall
    clear hall
    by_cases hk : 0 < kk
    · go_wp2_with fail
      refine (small_any bd wr hdk).mono ?_
      rintro e w3 ⟨r3, rfl, hr30, hr31, hd3, hg3⟩
      have hown3 := hown.kept hg3 (own_far hown hlt)
      have hgr3 := only_trans hgr hg3
      have hlow := own_low hown3
      go_wp2_with (at_builtin; refine wpList_append_own _ rfl (.tmp 21) (.tmp 23) 24 rfl w.heap.size 53 i0 _ 2 16 Tryz.underlying24 hi hz0 hz1 hz2 rfl (by decide) _ _ _ rfl ((hown3.alloc _).alloc _) ⟨w3.heap.size + 1, 0, none⟩ 1 1 [.int .i64 from_, .int .i64 (1 + r3)] rfl rfl ?c1 ?c2 ?c3 ?c4 ?c5 ?_)
      case c1 =>
        have := cell_new (w3.alloc (.cells #[.int .i64 from_, .int .i64 (1 + r3)] 53)) [.int .i64 from_, .int .i64 (1 + r3)] 53
        simpa using this
      case c2 => intro u hu; simp at hu; rcases hu with rfl | rfl <;> rfl
      case c3 => unfold maxLen; omega
      case c4 => omega
      case c5 => have := hgr3.size; simp; omega
      intro v' w4 hown4 hg4 _
      have hgr4 : w.grownBy w4 (some bd) := only_grown (only_alloc (only_alloc hgr3 _) _) hg4 hlow
      have hd4 : Deck w4 bd := ((hd3.below ((Below.refl _ _).alloc (Nat.le_refl _) _)).below ((Below.refl _ _).alloc (Nat.le_refl _) _)).grown hg4 (fun g hg => by have := hlow g hg; omega)
      have hbx : w4.cell? ⟨w3.heap.size, 1, none⟩ = some (.int .i64 (1 + r3)) := by
        refine hg4.cell (v := .int .i64 (1 + r3)) ?_ (fun e => ?_)
        · simp
        · have := own_lt hown3 w3.heap.size e.symm; omega
      have hbne : w3.heap.size ≠ bd := by have := hd3.lt; omega
      go_wp2_with fail
      have hd4' : Deck w4.drew bd := hd4
      go_region_held3 (fun W => W.cell? ⟨w3.heap.size, 1, none⟩ = some (.int .i64 (1 + r3)))
        (first | go_keep | exact hc6 | exact hc5)
        (first | (go_at_call 27; (with_reducible refine (next_any bd 2 _ (by omega) (by omega) hd4').mono ?_); rintro e w5 ⟨r4, rfl, h40, h41, hd5, hg5⟩; have hc5 : w5.cell? ⟨w3.heap.size, 1, none⟩ = some (.int .i64 (1 + r3)) := hg5.cell hbx (fun e => hbne (by injection e))) | (go_at_call 27; (with_reducible refine (next_any bd 50 _ (by omega) (by omega) hd5).mono ?_); rintro e w6 ⟨r5, rfl, h50, h51, hd6, hg6⟩; have hc6 : w6.cell? ⟨w3.heap.size, 1, none⟩ = some (.int .i64 (1 + r3)) := hg6.cell hc5 (fun e => hbne (by injection e))))
      have hms := mul_small h40 h41 h50 h51
      rw [IntWalk.i64_in (r4 * r5) (by omega), IntWalk.i64_in (1 + r3 + r4 * r5) (by omega), IntWalk.i64_in (from_ + (1 + r3 + r4 * r5)) (by omega)]
      go_wp2_with fail
      go_roundw
      case rel =>
        refine ⟨xs ++ [⟨from_, 1 + r3⟩], from_ + (1 + r3 + r4 * r5), kk - 1, rfl, val_int (by omega), by simp; omega, by simp; omega, by omega, by simp; omega, ?_, ?_, hd6, ?_⟩
        · rw [List.all_append, HALL.out]
          have : okLay ⟨from_, 1 + r3⟩ = true := (okLay_iff _).2 ⟨hf0, by dsimp only; omega, by dsimp only; omega, by dsimp only; omega⟩
          simp [this]
        · rw [List.flatMap_append, List.length_append]
          have h6 := (World.ownsRow.kept hown4 (w' := w5) ⟨hg5.os, hg5.tape, hg5.output, hg5.size, hg5.block⟩ (own_far hown4 hlt))
          exact h6.kept hg6 (own_far h6 hlt)
        · exact only_trans (only_trans hgr4 ⟨hg5.os, hg5.tape, hg5.output, hg5.size, hg5.block⟩) hg6
      case measure => simp [intOf]; omega
    · obtain rfl : kk = 0 := by omega
      go_wp2_with fail
      go_ret
      exact ⟨_, xs, rfl, by omega, by omega, HALL.out, hown, hdk, hgr⟩

end Go.Proofs.YtilkcailpkebdaaGreat

/-
  treatylaw26.terms: a length and layers that are accepted.
-/
namespace Go.Proofs.YtilkcailpkebdaaGreat
open Go.RowKit
set_option linter.unusedVariables false

set_option maxHeartbeats 400000 in
theorem terms26_cap (D : Option Addr) (dc : Nat) (deck : List Int) (w : World) (hD : Ints w 0 D deck) (hdl : deck.length ≤ 9223372036854775807) :
    Calls Tryz.prog 8 #[.slice D deck.length dc] w fun e w' => ∃ (n : Int) (B : Option Addr) (d : Nat) (ls : List P2), e = .returned (.tuple #[.int .i64 n, .slice B ls.length d]) ∧ 1 ≤ n ∧ n ≤ 72 ∧ 1 ≤ ls.length ∧ ls.length ≤ 3 ∧ ls.all okLay = true ∧ Pairs w' w.heap.size B ls ∧ Below w.heap.size w w' ∧ ls.length ≤ d := by
  have CN := Lib.hid (new_any D dc deck w hdl hD)
  obtain ⟨m, hm⟩ : ∃ m, m = deck.length := ⟨_, rfl⟩
  rw [← hm] at hdl CN ⊢
  clear hm
  go_enter Tryz.func8, Tryz.ntmps8
  go_wp2_with fail
  refine CN.out.mono ?_
  rintro e w1 ⟨rfl, hdk, hb1, hs1⟩
  have HS1 := Lib.hid hs1
  clear hs1
  go_wp2_with fail
  refine (next_any _ 72 _ (by omega) (by omega) hdk).mono ?_
  rintro e w2 ⟨r, rfl, hr0, hr1, hd2, hg2⟩
  go_wp2_with fail
  refine (layers_any _ _ hd2).mono ?_
  rintro e w3 ⟨v, ls, rfl, hl1, hl3, hall, hown, hdk3, hg3⟩
  have hb2 : Below w.heap.size w w2 := below_of_only hb1 hg2 (Nat.le_refl _)
  have hb3 : Below w.heap.size w w3 := below_of_only hb2 hg3 (Nat.le_refl _)
  obtain ⟨B, d, rfl, hcap⟩ := own_shape hown
  have hB : Pairs w3 w.heap.size B ls := (pairs_of_own hown).low hb2.size
  have HALL := Lib.hid hall
  have HCAP := Lib.hid hcap
  clear hall hown hcap
  go_wp2_with fail
  go_ret2
  exact ⟨1 + r, B, d, ls, rfl, by omega, by omega, hl1, hl3, HALL.out, hB, hb3, HCAP.out⟩
theorem terms26_any (D : Option Addr) (dc : Nat) (deck : List Int) (w : World) (hD : Ints w 0 D deck) (hdl : deck.length ≤ 9223372036854775807) :
    Calls Tryz.prog 8 #[.slice D deck.length dc] w fun e w' => ∃ (n : Int) (B : Option Addr) (d : Nat) (ls : List P2), e = .returned (.tuple #[.int .i64 n, .slice B ls.length d]) ∧ 1 ≤ n ∧ n ≤ 72 ∧ 1 ≤ ls.length ∧ ls.length ≤ 3 ∧ ls.all okLay = true ∧ Pairs w' w.heap.size B ls ∧ Below w.heap.size w w' := by
  refine (terms26_cap D dc deck w hD hdl).mono ?_
  rintro e w' ⟨n, B, d, ls, h1, h2, h3, h4, h5, h6, h7, h8, _⟩
  exact ⟨n, B, d, ls, h1, h2, h3, h4, h5, h6, h7, h8⟩

end Go.Proofs.YtilkcailpkebdaaGreat

/-
  treatymade2.Losses, treatymade2.Amounts: their contracts.
-/
namespace Go.Proofs.YtilkcailpkebdaaGreat
open Go.RowKit
set_option linter.unusedVariables false

theorem Tryz.infoLoss : (Tryz.prog.info? 92).map (fun i => (i.zero, i.size, i.bytes)) = some (some (.agg #[.int .i64 0, .int .i64 0, .int .i64 0, .int .i64 0, .int .i64 0, .int .i64 0, .int .i64 0, .int .i64 0, .int .i64 0, .int .i64 0]), 10, 80) := by kernel_rfl

set_option maxRecDepth 100000 in
set_option maxHeartbeats 2000000 in
theorem losses_any (bd : Nat) (N : Int) (w : World) (hN0 : 0 ≤ N) (hN : N ≤ 1000) (hd : Deck w bd) :
    Calls Tryz.prog 25 #[.pointer (some ⟨bd, 0, none⟩), .int .i64 N] w fun e w' => ∃ (v : Value) (xs : List Los) (last : Int), e = .returned v ∧ (xs.length : Int) ≤ N ∧ last ≤ 3 * (xs.length : Int) ∧ MadeLos xs last ∧ w'.ownsRow w.heap.size 92 10 v xs.length (xs.flatMap Los.cells) ∧ Deck w' bd ∧ w.grownBy w' (some bd) := by
  obtain ⟨i0, hi, hz0, hz1, hz2⟩ := info_parts Tryz.infoLoss
  have hlt := hd.lt
  go_enter Tryz.func25, Tryz.ntmps25
  go_wp2_with fail
  refine (next_any bd (N + 1) w (by omega) (by omega) hd).mono ?_
  rintro e w1 ⟨r, rfl, hr0, hr1, hd1, hg1⟩
  go_wp2_with fail
  go_loopw [5, 6, 7, 8] (fun v t k _ wr => ∃ (xs : List Los) (last : Int) (kk : Nat), t = .int .i64 last ∧ k = .int .i64 kk ∧ (xs.length : Int) + kk ≤ N ∧ 0 ≤ last ∧ last ≤ 3 * (xs.length : Int) ∧ MadeLos xs last ∧ wr.ownsRow w.heap.size 92 10 v xs.length (xs.flatMap Los.cells) ∧ Deck wr bd ∧ w.grownBy wr (some bd)) (fun _ _ k _ _ => (intOf k).toNat)
  case atStart =>
    obtain ⟨rn, rfl⟩ := Int.eq_ofNat_of_zero_le hr0
    exact ⟨[], 0, rn, rfl, rfl, by simp; omega, by omega, by simp, MadeLos.nil, own_nil _ _ _ _, hd1, hg1⟩
  case round =>
    obtain ⟨xs, last, kk, rfl, rfl, hkn, hl0, hl1, hmade, hown, hdk, hgr⟩ := hrel
    by_cases hk : 0 < kk
    case neg =>
      obtain rfl : kk = 0 := by omega
      go_wp2_with fail
      go_ret
      exact ⟨_, xs, last, rfl, by omega, hl1, hmade, hown, hdk, hgr⟩
    go_wp2_with fail
    refine (next_any bd 3 wr (by omega) (by omega) hdk).mono ?_
    rintro e w2 ⟨r2, rfl, h20, h21, hd2, hg2⟩
    go_wp2_with fail
    refine (next_any bd 5 w2 (by omega) (by omega) hd2).mono ?_
    rintro e w3 ⟨r3, rfl, h30, h31, hd3, hg3⟩
    go_wp2_with fail
    refine (next_any bd 5 w3 (by omega) (by omega) hd3).mono ?_
    rintro e w4 ⟨r4, rfl, h40, h41, hd4, hg4⟩
    go_wp2_with fail
    refine (next_any bd 90 w4 (by omega) (by omega) hd4).mono ?_
    rintro e w5 ⟨r5, rfl, h50, h51, hd5, hg5⟩
    go_wp2_with fail
    refine (next_any bd 3 w5 (by omega) (by omega) hd5).mono ?_
    rintro e w6 ⟨r6, rfl, h60, h61, hd6, hg6⟩
    go_wp2_with fail
    refine (next_any bd 3 w6 (by omega) (by omega) hd6).mono ?_
    rintro e w7 ⟨r7, rfl, h70, h71, hd7, hg7⟩
    go_wp2_with fail
    refine (next_any bd 2 w7 (by omega) (by omega) hd7).mono ?_
    rintro e w8 ⟨r8, rfl, h80, h81, hd8, hg8⟩
    go_wp2_with fail
    refine (small_any bd w8 hd8).mono ?_
    rintro e w9 ⟨r9, rfl, h90, h91, hd9, hg9⟩
    go_wp2_with fail
    refine (small_any bd w9 hd9).mono ?_
    rintro e w10 ⟨r10, rfl, h100, h101, hd10, hg10⟩
    have hown10 : w10.ownsRow w.heap.size 92 10 u5 xs.length (xs.flatMap Los.cells) := by
      have hg := only_trans (only_trans (only_trans (only_trans (only_trans (only_trans (only_trans (only_trans hg2 hg3) hg4) hg5) hg6) hg7) hg8) hg9) hg10
      exact hown.kept hg (own_far hown hlt)
    have hgr10 : w.grownBy w10 (some bd) := only_trans hgr (only_trans (only_trans (only_trans (only_trans (only_trans (only_trans (only_trans (only_trans hg2 hg3) hg4) hg5) hg6) hg7) hg8) hg9) hg10)
    clear hg2 hg3 hg4 hg5 hg6 hg7 hg8 hg9 hg10 hdk hd2 hd3 hd4 hd5 hd6 hd7 hd8 hd9 hown hgr
    have hlow := own_low hown10
    have hbne : w10.heap.size ≠ bd := by have := hd10.lt; omega
    have hsz10 := hgr10.size
    go_upto_if 42 with fail
    go_cut [8] (fun s8 wx => ∃ paid : Int, s8 = .pointer (some ⟨w10.heap.size, 0, none⟩) ∧ 0 ≤ paid ∧ paid ≤ r10 ∧ wx.heap[w10.heap.size]? = some (.cells #[.int .i64 (last + (1 + r2)), .int .i64 r3, .int .i64 r4, .int .i64 r5, .int .i64 r6, .int .i64 r7, .int .i64 r8, .int .i64 r9, .int .i64 r10, .int .i64 paid] 92 (0, 0)) ∧ Deck wx bd ∧ w.grownBy wx (some bd) ∧ wx.ownsRow w.heap.size 92 10 u5 xs.length (xs.flatMap Los.cells) ∧ w10.heap.size < wx.heap.size)
    case first =>
      by_cases ha : 0 < r10
      · go_wp2_with fail
        refine (next_any bd (r10 + 1) _ (by omega) (by omega) (hd10.below ((Below.refl _ _).alloc (Nat.le_refl _) _))).mono ?_
        rintro e w11 ⟨r11, rfl, h110, h111, hd11, hg11⟩
        have hh11 : w11.heap[w10.heap.size]? = some (.cells #[.int .i64 (last + (1 + r2)), .int .i64 r3, .int .i64 r4, .int .i64 r5, .int .i64 r6, .int .i64 r7, .int .i64 r8, .int .i64 r9, .int .i64 r10, .int .i64 0] 92 (0, 0)) :=
          (hg11.block w10.heap.size (by simp) (fun e => hbne (by injection e))).trans (heap_alloc_new w10 _)
        have c9 : w11.cell? ⟨w10.heap.size, 9, none⟩ = some (.int .i64 0) := by simp [World.cell?, hh11]
        have cf : w11.frozen? ⟨w10.heap.size, 9, none⟩ = false := by simp [World.frozen?, hh11]
        have hlt11 : w10.heap.size < w11.heap.size := by have := hg11.size; simp at this; omega
        go_wp2_with fail
        go_meet
        refine ⟨r11, rfl, h110, by omega, ?_, ?_, ?_, ?_, ?_⟩
        · simp [World.setCell, Array.getElem?_modify, hh11]
        · exact hd11.keep fun k hk => Below.heap_setCell _ _ _ _ (by have := hd10.lt; dsimp only; omega)
        · exact only_setCell (only_trans (only_alloc hgr10 _) hg11) (.inr hsz10) _
        · have h1 := (hown10.alloc (.cells #[.int .i64 (last + (1 + r2)), .int .i64 r3, .int .i64 r4, .int .i64 r5, .int .i64 r6, .int .i64 r7, .int .i64 r8, .int .i64 r9, .int .i64 r10, .int .i64 0] 92)).kept hg11 (own_far hown10 hlt)
          exact h1.kept (row := some w10.heap.size) (only_setCell (only_refl _ _) (.inl rfl) _) (.inr fun e => by have := own_lt hown10 _ e; omega)
        · simpa [World.setCell] using hlt11
      · go_wp2_with fail
        go_meet
        refine ⟨0, rfl, by omega, by omega, heap_alloc_new w10 _, hd10.below ((Below.refl _ _).alloc (Nat.le_refl _) _), only_alloc hgr10 _, hown10.alloc _, by simp⟩
    case rest =>
      obtain ⟨paid, rfl, hp0, hp1, hhx, hdx, hgx, hownx, hltx⟩ := hcut
      have c0 : wc.cell? ⟨w10.heap.size, 0, none⟩ = some (.int .i64 (last + (1 + r2))) := by simp [World.cell?, hhx]
      have c1 : wc.cell? ⟨w10.heap.size, 1, none⟩ = some (.int .i64 r3) := by simp [World.cell?, hhx]
      have c2 : wc.cell? ⟨w10.heap.size, 2, none⟩ = some (.int .i64 r4) := by simp [World.cell?, hhx]
      have c3 : wc.cell? ⟨w10.heap.size, 3, none⟩ = some (.int .i64 r5) := by simp [World.cell?, hhx]
      have c4 : wc.cell? ⟨w10.heap.size, 4, none⟩ = some (.int .i64 r6) := by simp [World.cell?, hhx]
      have c5 : wc.cell? ⟨w10.heap.size, 5, none⟩ = some (.int .i64 r7) := by simp [World.cell?, hhx]
      have c6 : wc.cell? ⟨w10.heap.size, 6, none⟩ = some (.int .i64 r8) := by simp [World.cell?, hhx]
      have c7 : wc.cell? ⟨w10.heap.size, 7, none⟩ = some (.int .i64 r9) := by simp [World.cell?, hhx]
      have c8 : wc.cell? ⟨w10.heap.size, 8, none⟩ = some (.int .i64 r10) := by simp [World.cell?, hhx]
      have c9 : wc.cell? ⟨w10.heap.size, 9, none⟩ = some (.int .i64 paid) := by simp [World.cell?, hhx]
      have hlowx := own_low hownx
      have hszx := hgx.size
      clear hhx hown10 hgr10 hd10
      go_wp2_with (at_builtin; refine wpList_append_own _ rfl (.tmp 49) (.tmp 51) 22 rfl w.heap.size 92 i0 _ 10 80 Tryz.underlying22 hi hz0 hz1 hz2 rfl (by decide) _ _ _ rfl (hownx.alloc _) ⟨wc.heap.size, 0, none⟩ 1 1 [.int .i64 (last + (1 + r2)), .int .i64 r3, .int .i64 r4, .int .i64 r5, .int .i64 r6, .int .i64 r7, .int .i64 r8, .int .i64 r9, .int .i64 r10, .int .i64 paid] rfl rfl ?c1 ?c2 ?c3 ?c4 ?c5 ?_)
      case c1 => exact cell_new _ _ _
      case c2 => intro u hu; simp at hu; rcases hu with rfl | rfl | rfl | rfl | rfl | rfl | rfl | rfl | rfl | rfl <;> rfl
      case c3 => unfold maxLen; omega
      case c4 => omega
      case c5 => simp; omega
      intro v' w12 hown12 hg12 _
      have hgr12 : w.grownBy w12 (some bd) := only_grown (only_alloc hgx _) hg12 hlowx
      have hd12 : Deck w12 bd := (hdx.below ((Below.refl _ _).alloc (Nat.le_refl _) _)).grown hg12 (fun g hg => by have := hlowx g hg; omega)
      go_wp2_with fail
      go_roundw
      case rel =>
        refine ⟨xs ++ [⟨last + (1 + r2), r3, r4, r5, r6, r7, r8, r9, r10, paid⟩], last + (1 + r2), kk - 1, rfl, val_int (by omega), by simp; omega, by omega, by simp; omega, ?_, ?_, hd12, hgr12⟩
        · exact hmade.snoc (l := ⟨last + (1 + r2), r3, r4, r5, r6, r7, r8, r9, r10, paid⟩) (by unfold LosOk; dsimp only; omega) (by dsimp only; omega)
        · rw [List.flatMap_append, List.length_append]; exact hown12
      case measure => simp [intOf]; omega

end Go.Proofs.YtilkcailpkebdaaGreat

/-
  treatymade2.Amounts: its contract. A row whose content is known by index is a row of the call's own.
-/
namespace Go.Proofs.YtilkcailpkebdaaGreat
open Go.RowKit
set_option linter.unusedVariables false

theorem flat_map_get (f : Nat → Int) (n : Nat) : (((List.range n).map f).flatMap V1) = (List.range n).map fun i => Value.int .i64 (f i) := by
  induction (List.range n) with
  | nil => rfl
  | cons a l ih => simp [V1, ih]
theorem own_of_row {w : World} {g base n : Nat} {f : Nat → Int} (h : w.rowIs g 3 n (fun j => .int .i64 (f j))) (hb : base ≤ g) (hn : n ≤ maxLen) : w.ownsRow base 3 1 (.slice (some ⟨g, 0, none⟩) n n) n (((List.range n).map f).flatMap V1) := by
  obtain ⟨c, hc, hs, hi⟩ := h
  refine ⟨by rw [flat_map_get]; simp, .inr ⟨g, n, c, rfl, hb, hc, Nat.le_refl _, hn, by omega, ?_⟩⟩
  rw [flat_map_get]
  apply List.ext_getElem?
  intro i
  by_cases hin : i < n
  · rw [List.getElem?_take_of_lt (by omega)]
    have := hi i hin
    simp [hin, this]
  · rw [List.getElem?_eq_none (by simp; omega), List.getElem?_eq_none (by simp; omega)]

set_option maxHeartbeats 1000000 in
theorem amounts_any (bd : Nat) (n : Nat) (w : World) (hn : n ≤ 1000) (hd : Deck w bd) :
    Calls Tryz.prog 26 #[.pointer (some ⟨bd, 0, none⟩), .int .i64 n] w fun e w' => ∃ (v : Value) (xs : List Int), e = .returned v ∧ xs.length = n ∧ (∀ x ∈ xs, 0 ≤ x ∧ x < 268435456) ∧ w'.ownsRow w.heap.size 3 1 v xs.length (xs.flatMap V1) ∧ Deck w' bd ∧ w.grownBy w' (some bd) := by
  have hlt := hd.lt
  have hmk := run_make_row' (P := Tryz.prog) 23 3 (.int .i64 0) 8 Tryz.underlying23 Tryz.infoInt rfl .i64 .i64 n (by omega) (by omega)
  go_enter Tryz.func26, Tryz.ntmps26
  go_wp2_with fail
  have hrow0 := World.rowIs_made w (.int .i64 0) n 3
  have hd0 : Deck (w.alloc (.cells (madeCells #[.int .i64 0] n) 3)) bd := hd.below ((Below.refl _ _).alloc (Nat.le_refl _) _)
  have hg0 : w.grownBy (w.alloc (.cells (madeCells #[.int .i64 0] n) 3)) (some bd) := only_alloc (only_refl _ _) _
  obtain ⟨g, hg⟩ : ∃ g, g = w.heap.size := ⟨_, rfl⟩
  rw [← hg] at hrow0 ⊢
  have hgw : w.heap.size ≤ g := by omega
  have hgb : bd < g := by omega
  clear hg hmk
  go_loopw [6, 11] (fun _ ii wr => ∃ (i : Nat) (f : Nat → Int), i ≤ n ∧ ii = .int .i64 i ∧ (∀ k, 0 ≤ f k ∧ f k < 268435456) ∧ wr.rowIs g 3 n (fun j => .int .i64 (f j)) ∧ Deck wr bd ∧ w.grownBy wr (some bd)) (fun _ ii _ => n - (intOf ii).toNat)
  case atStart => exact ⟨0, fun _ => 0, Nat.zero_le _, rfl, fun _ => by simp, hrow0, hd0, hg0⟩
  case round =>
    obtain ⟨i, f, hi, rfl, hf, hrow, hdk, hgr⟩ := hrel
    have HF := Lib.hid hf
    clear hf hrow0 hd0 hg0
    by_cases hin : i < n
    · go_wp2_with fail
      refine (small_any bd wr hdk).mono ?_
      rintro e w2 ⟨r, rfl, hr0, hr1, hd2, hg2⟩
      have hrow2 : w2.rowIs g 3 n (fun j => .int .i64 (f j)) := World.rowIs.of_block hrow (hg2.block g hrow.lt (by intro e; injection e with e; omega))
      have x0 := hrow2.cell hin
      have xf := hrow2.frozen i
      have hgr2 := only_trans hgr hg2
      go_wp2_with fail
      go_roundw
      case rel =>
        refine ⟨i + 1, fun k => if k = i then r else f k, by omega, by go_num, fun k => ?_, ?_, ?_, ?_⟩
        · dsimp only; split
          · omega
          · exact HF.out k
        · refine (hrow2.set i _).congr fun k _ => ?_
          by_cases hk : k = i <;> simp [hk]
        · exact hd2.keep fun k hk => Below.heap_setCell _ _ _ _ (by dsimp only; omega)
        · exact only_setCell hgr2 (.inr hgw) _
      case measure => simp [intOf]; omega
    · go_wp2_with fail
      go_ret
      refine ⟨_, (List.range n).map f, rfl, by simp, ?_, ?_, hdk, hgr⟩
      · intro x hx
        obtain ⟨k, _, rfl⟩ := List.mem_map.1 hx
        exact HF.out k
      · have := own_of_row hrow hgw (by unfold maxLen; omega)
        simpa using this

end Go.Proofs.YtilkcailpkebdaaGreat

/-
  treatylaw26.few: losses and as many amounts.
-/
namespace Go.Proofs.YtilkcailpkebdaaGreat
open Go.RowKit
set_option linter.unusedVariables false

/-- What the decks make is accepted. -/
theorem sumI_le {am : List Int} (h : ∀ x ∈ am, 0 ≤ x ∧ x < 268435456) : 0 ≤ sumI am ∧ sumI am ≤ 268435456 * am.length := by
  induction am with
  | nil => simp [sumI]
  | cons a l ih =>
    have h1 := h a (by simp)
    have h2 := ih (fun x hx => h x (by simp [hx]))
    simp only [sumI, List.length_cons]; omega
theorem chkE_made {los : List Los} {last : Int} {am : List Int} (hm : MadeLos los last) (hl : los.length ≤ 64) (hal : am.length = los.length) (ham : ∀ x ∈ am, 0 ≤ x ∧ x < 268435456) : chkE los am = 0 := by
  have hall : (los.zip am).all pairOk = true := by
    rw [List.all_eq_true]
    intro z hz
    have h1 := (hm.each z.1 (List.of_mem_zip hz).1).1
    have h2 := ham z.2 (List.of_mem_zip hz).2
    unfold LosOk at h1
    obtain ⟨l, a⟩ := z
    exact (pairOk_iff l a).2 ⟨by dsimp only at h1; omega, by dsimp only at h1; omega, by dsimp only at h1; omega, by dsimp only at h1; omega, h2.1, by dsimp only at h2; omega⟩
  rw [chkE_sum (by omega) hall, if_neg]
  have := sumI_le ham
  omega

set_option maxHeartbeats 1000000 in
theorem few26_any (D : Option Addr) (dc : Nat) (deck : List Int) (w : World) (hD : Ints w 0 D deck) (hdl : deck.length ≤ 9223372036854775807) :
    Calls Tryz.prog 7 #[.slice D deck.length dc] w fun e w' => ∃ (LA : Option Addr) (lc : Nat) (los : List Los) (last : Int) (AA : Option Addr) (ac : Nat) (am : List Int),
      e = .returned (.tuple #[.slice LA los.length lc, .slice AA am.length ac]) ∧ los.length ≤ 10 ∧ MadeLos los last ∧ am.length = los.length ∧ (∀ x ∈ am, 0 ≤ x ∧ x < 268435456) ∧
      Losses w' w.heap.size LA los ∧ Ints w' w.heap.size AA am ∧ Below w.heap.size w w' := by
  have CN := Lib.hid (new_any D dc deck w hdl hD)
  obtain ⟨m, hm⟩ : ∃ m, m = deck.length := ⟨_, rfl⟩
  rw [← hm] at CN ⊢
  clear hm hdl
  go_enter Tryz.func7, Tryz.ntmps7
  go_wp2_with fail
  refine CN.out.mono ?_
  rintro e w1 ⟨rfl, hdk, hb1, hs1⟩
  clear hs1
  go_wp2_with fail
  refine (losses_any _ 10 _ (by omega) (by omega) hdk).mono ?_
  rintro e w2 ⟨v, los, last, rfl, hll, hlast, hmade, hown, hd2, hg2⟩
  have hb2 : Below w.heap.size w w2 := below_of_only hb1 hg2 (Nat.le_refl _)
  obtain ⟨LA, lc, rfl, _⟩ := own_shape hown
  have hL : Losses w2 w1.heap.size LA los := losses_of_own hown
  have hw1 : w.heap.size < w1.heap.size := hdk.lt
  have HMADE := Lib.hid hmade
  clear hown hmade
  go_wp2_with fail
  refine (amounts_any _ los.length _ (by omega) hd2).mono ?_
  rintro e w3 ⟨v, am, rfl, hal, ham, hown3, hd3, hg3⟩
  have hb3 : Below w.heap.size w w3 := below_of_only hb2 hg3 (Nat.le_refl _)
  obtain ⟨AA, ac, rfl, _⟩ := own_shape hown3
  have hA : Ints w3 w2.heap.size AA am := ints_of_own hown3
  have hL3 : Losses w3 w1.heap.size LA los := hL.grown hg3 (fun g hg => by injection hg with hg; omega)
  have HAM := Lib.hid ham
  have HAL := Lib.hid hal
  have hs2 := hb2.size
  clear hown3 ham hL hal hg3 hg2 hd3 hd2 hdk
  go_wp2_with fail
  go_ret2
  exact ⟨LA, lc, los, last, AA, ac, am, rfl, by omega, HMADE.out, HAL.out, HAM.out, hL3.low (by omega), hA.low hs2, hb3⟩

end Go.Proofs.YtilkcailpkebdaaGreat

/-
  Rows of a call's own behind the library's sort: the row put anew, cut, and the blocks that were made beside.
-/
namespace Go.Proofs.YtilkcailpkebdaaGreat
open Go.RowKit Go.Sort
set_option linter.unusedVariables false

theorem grown_grow (w : World) (os : Array Obj) : w.grownBy (Sort.grow w os) none :=
  ⟨rfl, rfl, rfl, by simp [Sort.grow], fun k hk _ => by simp only [Sort.grow]; rw [Array.getElem?_append_left hk]⟩
theorem heap_putRow {α : Type} [Inhabited α] (enc : α → Value) (w : World) (q blk off : Nat) (d : Array α) (k : Nat) : (putRow enc (Sort.ahead w q) blk off d).heap[k]? = if blk = k then (w.heap[k]?).map (onCells (putCells enc off d)) else w.heap[k]? := by
  unfold putRow mapBlock
  simp [Array.getElem?_modify]
theorem grown_putRow {α : Type} [Inhabited α] (enc : α → Value) (w : World) (q blk off : Nat) (d : Array α) : w.grownBy (putRow enc (Sort.ahead w q) blk off d) (some blk) :=
  ⟨rfl, rfl, rfl, by simp, fun k hk hne => by rw [heap_putRow, if_neg (fun h => hne (by rw [h]))]⟩
theorem flat_V1 (ys : List Int) : ys.flatMap V1 = ys.map (Value.int .i64) := by
  induction ys with
  | nil => rfl
  | cons y ys ih => simp [V1, ih]
theorem holds_of_own {w : World} {base g n cap : Nat} {e : TypeId} {zs : List Int} (h : w.ownsRow base e 1 (.slice (some ⟨g, 0, none⟩) n cap) n (zs.flatMap V1)) (hn : n = zs.length) : Holds (Value.int .i64) w g 0 zs.toArray := by
  intro j hj
  have hj' : j < zs.length := by simpa using hj
  subst hn
  refine ⟨?_, ?_⟩
  · rw [Nat.zero_add, h.cellAt j (by omega), flat_V1, List.getElem?_map, List.getElem?_eq_getElem hj']
    simp [getElem!_pos, hj']
  · rw [Nat.zero_add]; exact h.frozenAt j
theorem own_putRow {w : World} {base g n cap q : Nat} {e : TypeId} {xs : List Value} (h : w.ownsRow base e 1 (.slice (some ⟨g, 0, none⟩) n cap) n xs) (ys : List Int) (hy : ys.length = n) :
    (putRow (Value.int .i64) (Sort.ahead w q) g 0 ys.toArray).ownsRow base e 1 (.slice (some ⟨g, 0, none⟩) n cap) n (ys.flatMap V1) := by
  rcases h.2 with ⟨hv, _⟩ | ⟨g', cap', cur, hv, hb, hh, hnc, hcm, hsz, ht⟩
  · injection hv with h1; cases h1
  obtain ⟨rfl, rfl⟩ : g = g' ∧ cap = cap' := by injection hv with h1 h2 h3; injection h1 with h1; injection h1 with h1; exact ⟨h1, h3⟩
  refine ⟨by rw [flat_V1, List.length_map]; omega, .inr ⟨g, cap, putCells (Value.int .i64) 0 ys.toArray cur, rfl, hb, ?_, hnc, hcm, by simp [putCells, hsz], ?_⟩⟩
  · rw [heap_putRow, if_pos rfl, hh]; rfl
  · rw [flat_V1]
    apply List.ext_getElem?
    intro i
    by_cases hi : i < n
    · rw [List.getElem?_take_of_lt (by omega)]
      have hi1 : i < cur.size := by omega
      have hi2 : i < ys.length := by omega
      simp [putCells, hi1, hi2]
    · rw [List.getElem?_eq_none (by simp; omega), List.getElem?_eq_none (by simp; omega)]
theorem own_cut {w : World} {base g n m cap : Nat} {e : TypeId} {zs : List Int} {r : List Int} (h : w.ownsRow base e 1 (.slice (some ⟨g, 0, none⟩) n cap) n ((zs ++ r).flatMap V1)) (hm : m = zs.length) (hmn : m ≤ n) :
    w.ownsRow base e 1 (.slice (some ⟨g, 0, none⟩) m cap) m (zs.flatMap V1) := by
  rcases h.2 with ⟨hv, _⟩ | ⟨g', cap', cur, hv, hb, hh, hnc, hcm, hsz, ht⟩
  · injection hv with h1; cases h1
  obtain ⟨rfl, rfl⟩ : g = g' ∧ cap = cap' := by injection hv with h1 h2 h3; injection h1 with h1; injection h1 with h1; exact ⟨h1, h3⟩
  refine ⟨by rw [flat_V1, List.length_map]; omega, .inr ⟨g, cap, cur, rfl, hb, hh, by omega, hcm, hsz, ?_⟩⟩
  have h2 : (cur.toList.take (n * 1)).take m = zs.flatMap V1 := by
    rw [ht, List.flatMap_append, List.take_append_of_le_length (by rw [flat_V1, List.length_map]; omega), List.take_of_length_le (by rw [flat_V1, List.length_map]; omega)]
  rw [List.take_take, Nat.min_eq_left (by omega)] at h2
  rw [Nat.mul_one]; exact h2

end Go.Proofs.YtilkcailpkebdaaGreat
