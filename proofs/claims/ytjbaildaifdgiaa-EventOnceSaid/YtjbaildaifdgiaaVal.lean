/-
  window.Values: its contract.
-/
import Derived.Test.YtjbaildaifdgiaaValDef
import Derived.Test.YtjbaildaifdgiaaChk
import Derived.Deep.OwnRows
import Derived.Deep.LoopGhost
import Derived.RegionTactic
namespace Go.Proofs.Ytjbaildaifdgiaa
open Go.RowKit

theorem Try.infoInt : (Try.prog.info? 3).map (fun i => (i.zero, i.size, i.bytes)) = some (some (.int .i64 0), 1, 8) := by kernel_rfl

theorem ints_of_row {w : World} {g lo : Nat} {F : Nat → Int} {xs : List Int} (h : w.rowIs g 3 xs.length (fun j => .int .i64 (F j))) (hg : lo ≤ g) (hx : ∀ (i : Nat) (x : Int), xs[i]? = some x → F i = x) : Ints w lo (some ⟨g, 0, none⟩) xs := by
  intro hp
  refine ⟨g, 0, rfl, hg, h.lt, fun i x hi j u hu => ?_⟩
  rw [List.getElem?_map, Option.map_eq_some_iff] at hi
  obtain ⟨y, hy, rfl⟩ := hi
  have hl : i < xs.length := (List.getElem?_eq_some_iff.1 hy).1
  have := h.cell hl
  rw [hx i y hy] at this
  match j, hu with
  | 0, hu => simp only [V1, List.getElem?_cons_zero, Option.some.injEq] at hu; subst hu; simpa using this

set_option maxRecDepth 100000 in
set_option maxHeartbeats 2000000 in
theorem values_any (A : Option Addr) (c : Nat) (ps : List P2) (L : Int) (B : Option Addr) (d : Nat) (ls : List P2) (w : World) (hps : ps.length ≤ 1000) (hls : ls.length ≤ 1000) (hp : Pairs w 0 A ps) (hl : Pairs w 0 B ls) :
    Calls Try.prog 24 #[.slice A ps.length c, .int .i64 L, .slice B ls.length d] w fun e w' => ∃ G cc, e = .returned (.tuple #[.slice G (valuesF ps L ls).length cc, .int .i64 (chkErr ps L ls)]) ∧ Ints w' w.heap.size G (valuesF ps L ls) ∧ Below w.heap.size w w' := by
  have CC := Lib.hid (check_any A c ps L B d ls w hps hls hp hl)
  by_cases hce : chkErr ps L ls = 0
  case neg =>
    have HX : Hid (valuesF ps L ls = []) := by unfold valuesF; rw [if_neg hce]; rfl
    have q0 : (chkErr ps L ls != 0) = true := by simpa using hce
    clear hce
    go_enter Try.func24, Try.ntmps24
    go_wp2_with fail
    go_step3
    go_wp2_with (go_at_call 51; refine CC.out.mono ?_; rintro e w1 ⟨rfl, hb1⟩)
    rw [Exit.noGoto_ret]
    go_ret2
    refine ⟨none, 0, by rw [HX.out]; rfl, by rw [HX.out]; exact Sl.none_, hb1⟩
  have HCE := Lib.hid hce
  have HX : Hid (valuesF ps L ls = valsF L ls ps) := by unfold valuesF; rw [if_pos hce]; rfl
  have G := Lib.hid (good_of hce)
  have q0 : (chkErr ps L ls != 0) = false := by rw [hce]; rfl
  clear hce
  obtain ⟨n, hn⟩ : ∃ n, n = ps.length := ⟨_, rfl⟩
  obtain ⟨m, hm⟩ : ∃ m, m = ls.length := ⟨_, rfl⟩
  have CR : Hid (∀ (t : Int) (W : World), Pairs W 0 B ls → Calls Try.prog 21 #[.int .i64 t, .slice B m d] W fun e w' => e = .returned (.tuple #[.int .i64 (recVal t ls), .int .i64 (recErr t ls)]) ∧ Below W.heap.size W w') := by
    intro t W h; rw [hm]; exact recovery_any t B d ls W hls h
  have hn64 : n ≤ 64 := by rw [hn]; exact G.out.len
  rw [← hn, ← hm] at CC
  rw [← hn, ← hm]
  have HN := Lib.hid hn
  clear hn hm hps hls
  have hmk := run_make_row' (P := Try.prog) 24 3 (.int .i64 0) 8 Try.underlying24 Try.infoInt rfl .i64 .i64 (n + 1) (by omega) (by omega)
  have ec : ((n + 1 : Nat) : Int) = (n : Int) + 1 := by omega
  rw [ec] at hmk
  clear ec
  go_enter Try.func24, Try.ntmps24
  go_wp2_with fail
  go_step3
  go_wp2_with (go_at_call 51; refine CC.out.mono ?_; rintro e w1 ⟨rfl, hb1⟩)
  go_step3
  go_wp2_with fail
  have hrow0 := World.rowIs_made w1 (.int .i64 0) (n + 1) 3
  obtain ⟨g, hg⟩ : ∃ g, g = w1.heap.size := ⟨_, rfl⟩
  rw [← hg] at hrow0 ⊢
  have hgw : w.heap.size ≤ g := by rw [hg]; exact hb1.size
  have hb2 : Below w.heap.size w (w1.alloc (.cells (madeCells #[.int .i64 0] (n + 1)) 3)) := hb1.alloc hb1.size _
  clear hg hmk
  go_loopg [10, 11, 12, 13, 14] n (fun k i _ _ _ _ wr => ∃ F : Nat → Int, k ≤ n ∧ i = .int .i64 ((k : Int) - 1) ∧ Below w.heap.size w wr ∧ wr.rowIs g 3 (n + 1) (fun x => .int .i64 (F x)) ∧ ∀ x, k ≤ x → x ≤ n → F x = valAt L ls ps x)
  case atStart =>
    refine ⟨fun _ => 0, Nat.le_refl _, rfl, hb2, hrow0, fun x h1 h2 => ?_⟩
    obtain rfl : x = n := by omega
    rw [HN.out, valAt_end]
  case round =>
    obtain ⟨F, hk, rfl, hb, hrow, hF⟩ := hrel
    have HF := Lib.hid hF
    clear hF
    by_cases hk1 : 1 ≤ gk
    case neg =>
      go_wp2_with fail
      rw [Exit.noGoto_ret]
      go_ret2
      refine ⟨some ⟨g, 0, none⟩, n + 1, ?_, ?_, hb⟩
      · rw [HX.out, valsF_length, ← HN.out, HCE.out]; rfl
      · rw [HX.out]
        refine ints_of_row (F := F) (by rw [valsF_length, ← HN.out]; exact hrow) hgw fun i x hi => ?_
        have hil : i ≤ n := by
          have := (List.getElem?_eq_some_iff.1 hi).1
          rw [valsF_length, ← HN.out] at this; omega
        rw [valsF_get L ls ps i (by rw [← HN.out]; exact hil)] at hi
        rw [HF.out i (by omega) hil]
        exact Option.some.inj hi
    obtain ⟨m1, rfl⟩ : ∃ m1, gk = m1 + 1 := ⟨gk - 1, by omega⟩
    have ei : ((m1 + 1 : Nat) : Int) - 1 = (m1 : Int) := by omega
    rw [ei]
    clear ei
    have hm1 : m1 < n := by omega
    obtain ⟨p, hpm, hdm⟩ := drop_cons (xs := ps) (i := m1) (by rw [← HN.out]; exact hm1)
    obtain ⟨b, off, rfl, _, hbl, c0, _⟩ := hp.at_ hpm
    have hpo := (ptOk_iff p).1 (G.out.pt p (List.mem_of_getElem? hpm))
    have HDM := Lib.hid hdm
    clear hpm hdm
    have hF1 : F (m1 + 1) = valAt L ls ps (m1 + 1) := HF.out _ (by omega) (by omega)
    have x1 : wr.cell? ⟨g, m1 + 1, none⟩ = some (.int .i64 (valAt L ls ps (m1 + 1))) := by rw [hrow.cell (by omega), hF1]
    have x0 := hrow.cell (i := m1) (by omega)
    have xf := hrow.frozen m1
    have HF1 := Lib.hid hF1
    clear hF1
    go_wp2_with fail
    obtain ⟨wo, hwo⟩ : ∃ wo : World, wo = wr.setCell ⟨g, m1, none⟩ (.int .i64 (valAt L ls ps (m1 + 1))) := ⟨_, rfl⟩
    have hrow1 : wo.rowIs g 3 (n + 1) (fun x => .int .i64 (if x = m1 then valAt L ls ps (m1 + 1) else F x)) := by
      rw [hwo]
      refine (hrow.set m1 _).congr fun i _ => ?_
      split <;> rfl
    have hbo : Below w.heap.size w wo := by rw [hwo]; exact hb.setCell hgw _
    rw [← hwo]
    clear hwo x0 x1 xf hrow hb
    go_loopg [11, 12, 13, 14] (n - m1) (fun q t jj _ _ wq => ∃ (j : Nat) (tot : Int) (E : Nat → Int), m1 ≤ j ∧ j ≤ n ∧ q = n - j ∧ jj = .int .i64 j ∧ t = .int .i64 tot ∧ 0 ≤ tot ∧ tot + sumB (ps.drop j) ≤ 17592186044416 ∧ Below w.heap.size w wq ∧ wq.rowIs g 3 (n + 1) (fun x => .int .i64 (E x)) ∧ (∀ x, m1 < x → x ≤ n → E x = valAt L ls ps x) ∧ 0 ≤ E m1 ∧ E m1 ≤ 1152921504606846976 ∧ scan L ls p.a (ps.drop j) (valsF L ls (ps.drop (j + 1))) tot (E m1) = valAt L ls ps m1)
    case atStart =>
      refine ⟨m1, 0, _, Nat.le_refl _, by omega, rfl, rfl, rfl, by omega, ?_, hbo, hrow1, fun x h1 h2 => ?_, ?_, ?_, ?_⟩
      · have := sumB_drop_le G.out.pt m1; have := G.out.sum; omega
      · rw [if_neg (by omega)]; exact HF.out x (by omega) h2
      · rw [if_pos rfl]; exact (valAt_bd L ls ps _).1
      · rw [if_pos rfl]; have := (valAt_bd L ls ps (m1 + 1)).2; rw [← HN.out] at this; omega
      · rw [if_pos rfl]; exact scan_start HDM.out
    case round =>
      obtain ⟨j, tot, E, hj1, hj2, hq, rfl, rfl, ht0, ht1, hbq, hrq, hE, he0, he1, hsc⟩ := hrel
      have HE := Lib.hid hE
      have HSC := Lib.hid hsc
      have HQ := Lib.hid hq
      clear hE hsc hq
      by_cases hjn : j < n
      · obtain ⟨q, hqj, hdj⟩ := drop_cons (xs := ps) (i := j) (by rw [← HN.out]; exact hjn)
        have hqo := (ptOk_iff q).1 (G.out.pt q (List.mem_of_getElem? hqj))
        obtain ⟨b', off', hA', _, _, y0, y1⟩ := (hp.below hbq).at_ hqj
        obtain ⟨rfl, rfl⟩ : b = b' ∧ off = off' := by simpa using hA'
        have z0 : wr.cell? ⟨b, off + m1 * 2, none⟩ = some (.int .i64 p.a) := (hbq.cell (p := ⟨b, _, none⟩) hbl).trans c0
        have HDJ := Lib.hid hdj
        clear hdj hqj hA' c0
        by_cases hle : L ≤ q.a - p.a
        · have hE1 := Lib.hid (scan_break HDJ.out HSC.out hle)
          go_wp2_with fail
          go_quiet (fail)
          go_wp2_with fail
          go_roundg m1
          case measure => omega
          case rel =>
            refine ⟨E, by omega, rfl, below_drewN hbq _, hrq, fun x h1 h2 => ?_⟩
            by_cases hx : x = m1
            · rw [hx]; exact hE1.out.symm
            · exact HE.out x (by omega) h2
        · have hle' : decide (L ≤ q.a - p.a) = false := by simpa using hle
          have htq : tot + q.b ≤ 17592186044416 := by
            have h1 := sumB_drop HDJ.out ht1
            have h2 := sumB_nonneg (ps := ps.drop (j + 1)) (fun u hu => G.out.pt u (List.mem_of_mem_drop hu))
            omega
          have he := (G.out.rec0 (t := tot + q.b) (by omega) htq).1
          have q1 : (recErr (tot + q.b) ls != 0) = false := by rw [he]; rfl
          have hrb := recVal_bd (tot + q.b) ls
          have hvb := valAt_bd L ls ps (j + 1)
          rw [← HN.out] at hvb
          clear he
          go_wp2_with fail
          go_quiet (fail)
          go_wp2_with (go_at_call 21; refine (CR.out _ _ (Sl.drewN (hl.below hbq) _)).mono ?_; rintro e w2 ⟨rfl, hb2⟩)
          have hr2 : w2.rowIs g 3 (n + 1) (fun x => .int .i64 (E x)) := World.rowIs.of_block hrq (hb2.block g hrq.lt)
          have hbw : Below w.heap.size w w2 := (below_drewN hbq _).trans (hb2.mono hbq.size)
          have x0 := hr2.cell (i := m1) (by omega)
          have x1 : w2.cell? ⟨g, j + 1, none⟩ = some (.int .i64 (valAt L ls ps (j + 1))) := by rw [hr2.cell (by omega), HE.out (j + 1) (by omega) (by omega)]
          have xf := hr2.frozen m1
          have hmx := @run_imax Try.prog
          clear hb2 hrq y0 y1 z0 hbq
          go_region
          go_wp2_with fail
          go_roundg (n - (j + 1))
          case measure => rw [HQ.out]; omega
          case rel =>
            have hsc' := scan_step HDJ.out HSC.out (by omega)
            refine ⟨j + 1, tot + q.b, fun x => if x = m1 then imax (E m1) (recVal (tot + q.b) ls + valAt L ls ps (j + 1)) else E x, by omega, by omega, rfl, by go_num, rfl, by omega, sumB_drop HDJ.out ht1, (hbw.drew).setCell hgw _, ?_, fun x h1 h2 => ?_, ?_, ?_, ?_⟩
            · refine ((World.rowIs.drew hr2).set m1 _).congr fun i _ => ?_
              by_cases hi : i = m1 <;> simp [hi]
            · dsimp only; rw [if_neg (by omega)]; exact HE.out x h1 h2
            · dsimp only; rw [if_pos rfl]; unfold imax; split <;> omega
            · dsimp only; rw [if_pos rfl]; unfold imax; split <;> omega
            · dsimp only; rw [if_pos rfl]; exact hsc'
      · obtain rfl : j = n := by omega
        have hsc := HSC.out
        rw [HN.out] at hsc
        have hE1 := Lib.hid (scan_end hsc)
        clear hsc
        go_wp2_with fail
        go_roundg m1
        case measure => omega
        case rel =>
          refine ⟨E, by omega, rfl, hbq, hrq, fun x h1 h2 => ?_⟩
          by_cases hx : x = m1
          · rw [hx]; exact hE1.out.symm
          · exact HE.out x (by omega) h2

end Go.Proofs.Ytjbaildaifdgiaa
