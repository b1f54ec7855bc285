/-
  treatyref25.Evaluate: its contract.
-/
import Derived.Test.YtjbaildaifdgiaaEval
import Derived.Test.YtjbaildaifdgiaaRTot
import Derived.Test.YtjbaildaifdgiaaRWins
import Derived.Test.YtjbaildaifdgiaaRRec
import Derived.Laws.AppendOwnNone
namespace Go.Proofs.Ytjbaildaifdgiaa
open Go.RowKit
set_option linter.unusedVariables false

theorem ints_of_ownN {w : World} {base n c : Nat} {e : TypeId} {A : Option Addr} {xs : List Int} (h : w.ownsRow base e 1 (.slice A n c) n (xs.flatMap V1)) (hn : n = xs.length) : Ints w base A xs := by
  subst hn
  exact ints_of_own h
theorem recs_next {ts : List Int} {ls : List P2} {k : Nat} {t : Int} (h : ts[k]? = some t) : (recsF (ts.take k) ls).flatMap V1 ++ V1 (recVal t ls) = (recsF (ts.take (k + 1)) ls).flatMap V1 := by
  rw [List.take_add_one, h]; simp [recsF]
theorem heap_al2 (w : World) (r o : Obj) : ((w.alloc r).alloc o).heap[w.heap.size + 1]? = some o := by
  have h := heap_alloc_new (w.alloc r) o
  have e : (w.alloc r).heap.size = w.heap.size + 1 := by simp
  rw [e] at h; exact h

set_option maxRecDepth 100000 in
set_option maxHeartbeats 4000000 in
theorem revaluate_any (A : Option Addr) (c : Nat) (los : List Los) (M : Option Addr) (mc : Nat) (am : List Int) (B : Option Addr) (d : Nat) (ws : List Win) (n : Int) (E : Option Addr) (ec : Nat) (ls : List P2) (w : World)
    (hll : los.length ≤ 9223372036854775807) (hal : am.length ≤ 9223372036854775807) (hwl : ws.length ≤ 1000) (hwc : ws.length ≤ d) (hBn : B = none → d = 0) (hel : ls.length ≤ 1000) (hL : Losses w 0 A los) (hM : Ints w 0 M am) (hW : Wins w 0 B ws) (hE : Pairs w 0 E ls) :
    Calls Try.prog 31 #[.slice A los.length c, .slice M am.length mc, .slice B ws.length d, .int .i64 n, .slice E ls.length ec] w fun e w' => ∃ (W : Option Addr) (wc : Nat) (T : Option Addr) (tc : Nat) (R : Option Addr) (rc : Nat),
      e = .returned (.tuple #[.agg #[.slice W (evW los am ws n ls).length wc, .slice T (evT los am ws n ls).length tc, .slice R (evR los am ws n ls).length rc, .int .i64 (sumI (evR los am ws n ls))], .int .i64 (evalErr los am ws n ls)]) ∧
      Wins w' w.heap.size W (evW los am ws n ls) ∧ Ints w' w.heap.size T (evT los am ws n ls) ∧ Ints w' w.heap.size R (evR los am ws n ls) ∧ Below w.heap.size w w' := by
  have C1 : Hid (∀ W, Losses W 0 A los → Ints W 0 M am → _) := fun W h h' => rcheckE_any A c los M mc am W hll hal h h'
  have C2 : Hid (∀ (t : Int) W, Pairs W 0 E ls → _) := fun t W h => rrecovery_any t E ec ls W hel h
  have C3 : Hid (∀ W, Wins W 0 B ws → _) := fun W h => rwindows_any B d ws n W (by omega) hwc h
  have C4 : Hid (∀ W, Losses W 0 A los → Ints W 0 M am → Wins W 0 B ws → _) := fun W h h' h'' => rtotals_any A c los M mc am B d ws W hll hal hwl h h' h''
  obtain ⟨nl, hnl⟩ : ∃ k, k = los.length := ⟨_, rfl⟩
  obtain ⟨na, hna⟩ : ∃ k, k = am.length := ⟨_, rfl⟩
  obtain ⟨nw, hnw⟩ : ∃ k, k = ws.length := ⟨_, rfl⟩
  obtain ⟨ne, hne⟩ : ∃ k, k = ls.length := ⟨_, rfl⟩
  rw [← hnl, ← hna] at C1 C4
  rw [← hne] at C2
  rw [← hnw] at C3 C4
  rw [← hnl, ← hna, ← hnw, ← hne]
  have HNW := Lib.hid hnw
  clear hnl hna hnw hne hll hal hel
  obtain ⟨w0, hw0⟩ : ∃ w0 : World, w0 = w.alloc (.cells #[.slice none 0 0, .slice none 0 0, .slice none 0 0, .int .i64 0] 59) := ⟨_, rfl⟩
  have hb0 : Below w.heap.size w w0 := by rw [hw0]; exact below_alloc1 _ _
  have hh0 : w0.heap[w.heap.size]? = some (.cells #[.slice none 0 0, .slice none 0 0, .slice none 0 0, .int .i64 0] 59 (0, 0)) := by rw [hw0]; exact heap_alloc_new w _
  obtain ⟨br, hbr⟩ : ∃ br, br = w.heap.size := ⟨_, rfl⟩
  go_enter Try.func31, Try.ntmps31
  go_wp2_with fail
  rw [← hw0, ← hbr]
  rw [← hbr] at hh0
  have HBR := Lib.hid hbr
  have hz0 := lt_of_heap0 hh0
  clear hw0 hbr
  refine (C1.out _ (hL.below hb0) (hM.below hb0)).mono ?_
  rintro e w1 ⟨rfl, hb1⟩
  have hb01 := hb0.trans (hb1.mono hb0.size)
  have hh1 : w1.heap[br]? = some (.cells #[.slice none 0 0, .slice none 0 0, .slice none 0 0, .int .i64 0] 59 (0, 0)) := (hb1.block br hz0).trans hh0
  have hbrw : w.heap.size ≤ br := by rw [HBR.out]; exact Nat.le_refl _
  by_cases he1 : chkE los am = 0
  case neg =>
    have HE : Hid (evalErr los am ws n ls = chkE los am) := by unfold evalErr; rw [if_pos he1]; rfl
    have q : (chkE los am != 0) = true := by simpa using he1
    have HB := Lib.hid (ev_bad (los := los) (am := am) (ws := ws) (n := n) (ls := ls) (by rw [HE.out]; exact he1))
    clear he1
    have r0 : w1.cell? ⟨br, 0, none⟩ = some (.slice none 0 0) := by simp [World.cell?, hh1]
    have r1 : w1.cell? ⟨br, 1, none⟩ = some (.slice none 0 0) := by simp [World.cell?, hh1]
    have r2 : w1.cell? ⟨br, 2, none⟩ = some (.slice none 0 0) := by simp [World.cell?, hh1]
    have r3 : w1.cell? ⟨br, 3, none⟩ = some (.int .i64 0) := by simp [World.cell?, hh1]
    have s0 : w1.frozen? ⟨br, 0, none⟩ = false := by simp [World.frozen?, hh1]
    have s1 : w1.frozen? ⟨br, 1, none⟩ = false := by simp [World.frozen?, hh1]
    have s2 : w1.frozen? ⟨br, 2, none⟩ = false := by simp [World.frozen?, hh1]
    have s3 : w1.frozen? ⟨br, 3, none⟩ = false := by simp [World.frozen?, hh1]
    go_wp2_with fail
    refine bodyPost_ret (v := .tuple #[.agg #[.slice none 0 0, .slice none 0 0, .slice none 0 0, .int .i64 0], .int .i64 (chkE los am)]) (by simp [results, Try.results31, go_sem, r0, r1, r2, r3]) rfl ?_
    refine ⟨none, 0, none, 0, none, 0, by rw [HB.out.1, HB.out.2.1, HB.out.2.2, HE.out]; rfl, by rw [HB.out.1]; exact Sl.none_, by rw [HB.out.2.1]; exact Sl.none_, by rw [HB.out.2.2]; exact Sl.none_, ?_⟩
    exact (((hb01.setCell hbrw _).setCell hbrw _).setCell hbrw _).setCell hbrw _
  have HE1 := Lib.hid he1
  have q1 : (chkE los am != 0) = false := by rw [he1]; rfl
  have hT : totalsF los am ws = totF los am ws := by unfold totalsF; rw [if_pos he1]
  rw [hT, he1] at C4
  have hGE := goodE_of he1
  have HAMB := Lib.hid (fun a ha => (zip_amounts hGE.same hGE.all a ha).1)
  have HTB : Hid (∀ t ∈ totF los am ws, 0 ≤ t ∧ t ≤ 17592186044416) := by
    intro t ht
    have h1 := totF_bd (los := los) (ws := ws) HAMB.out t ht
    have h2 := hGE.sum
    omega
  clear he1 hT hGE hb0 hh0 hz0 hb1
  go_wp2_with fail
  refine (C2.out 0 _ (hE.below hb01)).mono ?_
  rintro e w2 ⟨rfl, hb2⟩
  have hb02 := hb01.trans (hb2.mono hb01.size)
  have hh2 : w2.heap[br]? = some (.cells #[.slice none 0 0, .slice none 0 0, .slice none 0 0, .int .i64 0] 59 (0, 0)) := (hb2.block br (lt_of_heap0 hh1)).trans hh1
  by_cases he2 : recErr 0 ls = 0
  case neg =>
    have HE : Hid (evalErr los am ws n ls = recErr 0 ls) := by unfold evalErr; rw [if_neg (by simpa using HE1.out), if_pos he2]; rfl
    have q : (recErr 0 ls != 0) = true := by simpa using he2
    have HB := Lib.hid (ev_bad (los := los) (am := am) (ws := ws) (n := n) (ls := ls) (by rw [HE.out]; exact he2))
    clear he2
    have r0 : w2.cell? ⟨br, 0, none⟩ = some (.slice none 0 0) := by simp [World.cell?, hh2]
    have r1 : w2.cell? ⟨br, 1, none⟩ = some (.slice none 0 0) := by simp [World.cell?, hh2]
    have r2 : w2.cell? ⟨br, 2, none⟩ = some (.slice none 0 0) := by simp [World.cell?, hh2]
    have r3 : w2.cell? ⟨br, 3, none⟩ = some (.int .i64 0) := by simp [World.cell?, hh2]
    have s0 : w2.frozen? ⟨br, 0, none⟩ = false := by simp [World.frozen?, hh2]
    have s1 : w2.frozen? ⟨br, 1, none⟩ = false := by simp [World.frozen?, hh2]
    have s2 : w2.frozen? ⟨br, 2, none⟩ = false := by simp [World.frozen?, hh2]
    have s3 : w2.frozen? ⟨br, 3, none⟩ = false := by simp [World.frozen?, hh2]
    go_wp2_with fail
    refine bodyPost_ret (v := .tuple #[.agg #[.slice none 0 0, .slice none 0 0, .slice none 0 0, .int .i64 0], .int .i64 (recErr 0 ls)]) (by simp [results, Try.results31, go_sem, r0, r1, r2, r3]) rfl ?_
    refine ⟨none, 0, none, 0, none, 0, by rw [HB.out.1, HB.out.2.1, HB.out.2.2, HE.out]; rfl, by rw [HB.out.1]; exact Sl.none_, by rw [HB.out.2.1]; exact Sl.none_, by rw [HB.out.2.2]; exact Sl.none_, ?_⟩
    exact (((hb02.setCell hbrw _).setCell hbrw _).setCell hbrw _).setCell hbrw _
  have HE2 := Lib.hid he2
  have q2 : (recErr 0 ls != 0) = false := by rw [he2]; rfl
  clear he2 hb2 hh1 hb01
  go_wp2_with fail
  refine (C3.out _ (hW.below hb02)).mono ?_
  rintro e w3 ⟨rfl, hb3⟩
  have hb03 := hb02.trans (hb3.mono hb02.size)
  have hh3 : w3.heap[br]? = some (.cells #[.slice none 0 0, .slice none 0 0, .slice none 0 0, .int .i64 0] 59 (0, 0)) := (hb3.block br (lt_of_heap0 hh2)).trans hh2
  by_cases he3 : winsE ws n = 0
  case neg =>
    have HE : Hid (evalErr los am ws n ls = winsE ws n) := by unfold evalErr; rw [if_neg (by simpa using HE1.out), if_neg (by simpa using HE2.out)]; rfl
    have q : (winsE ws n != 0) = true := by simpa using he3
    have HB := Lib.hid (ev_bad (los := los) (am := am) (ws := ws) (n := n) (ls := ls) (by rw [HE.out]; exact he3))
    clear he3
    have r0 : w3.cell? ⟨br, 0, none⟩ = some (.slice none 0 0) := by simp [World.cell?, hh3]
    have r1 : w3.cell? ⟨br, 1, none⟩ = some (.slice none 0 0) := by simp [World.cell?, hh3]
    have r2 : w3.cell? ⟨br, 2, none⟩ = some (.slice none 0 0) := by simp [World.cell?, hh3]
    have r3 : w3.cell? ⟨br, 3, none⟩ = some (.int .i64 0) := by simp [World.cell?, hh3]
    have s0 : w3.frozen? ⟨br, 0, none⟩ = false := by simp [World.frozen?, hh3]
    have s1 : w3.frozen? ⟨br, 1, none⟩ = false := by simp [World.frozen?, hh3]
    have s2 : w3.frozen? ⟨br, 2, none⟩ = false := by simp [World.frozen?, hh3]
    have s3 : w3.frozen? ⟨br, 3, none⟩ = false := by simp [World.frozen?, hh3]
    go_wp2_with fail
    refine bodyPost_ret (v := .tuple #[.agg #[.slice none 0 0, .slice none 0 0, .slice none 0 0, .int .i64 0], .int .i64 (winsE ws n)]) (by simp [results, Try.results31, go_sem, r0, r1, r2, r3]) rfl ?_
    refine ⟨none, 0, none, 0, none, 0, by rw [HB.out.1, HB.out.2.1, HB.out.2.2, HE.out]; rfl, by rw [HB.out.1]; exact Sl.none_, by rw [HB.out.2.1]; exact Sl.none_, by rw [HB.out.2.2]; exact Sl.none_, ?_⟩
    exact (((hb03.setCell hbrw _).setCell hbrw _).setCell hbrw _).setCell hbrw _
  have HEV := Lib.hid (ev_parts HE1.out HE2.out he3)
  have HOK := Lib.hid (ev_ok (los := los) (am := am) (ws := ws) (n := n) (ls := ls) HEV.out)
  have q3 : (winsE ws n != 0) = false := by rw [he3]; rfl
  have hw64 := winsE_len he3
  rw [← HNW.out] at hw64
  clear he3 hb3 hh2 hb02
  rw [totF_len, ← HNW.out] at C4
  have hbr3 := lt_of_heap0 hh3
  obtain ⟨i0, hi, hz0, hz1, hz2⟩ := info_parts Try.infoWindow
  have HW3 : Wins w3 0 B ws := hW.below hb03
  go_upto_region 10 with fail
  go_cut [16] (fun s16 wc => ∃ (bc : Nat) (v1 : Value), s16 = .pointer (some ⟨bc, 0, none⟩) ∧ wc.heap[bc]? = some (.cells #[v1, .slice none 0 0, .slice none 0 0, .int .i64 0] 59 (0, 0)) ∧ wc.ownsRow w3.heap.size 69 3 v1 nw (ws.flatMap Win.cells) ∧ Below w3.heap.size w3 wc ∧ w3.heap.size ≤ bc)
  case first =>
    rcases B with _ | ad
    · have hw : ws = [] := by
        cases hws : ws with
        | nil => rfl
        | cons x xs => rw [hws] at HW3; obtain ⟨b, off, e, _⟩ := HW3 (by simp); cases e
      obtain rfl : d = 0 := hBn rfl
      obtain rfl : nw = 0 := by rw [HNW.out, hw]; rfl
      have HWS := Lib.hid hw
      clear hw hBn
      go_wp2_with (at_builtin; refine wpList_append_own_none rfl (.tmp 44) (.tmp 45) 54 rfl w3.heap.size 69 i0 3 Try.underlying54 hi _ 0 [] rfl (own_void w3 69 3) rfl ?_)
      go_meet
      refine ⟨_, _, rfl, heap_al2 _ _ _, ?_, ?_, ?_⟩
      · rw [HWS.out]; exact own_below (own_void w3 69 3) (below_alloc1 _ _)
      · exact (below_alloc1 w3 _).alloc (by simp) _
      · simp
    · have hnews : ∀ (j : Nat) (u : Value), (ws.flatMap Win.cells)[j]? = some u → (w3.alloc (.cells #[] 69)).cell? (ad.add j) = some u := by
        intro j u hu
        have h0 : 0 < (ws.map Win.cells).length := by
          have := (List.getElem?_eq_some_iff.1 hu).1
          rw [flat_len Win.cells 3 (fun _ => rfl)] at this
          simp; omega
        obtain ⟨b, off, e, _⟩ := HW3 h0
        obtain rfl : ad = ⟨b, off, none⟩ := Option.some.inj e
        have hs : Sl (w3.alloc (.cells #[] 69)) 0 3 (some ⟨b, off, none⟩) (ws.map Win.cells) := Wins.below HW3 (below_alloc1 _ _)
        exact sl_cells (enc := Win.cells) (k := 3) (fun _ => rfl) (by omega) hs j u hu
      go_wp2_with (at_builtin; refine wpList_append_own _ rfl (.tmp 44) (.tmp 45) 54 rfl w3.heap.size 69 i0 _ 3 24 Try.underlying54 hi hz0 hz1 hz2 rfl (by decide) _ 0 [] rfl (own_void w3 69 3) ad nw d (ws.flatMap Win.cells) rfl ?c0 hnews ?c2 ?c3 ?c4 ?c5 ?_)
      case c0 => rw [flat_len Win.cells 3 (fun _ => rfl), ← HNW.out]
      case c2 =>
        intro u hu
        obtain ⟨x, _, hx⟩ := List.mem_flatMap.1 hu
        simp [Win.cells] at hx
        rcases hx with rfl | rfl | rfl <;> rfl
      case c3 => unfold maxLen; omega
      case c4 => omega
      case c5 => simp
      intro v' w5 hown5 hg5 _
      have hb45 : Below w3.heap.size w3 w5 := (below_alloc1 w3 _).grown hg5 (by simp) (fun g hg => by simp [Value.ownBlock] at hg; omega)
      clear hnews
      obtain ⟨V1, cV, rfl, _⟩ := own_shape hown5
      go_wp2_with fail
      go_meet
      exact ⟨_, _, rfl, heap_alloc_new _ _, own_below hown5 (below_alloc1 _ _), hb45.alloc (by have := hb45.size; omega) _, hb45.size⟩
  case rest =>
    obtain ⟨bc, v1, rfl, hhc, hownc, hb4, hbc⟩ := hcut
    have hb04 := hb03.trans (hb4.mono hb03.size)
    have hh4 := (hb4.block br hbr3).trans hh3
    have hs34 := hb4.size
    obtain ⟨W1, c1, rfl, _⟩ := own_shape hownc
    clear hb4 hh3 hb03 HW3 hi hz0 hz1 hz2
    go_wp2_with fail
    refine (C4.out _ (hL.below hb04) (hM.below hb04) (hW.below hb04)).mono ?_
    rintro e w5 ⟨G, g, rfl, hG, hb5⟩
    have hh5 := (hb5.block bc (lt_of_heap0 hhc)).trans hhc
    have hown5 := own_below hownc hb5
    have hb05 := hb04.trans (hb5.mono hb04.size)
    have hhr5 := (hb5.block br (lt_of_heap0 hh4)).trans hh4
    have hbrc : br < bc := by omega
    have hGlo : bc < wc.heap.size := lt_of_heap0 hhc
    have b1 : w5.cell? ⟨bc, 1, none⟩ = some (.slice none 0 0) := by simp [World.cell?, hh5]
    have f1 : w5.frozen? ⟨bc, 1, none⟩ = false := by simp [World.frozen?, hh5]
    obtain ⟨w6, hw6⟩ : ∃ w6 : World, w6 = w5.setCell ⟨bc, 1, none⟩ (.slice G nw g) := ⟨_, rfl⟩
    have hh6 : w6.heap[bc]? = some (.cells #[.slice W1 nw c1, .slice G nw g, .slice none 0 0, .int .i64 0] 59 (0, 0)) := by
      rw [hw6]; simp [World.setCell, Array.getElem?_modify, hh5]
    have k6 : w5.grownBy w6 (some bc) := by rw [hw6]; exact only_setCell (only_refl _ _) (.inl rfl) _
    have hown6 : w6.ownsRow w3.heap.size 69 3 (.slice W1 nw c1) nw (ws.flatMap Win.cells) := hown5.kept k6 (own_ne hown5 hh5 (by decide))
    have hG6 : Ints w6 wc.heap.size G (totF los am ws) := hG.grown k6 (fun g' e => by injection e with e; omega)
    have hb06 : Below w.heap.size w w6 := hb05.grown k6 hb05.size (fun g' e => by injection e with e; omega)
    have hhr6 := (k6.block br (lt_of_heap0 hhr5) (by intro e; injection e with e; omega)).trans hhr5
    have a1 : w6.cell? ⟨bc, 1, none⟩ = some (.slice G nw g) := by simp [World.cell?, hh6]
    clear hhc hownc hb04 hh4 hb5 hG hown5 hb05 hhr5 k6
    have HH5 := Lib.hid hh5
    clear hh5 C1 C3 C4
    have hLT : Hid ((totF los am ws).length = nw) := by rw [totF_len]; exact HNW.out.symm
    go_upto_region 12 with fail
    rw [← hw6]
    clear hw6
    go_wp2_with fail
    obtain ⟨j0, ji, jz0, jz1, jz2⟩ := info_parts Try.infoInt
    have hbc6 : bc < w6.heap.size := lt_of_heap0 hh6
    go_loopw [18, 19, 20, 59] (fun _ _ _ ii wr => ∃ (i : Nat) (v : Value) (acc : Int), i ≤ nw ∧ ii = .int .i64 i ∧ wr.heap[bc]? = some (.cells #[.slice W1 nw c1, .slice G nw g, v, .int .i64 acc] 59 (0, 0)) ∧ wr.ownsRow w6.heap.size 3 1 v i ((recsF ((totF los am ws).take i) ls).flatMap V1) ∧ w6.grownBy wr (some bc) ∧ 0 ≤ acc ∧ acc ≤ 281474976710656 * i ∧ acc + sumI (recsF ((totF los am ws).drop i) ls) = sumI (recsF (totF los am ws) ls)) (fun _ _ _ ii _ => nw - (intOf ii).toNat)
    case atStart => exact ⟨0, _, 0, Nat.zero_le _, rfl, hh6, own_nil _ _ _ _, only_refl _ _, by omega, by omega, by simp⟩
    case round =>
      obtain ⟨i, v, acc, hi, rfl, hh, hown, hgr, ha0, ha1, hS⟩ := hrel
      have HS := Lib.hid hS
      have HH6 := Lib.hid hh6
      clear hS hh6
      obtain ⟨V, vc, rfl, _⟩ := own_shape hown
      have hb0r : Below w.heap.size w wr := hb06.grown hgr hb06.size (fun g' e => by injection e with e; omega)
      by_cases hin : i < nw
      case neg =>
        obtain rfl : i = nw := by omega
        have hhr : wr.heap[br]? = some (.cells #[.slice none 0 0, .slice none 0 0, .slice none 0 0, .int .i64 0] 59 (0, 0)) := (hgr.block br (lt_of_heap0 hhr6) (by intro e; injection e with e; omega)).trans hhr6
        have b0 : wr.cell? ⟨bc, 0, none⟩ = some (.slice W1 i c1) := by simp [World.cell?, hh]
        have b1 : wr.cell? ⟨bc, 1, none⟩ = some (.slice G i g) := by simp [World.cell?, hh]
        have b2 : wr.cell? ⟨bc, 2, none⟩ = some (.slice V i vc) := by simp [World.cell?, hh]
        have b3 : wr.cell? ⟨bc, 3, none⟩ = some (.int .i64 acc) := by simp [World.cell?, hh]
        have r0 : wr.cell? ⟨br, 0, none⟩ = some (.slice none 0 0) := by simp [World.cell?, hhr]
        have r1 : wr.cell? ⟨br, 1, none⟩ = some (.slice none 0 0) := by simp [World.cell?, hhr]
        have r2 : wr.cell? ⟨br, 2, none⟩ = some (.slice none 0 0) := by simp [World.cell?, hhr]
        have r3 : wr.cell? ⟨br, 3, none⟩ = some (.int .i64 0) := by simp [World.cell?, hhr]
        have s0 : wr.frozen? ⟨br, 0, none⟩ = false := by simp [World.frozen?, hhr]
        have s1 : wr.frozen? ⟨br, 1, none⟩ = false := by simp [World.frozen?, hhr]
        have s2 : wr.frozen? ⟨br, 2, none⟩ = false := by simp [World.frozen?, hhr]
        have s3 : wr.frozen? ⟨br, 3, none⟩ = false := by simp [World.frozen?, hhr]
        have HACC : Hid (acc = sumI (recsF (totF los am ws) ls)) := by
          have h := HS.out
          rw [List.drop_of_length_le (by rw [hLT.out]; exact Nat.le_refl _)] at h
          simp [recsF, sumI] at h
          show acc = _
          rw [h]; rfl
        have hWr : wr.ownsRow w3.heap.size 69 3 (.slice W1 i c1) i (ws.flatMap Win.cells) := hown6.kept hgr (own_ne hown6 HH6.out (by decide))
        have hGr : Ints wr wc.heap.size G (totF los am ws) := hG6.grown hgr (fun g' e => by injection e with e; omega)
        rw [List.take_of_length_le (by rw [hLT.out]; exact Nat.le_refl _)] at hown
        clear hhr6 hown6 hG6
        go_wp2_with fail
        refine bodyPost_ret (v := .tuple #[.agg #[.slice W1 i c1, .slice G i g, .slice V i vc, .int .i64 acc], .int .i64 0]) (by simp [results, Try.results31, go_sem, r0, r1, r2, r3]) rfl ?_
        have k1 : wr.grownBy (wr.setCell ⟨br, 0, none⟩ (.slice W1 i c1)) (some br) := only_setCell (only_refl _ _) (.inl rfl) _
        have k2 := only_setCell k1 (p := ⟨br, 1, none⟩) (.inl rfl) (.slice G i g)
        have k3 := only_setCell k2 (p := ⟨br, 2, none⟩) (.inl rfl) (.slice V i vc)
        have k4 := only_setCell k3 (p := ⟨br, 3, none⟩) (.inl rfl) (.int .i64 acc)
        have hLR : (recsF (totF los am ws) ls).length = i := by unfold recsF; rw [List.length_map]; exact hLT.out
        refine ⟨W1, c1, G, g, V, vc, ?_, ?_, ?_, ?_, ?_⟩
        · rw [HOK.out.1, HOK.out.2.1, HOK.out.2.2, HEV.out, ← HACC.out]
          rw [hLR, hLT.out, ← HNW.out]
        · rw [HOK.out.1]
          have ho := hWr.kept k4 (own_far hWr hbr3)
          exact Sl.low (wins_of_ownE ho HNW.out) (by omega)
        · rw [HOK.out.2.1]
          exact (hGr.grown k4 (fun g' e => by injection e with e; omega)).low (by omega)
        · rw [HOK.out.2.2]
          have ho := hown.kept k4 (own_far hown (by omega))
          exact (ints_of_ownN ho hLR.symm).low hb06.size
        · exact (((hb0r.setCell hbrw _).setCell hbrw _).setCell hbrw _).setCell hbrw _
      obtain ⟨t, ht, hdt⟩ := drop_cons (xs := totF los am ws) (i := i) (by rw [hLT.out]; exact hin)
      have htb := HTB.out t (List.mem_of_getElem? ht)
      have hrk := recErr_ok HE2.out
      have hrv := recVal_bd t ls
      obtain ⟨gb, goff, rfl, hglo, hgl, t0⟩ := (hG6.grown hgr (fun g' e => by injection e with e; omega)).at_ ht
      have HDT := Lib.hid hdt
      have HT := Lib.hid ht
      clear ht hdt hrk
      go_wp2_with fail
      refine (C2.out t _ (hE.below hb0r)).mono ?_
      rintro e w7 ⟨rfl, hb7⟩
      have hh7 := (hb7.block bc (lt_of_heap0 hh)).trans hh
      have hown7 := own_below hown hb7
      have hgr7 := only_below hgr hb7
      have b2 : w7.cell? ⟨bc, 2, none⟩ = some (.slice V i vc) := by simp [World.cell?, hh7]
      have b3 : w7.cell? ⟨bc, 3, none⟩ = some (.int .i64 acc) := by simp [World.cell?, hh7]
      have f2 : w7.frozen? ⟨bc, 2, none⟩ = false := by simp [World.frozen?, hh7]
      have f3 : w7.frozen? ⟨bc, 3, none⟩ = false := by simp [World.frozen?, hh7]
      clear hh hown hgr hb7 hb0r
      have hn0 := own_far hown7 hbc6
      go_wp2_with (at_builtin; refine wpList_append_own _ rfl (.tmp 70) (.tmp 72) 24 rfl w6.heap.size 3 j0 _ 1 8 Try.underlying24 ji jz0 jz1 jz2 rfl (by decide) _ i _ rfl (own_below hown7 (below_alloc1 w7 _)) ⟨w7.heap.size, 0, none⟩ 1 1 (V1 (recVal t ls)) rfl rfl ?c1 ?c2 ?c3 ?c4 ?c5 ?_)
      case c1 => exact cell_new w7 (V1 (recVal t ls)) 3
      case c2 => intro u hu; simp [V1] at hu; rw [hu]; rfl
      case c3 => unfold maxLen; omega
      case c4 => omega
      case c5 => have := hgr7.size; simp; omega
      intro v' w8 hown8 hg8 _
      rw [recs_next HT.out] at hown8
      have hh8 : w8.heap[bc]? = some (.cells #[.slice W1 nw c1, .slice (some ⟨gb, goff, none⟩) nw g, .slice V i vc, .int .i64 acc] 59 (0, 0)) :=
        (hg8.block bc (by have := lt_of_heap0 hh7; simp; omega) (by rcases hn0 with h | h <;> intro e <;> simp_all)).trans ((Below.heap_alloc _ _ _ (lt_of_heap0 hh7)).trans hh7)
      have hgr8 : w6.grownBy w8 (some bc) := only_grown (only_alloc hgr7 _) hg8 (fun g' e => own_low hown7 g' e)
      obtain ⟨V', vc', rfl, _⟩ := own_shape hown8
      have b2' : w8.cell? ⟨bc, 2, none⟩ = some (.slice V i vc) := by simp [World.cell?, hh8]
      have b3' : w8.cell? ⟨bc, 3, none⟩ = some (.int .i64 acc) := by simp [World.cell?, hh8]
      have f2' : w8.frozen? ⟨bc, 2, none⟩ = false := by simp [World.frozen?, hh8]
      have f3' : w8.frozen? ⟨bc, 3, none⟩ = false := by simp [World.frozen?, hh8]
      clear hown7 hgr7 hg8 hh7 b2 b3 f2 f3 hn0
      go_wp2_with fail
      go_roundw
      case rel =>
        refine ⟨i + 1, .slice V' (i + 1) vc', acc + recVal t ls, by omega, by go_num, ?_, ?_, ?_, by omega, by omega, sumR_next HDT.out HS.out⟩
        · simp [World.setCell, Array.getElem?_modify, hh8]
        · have k1 : w8.grownBy (w8.setCell ⟨bc, 2, none⟩ (.slice V' (i + 1) vc')) (some bc) := only_setCell (only_refl _ _) (.inl rfl) _
          exact hown8.kept (only_setCell k1 (p := ⟨bc, 3, none⟩) (.inl rfl) (.int .i64 (acc + recVal t ls))) (own_far hown8 hbc6)
        · exact only_setCell (only_setCell hgr8 (.inl rfl) _) (.inl rfl) _
      case measure => simp [intOf]; omega

end Go.Proofs.Ytjbaildaifdgiaa
