/-
  Texts of the proof, one after the other.
-/
import Derived.Test.YtilkcailpkebdaaBase8
import Derived.Test.YtilkcailpkebdaaBase3
import Derived.Test.YtilkcailpkebdaaBase7
import Derived.Test.YtilkcailpkebdaaBase9
import Derived.RegionTactic

/-
  The best windows of losses whose hours are shifted are the shifted windows. Plain Lean.
-/
namespace Go.Proofs.Ytilkcailpkebdaa
open Go.RowKit
set_option linter.unusedVariables false

def shL (d : Int) (l : Los) : Los := ⟨l.id, l.pol, l.risk, l.hour + d, l.peril, l.area, l.cur, l.sum, l.amt, l.paid⟩
def shP (d : Int) (q : P2) : P2 := ⟨q.a + d, q.b⟩
def shW (d : Int) (x : Win) : Win := ⟨x.peril, x.fr + d, x.to + d⟩
section
variable (d : Int)
theorem sh_perils (los : List Los) : perilsF (los.map (shL d)) = perilsF los := by
  unfold perilsF perilsL; rw [List.map_map]; rfl
theorem sh_hours (p : Int) : ∀ (los : List Los) (am : List Int), hoursL (los.map (shL d)) am p = (hoursL los am p).map (· + d) := by
  intro los
  induction los with
  | nil => intro am; rfl
  | cons l ls ih =>
    intro am
    cases am with
    | nil => rfl
    | cons a ams =>
      rw [List.map_cons]
      show (if (shL d l).peril = p ∧ 0 < a then (shL d l).hour :: hoursL (ls.map (shL d)) ams p else hoursL (ls.map (shL d)) ams p) = (if l.peril = p ∧ 0 < a then l.hour :: hoursL ls ams p else hoursL ls ams p).map (· + d)
      rw [ih]
      by_cases h : l.peril = p ∧ 0 < a
      · rw [if_pos h, if_pos (show (shL d l).peril = p ∧ 0 < a from h)]; rfl
      · rw [if_neg h, if_neg (show ¬ ((shL d l).peril = p ∧ 0 < a) from h)]
theorem sh_insI (x : Int) : ∀ l : List Int, insI (l.map (· + d)) (x + d) = (insI l x).map (· + d) := by
  intro l
  induction l with
  | nil => rfl
  | cons y ys ih =>
    simp only [List.map_cons, insI]
    by_cases h1 : y < x
    · rw [if_pos h1, if_pos (by omega), ih]; rfl
    · rw [if_neg h1, if_neg (by omega)]
      by_cases h2 : y = x
      · rw [if_pos h2, if_pos (by omega)]; rfl
      · rw [if_neg h2, if_neg (by omega)]; rfl
theorem sh_insAll (xs : List Int) : insAll (xs.map (· + d)) = (insAll xs).map (· + d) := by
  have : ∀ (xs l : List Int), (xs.map (· + d)).foldl insI (l.map (· + d)) = (xs.foldl insI l).map (· + d) := by
    intro xs
    induction xs with
    | nil => intro l; rfl
    | cons x xs ih => intro l; rw [List.map_cons, List.foldl_cons, List.foldl_cons, sh_insI, ih]
  exact this xs []
theorem sh_sumAt (p h : Int) : ∀ (los : List Los) (am : List Int), sumAt (los.map (shL d)) am p (h + d) = sumAt los am p h := by
  intro los
  induction los with
  | nil => intro am; rfl
  | cons l ls ih =>
    intro am
    cases am with
    | nil => rfl
    | cons a ams =>
      rw [List.map_cons]
      show (if (shL d l).peril = p ∧ (shL d l).hour = h + d then a else 0) + sumAt (ls.map (shL d)) ams p (h + d) = (if l.peril = p ∧ l.hour = h then a else 0) + sumAt ls ams p h
      rw [ih]
      have e1 : (shL d l).peril = l.peril := rfl
      have e2 : (shL d l).hour = l.hour + d := rfl
      rw [e1, e2]
      by_cases hc : l.peril = p ∧ l.hour = h
      · rw [if_pos hc, if_pos ⟨hc.1, by omega⟩]
      · rw [if_neg hc, if_neg (fun h2 => hc ⟨h2.1, by omega⟩)]
theorem sh_pts (los : List Los) (am : List Int) (p : Int) : ptsF (los.map (shL d)) am p = (ptsF los am p).map (shP d) := by
  unfold ptsF hoursF
  rw [sh_hours, sh_insAll, List.map_map, List.map_map]
  refine List.map_congr_left fun h _ => ?_
  show (⟨h + d, sumAt (los.map (shL d)) am p (h + d)⟩ : P2) = ⟨h + d, sumAt los am p h⟩
  rw [sh_sumAt]
theorem sh_scan (L : Int) (ls : List P2) (h0 : Int) : ∀ (qs : List P2) (vs : List Int) (t b : Int), scan L ls (h0 + d) (qs.map (shP d)) vs t b = scan L ls h0 qs vs t b := by
  intro qs
  induction qs with
  | nil => intro vs t b; rw [List.map_nil, scan_nil, scan_nil]
  | cons q qs ih =>
    intro vs t b
    cases vs with
    | nil => rfl
    | cons v vs =>
      rw [List.map_cons, scan, scan, ih]
      have e : (shP d q).a - (h0 + d) = q.a - h0 := by unfold shP; dsimp only; omega
      rw [e]; rfl
theorem sh_vals (L : Int) (ls : List P2) : ∀ ps : List P2, valsF L ls (ps.map (shP d)) = valsF L ls ps := by
  intro ps
  induction ps with
  | nil => rfl
  | cons p ps ih =>
    rw [List.map_cons, valsF, valsF, ih]
    have := sh_scan d L ls p.a (p :: ps) (valsF L ls ps) 0 (hdI (valsF L ls ps))
    rw [List.map_cons] at this
    rw [show (shP d p).a = p.a + d from rfl, this]
theorem sh_valAt (L : Int) (ls ps : List P2) (j : Nat) : valAt L ls (ps.map (shP d)) j = valAt L ls ps j := by
  unfold valAt; rw [← List.map_drop, sh_vals]
theorem sh_findJ (L : Int) (ls : List P2) (h0 r : Int) : ∀ (qs : List P2) (vs : List Int) (t : Int) (j : Nat), findJ L ls (h0 + d) r (qs.map (shP d)) vs t j = findJ L ls h0 r qs vs t j := by
  intro qs
  induction qs with
  | nil => intro vs t j; rw [List.map_nil, findJ_nil, findJ_nil]
  | cons q qs ih =>
    intro vs t j
    cases vs with
    | nil => rfl
    | cons v vs =>
      rw [List.map_cons, findJ, findJ, ih]
      have e : (shP d q).a - (h0 + d) = q.a - h0 := by unfold shP; dsimp only; omega
      rw [e]; rfl
theorem sh_spans (L : Int) (ls ps : List P2) : ∀ f i, spansF L ls (ps.map (shP d)) f i = spansF L ls ps f i := by
  intro f
  induction f with
  | zero => intro i; rfl
  | succ f ih =>
    intro i
    by_cases hi : i < ps.length
    · obtain ⟨p, hp, hd⟩ := drop_cons (xs := ps) (i := i) hi
      have hp' : (ps.map (shP d))[i]? = some (shP d p) := by rw [List.getElem?_map, hp]; rfl
      have hd' : (ps.map (shP d)).drop i = shP d p :: (ps.map (shP d)).drop (i + 1) := by rw [← List.map_drop, hd, List.map_cons, List.map_drop]
      by_cases he : valAt L ls ps i = valAt L ls ps (i + 1)
      · rw [spans_eq hp he, spans_eq hp' (by rw [sh_valAt, sh_valAt]; exact he), ih]
      · obtain ⟨j, hj⟩ := findAt_some hd he
        have hj' : findAt L ls (ps.map (shP d)) i (shP d p).a = some j := by
          unfold findAt at hj ⊢
          rw [sh_valAt, ← List.map_drop, ← List.map_drop, sh_vals]
          show findJ L ls (p.a + d) _ _ _ _ _ = _
          rw [sh_findJ]; exact hj
        rw [spans_hit hp he hj, spans_hit hp' (by rw [sh_valAt, sh_valAt]; exact he) hj', ih]
    · rw [spans_end (ps := ps.map (shP d)) (by rw [List.length_map]; omega), spans_end (ps := ps) (by omega)]
theorem sh_hourAt (ps : List P2) {i : Int} (h0 : 0 ≤ i) (h1 : i < ps.length) : hourAt (ps.map (shP d)) i = hourAt ps i + d := by
  unfold hourAt
  have hl : i.toNat < ps.length := by omega
  rw [List.getElem?_map, List.getElem?_eq_getElem hl]; rfl
variable {d}
theorem sh_winsP {los : List Los} {am : List Int} {n : Int} {ls : List P2} (h : chkE los am = 0) (h' : chkE (los.map (shL d)) am = 0) (hr : recErr 0 ls = 0) (h1 : 1 ≤ n) (h2 : n ≤ 8784) (p : Int) : winsP (los.map (shL d)) am n ls p = (winsP los am n ls p).map (shW d) := by
  have c1 := chkErr_pts h hr (n := n) (by omega) p
  have c2 := chkErr_pts h' hr (n := n) (by omega) p
  unfold winsP
  have e : spansOf (ptsF (los.map (shL d)) am p) n ls = spansOf (ptsF los am p) n ls := by
    unfold spansOf
    rw [if_pos c1, if_pos c2, sh_pts, sh_spans, List.length_map]
  rw [e, List.map_map]
  refine List.map_congr_left fun s hs => ?_
  obtain ⟨g1, g2, g3⟩ := spansOf_in hs
  show winOf p (ptsF (los.map (shL d)) am p) s = shW d (winOf p (ptsF los am p) s)
  unfold winOf shW
  rw [sh_pts, sh_hourAt d _ g1 (by omega), sh_hourAt d _ (by omega) g3]
  dsimp only
  rw [show hourAt (ptsF los am p) s.b + d + 1 = hourAt (ptsF los am p) s.b + 1 + d by omega]
theorem sh_insW (w : Win) : ∀ l : List Win, insW (l.map (shW d)) (shW d w) = (insW l w).map (shW d) := by
  intro l
  induction l with
  | nil => rfl
  | cons x xs ih =>
    simp only [List.map_cons, insW]
    have e : winLt (shW d x) (shW d w) ↔ winLt x w := by unfold winLt shW; dsimp only; omega
    by_cases h : winLt x w
    · rw [if_pos h, if_pos (e.2 h), ih]; rfl
    · rw [if_neg h, if_neg (fun h2 => h (e.1 h2))]; rfl
theorem sh_best {los : List Los} {am : List Int} {n : Int} {ls : List P2} (h : chkE los am = 0) (h' : chkE (los.map (shL d)) am = 0) (hr : recErr 0 ls = 0) (h1 : 1 ≤ n) (h2 : n ≤ 8784) : bestF (los.map (shL d)) am n ls = (bestF los am n ls).map (shW d) := by
  have hc : collW (los.map (shL d)) am n ls = (collW los am n ls).map (shW d) := by
    unfold collW
    rw [sh_perils, List.map_flatMap]
    congr 1
    funext p
    exact sh_winsP h h' hr h1 h2 p
  have hf : ∀ (ws l : List Win), (ws.map (shW d)).foldl insW (l.map (shW d)) = (ws.foldl insW l).map (shW d) := by
    intro ws
    induction ws with
    | nil => intro l; rfl
    | cons w ws ih => intro l; rw [List.map_cons, List.foldl_cons, List.foldl_cons, sh_insW, ih]
  unfold bestF
  rw [hc]
  exact hf _ []
theorem sh_sum {los : List Los} {am : List Int} {n : Int} {ls : List P2} (h : chkE los am = 0) (h' : chkE (los.map (shL d)) am = 0) (hr : recErr 0 ls = 0) (h1 : 1 ≤ n) (h2 : n ≤ 8784) : sumI (bestR (los.map (shL d)) am n ls) = sumI (bestR los am n ls) := by
  obtain ⟨_, _, _, _, e, _⟩ := best_all h hr h1 h2
  obtain ⟨_, _, _, _, f, _⟩ := best_all h' hr h1 h2
  rw [e, f]
  unfold bestSum
  rw [sh_perils]
  congr 1
  refine List.map_congr_left fun p _ => ?_
  rw [sh_pts, sh_valAt]
end

end Go.Proofs.Ytilkcailpkebdaa

/-
  treatylaw26.WindowShift: the law's walk.
-/
namespace Go.Proofs.Ytilkcailpkebdaa
open Go.RowKit
set_option linter.unusedVariables false

/-- The first i losses are shifted. -/
def shTo (d : Int) (los : List Los) (i : Nat) : List Los := (los.take i).map (shL d) ++ los.drop i
theorem shTo_zero (d : Int) (los : List Los) : shTo d los 0 = los := by simp [shTo]
theorem shTo_all (d : Int) (los : List Los) : shTo d los los.length = los.map (shL d) := by simp [shTo]
theorem shTo_len (d : Int) (los : List Los) {i : Nat} (h : i ≤ los.length) : (shTo d los i).length = los.length := by simp [shTo]; omega
theorem shTo_at (d : Int) {los : List Los} {i : Nat} {l : Los} (h : los[i]? = some l) : (shTo d los i)[i]? = some l := by
  have hl := (List.getElem?_eq_some_iff.1 h).1
  unfold shTo
  rw [List.getElem?_append_right (by simp; omega), List.getElem?_drop]
  simp only [List.length_map, List.length_take]
  rw [show i + (i - min i los.length) = i by omega]; exact h
theorem shTo_next (d : Int) {los : List Los} {i : Nat} {l : Los} (h : los[i]? = some l) : (shTo d los i).set i (shL d l) = shTo d los (i + 1) := by
  have hl := (List.getElem?_eq_some_iff.1 h).1
  obtain ⟨l', hl', hd⟩ := drop_cons (xs := los) (i := i) hl
  obtain rfl : l = l' := by rw [h] at hl'; injection hl'
  unfold shTo
  rw [List.set_append_right _ _ (by simp; omega), hd, List.take_add_one, h]
  simp only [List.length_map, List.length_take]
  rw [show i - min i los.length = 0 by omega]
  simp
theorem getWin {ws : List Win} {d : Int} {i : Nat} {x : Win} (h : ws[i]? = some x) : (ws.map (shW d))[i]? = some (shW d x) := by rw [List.getElem?_map, h]; rfl

set_option maxRecDepth 100000 in
set_option maxHeartbeats 4000000 in
theorem lawShift (D : Option Addr) (dc : Nat) (deck : List Int) (O : Option Addr) (oc : Nat) (other : List Int) (d : Int) (w : World)
    (hD : Ints w 0 D deck) (hO : Ints w 0 O other) (hdl : deck.length ≤ 9223372036854775807) (hol : other.length ≤ 9223372036854775807) (hd0 : 0 ≤ d) (hd1 : d ≤ 65535) :
    Calls Try.prog 8 #[.slice D deck.length dc, .slice O other.length oc, .int .u16 d] w fun e w' => e = .returned (.bool true) ∧ Below w.heap.size w w' := by
  have C1 := Lib.hid (few26_any D dc deck w hD hdl)
  have C2 : Hid (∀ W, Ints W 0 O other → _) := fun W h => terms26_any O oc other W h hol
  obtain ⟨m0, hm0⟩ : ∃ k, k = deck.length := ⟨_, rfl⟩
  obtain ⟨o, ho⟩ : ∃ k, k = other.length := ⟨_, rfl⟩
  rw [← hm0] at C1
  rw [← ho] at C2
  rw [← hm0, ← ho]
  clear hm0 ho hdl hol
  obtain ⟨i0, hi0, hz0, hz1, hz2⟩ := info_parts Try.infoLoss
  have hwd : IntKind.i64.wrap d = d := IntWalk.i64_in _ (by omega)
  go_enter Try.func8, Try.ntmps8
  go_wp2_with fail
  refine C1.out.mono ?_
  rintro e w1 ⟨LA, lc, los, last, AA, ac, am, rfl, hl10, hmade, hal, hall, hLo, hAm, hb1⟩
  have hL1 : Losses w1 0 LA los := hLo.low (Nat.zero_le _)
  have hA1 : Ints w1 0 AA am := hAm.low (Nat.zero_le _)
  have HCE := Lib.hid (chkE_made hmade (by omega) hal hall)
  have HMR := Lib.hid (made_range hmade)
  have HCE2 : Hid (chkE (los.map (shL d)) am = 0) := chkE_small (by rw [List.length_map]; omega) (by rw [List.length_map]; exact hal) (fun l hl => by
    obtain ⟨l', hl', rfl⟩ := List.mem_map.1 hl
    have := HMR.out l' hl'
    unfold shL; dsimp only; omega) (fun a ha => by have := hall a ha; omega)
  clear hmade hall hLo hAm C1
  go_wp2_with fail
  refine (C2.out _ (hO.below hb1)).mono ?_
  rintro e w2 ⟨N, G, gc, ls, rfl, hN1, hN2, hl1, hl3, hlall, hG, hb2⟩
  have hG2 : Pairs w2 0 G ls := hG.low (Nat.zero_le _)
  have hb02 := hb1.trans (hb2.mono hb1.size)
  have HRE := Lib.hid (rec_ok (t := 0) (ls := ls) (by omega) hlall (by omega)).1
  have hL2 := hL1.below hb2
  have hA2 := hA1.below hb2
  clear hlall hG C2 hL1 hA1
  have h87 : N ≤ 8784 := by omega
  have HBA := Lib.hid (best_all HCE.out HRE.out hN1 h87)
  have HBB := Lib.hid (best_all HCE2.out HRE.out hN1 h87)
  have HSB := Lib.hid (sh_best HCE.out HCE2.out HRE.out hN1 h87)
  have HSS := Lib.hid (sh_sum HCE.out HCE2.out HRE.out hN1 h87)
  have HWR : Hid (∀ x ∈ bestW los am N ls, 0 ≤ x.peril ∧ x.peril ≤ 15 ∧ 0 ≤ x.fr ∧ x.fr < x.to ∧ x.to ≤ 876600) := fun x hx => by
    rw [HBA.out.2.1] at hx
    have hv := best_valid (los := los) (am := am) (ls := ls) HCE.out hN1 h87
    exact (winRange_iff _).1 ((wins_order N _ [] (winsE_parts hv).1 List.Pairwise.nil).2 x hx).1
  have hWS : bestW (los.map (shL d)) am N ls = (bestW los am N ls).map (shW d) := by rw [HBA.out.2.1, HBB.out.2.1]; exact HSB.out
  have hm10 : (bestW los am N ls).length ≤ 10 := by rw [HBA.out.2.1]; exact Nat.le_trans best_len hl10
  have E1 := Lib.hid (wbest_any LA lc los AA ac am N G gc ls w2 (by omega) (by omega) (by omega) hL2 hA2 hG2)
  have E2 : Hid (∀ (Y : Option Addr) (yc : Nat) W, Losses W 0 Y (los.map (shL d)) → Below w2.heap.size w2 W → _) := fun Y yc W h hb => wbest_any Y yc (los.map (shL d)) AA ac am N G gc ls W (by rw [List.length_map]; omega) (by omega) (by omega) h (hA2.below hb) (hG2.below hb)
  rw [HBA.out.1] at E1
  rw [HBB.out.1, HSS.out, hWS, List.length_map, List.length_map] at E2
  obtain ⟨ws, hws⟩ : ∃ k, k = bestW los am N ls := ⟨_, rfl⟩
  rw [← hws] at E1 E2 HWR hm10
  obtain ⟨m, hm⟩ : ∃ k, k = ws.length := ⟨_, rfl⟩
  rw [← hm] at E1 E2 hm10
  obtain ⟨r1, hr1⟩ : ∃ k, k = bestR los am N ls := ⟨_, rfl⟩
  obtain ⟨r2, hr2⟩ : ∃ k, k = bestR (los.map (shL d)) am N ls := ⟨_, rfl⟩
  obtain ⟨t1, ht1⟩ : ∃ k, k = bestT los am N ls := ⟨_, rfl⟩
  obtain ⟨t2, ht2⟩ : ∃ k, k = bestT (los.map (shL d)) am N ls := ⟨_, rfl⟩
  rw [← hr1, ← ht1] at E1
  rw [← hr1, ← hr2, ← ht2] at E2
  obtain ⟨gs, hgs⟩ : ∃ k, k = sumI r1 := ⟨_, rfl⟩
  rw [← hgs] at E1 E2
  have HM := Lib.hid hm
  obtain ⟨nl, hnl⟩ : ∃ k, k = los.length := ⟨_, rfl⟩
  have hna : am.length = nl := by omega
  rw [← hnl, hna] at E1 E2
  rw [← hnl]
  rw [← hnl] at hl10
  have HNL := Lib.hid hnl
  obtain ⟨ng, hng⟩ : ∃ k, k = ls.length := ⟨_, rfl⟩
  rw [← hng] at E1 E2
  rw [← hng]
  clear hws hm hr1 hr2 ht1 ht2 hgs hnl hna hng HBA HBB HSB HSS hWS hal hl1 hl3
  go_wp2_with fail
  refine E1.out.mono ?_
  rintro e w3 ⟨W1, wc1, T1, tc1, R1, rc1, rfl, hW1, _, _, hb3, _⟩
  obtain ⟨v5, hv5⟩ : ∃ x : World, x = w3.alloc (.cells #[.slice W1 m wc1, .slice T1 t1.length tc1, .slice R1 r1.length rc1, .int .i64 gs] 46) := ⟨_, rfl⟩
  obtain ⟨p1, hp1⟩ : ∃ x : Nat, x = w3.heap.size := ⟨_, rfl⟩
  have hB1 : v5.heap[p1]? = some (.cells #[.slice W1 m wc1, .slice T1 t1.length tc1, .slice R1 r1.length rc1, .int .i64 gs] 46 (0, 0)) := by rw [hv5, hp1]; exact heap_alloc_new _ _
  have hX1 : Below w3.heap.size w3 v5 := by rw [hv5]; exact below_alloc _ _
  have hb25 := hb3.trans (hX1.mono hb3.size)
  have hW5 : Wins v5 0 W1 ws := (hW1.below hX1).low (Nat.zero_le _)
  have hL5 := hL2.below hb25
  clear hb3 hX1 hW1 E1
  go_upto_region 4 with fail
  rw [← hv5, ← hp1]
  clear hv5 hp1
  have hsrc : SrcG Los.cells (v5.alloc (.cells #[] 55)) LA los := srcG_of_sl (k := 10) (fun _ => rfl) (by omega) (Losses.below hL5 (below_alloc _ _))
  go_wp2_with (at_builtin; refine wpList_append_src Los.cells rfl (.tmp 37) (.tmp 38) 22 rfl v5.heap.size 55 i0 _ 10 80 Try.underlying22 hi0 hz0 hz1 hz2 rfl (by decide) (by decide) (fun _ => rfl) los_one _ 0 [] rfl (own_void v5 55 10) LA nl lc los HNL.out rfl hsrc (by omega) (by simp) ?_)
  intro v' w6 hown6 hg6
  have hb56 : Below v5.heap.size v5 w6 := (below_alloc v5 _).grown hg6 (by simp) (fun g hg => by simp [Value.ownBlock] at hg; omega)
  try simp only [List.nil_append, Nat.zero_add] at hown6
  clear hsrc hg6
  obtain ⟨V, vc, rfl, _⟩ := own_shape hown6
  go_wp2_with fail
  go_loopw [14, 42] (fun _ ii wr => ∃ i : Nat, i ≤ nl ∧ ii = .int .i64 i ∧ wr.ownsRow v5.heap.size 55 10 (.slice V nl vc) nl ((shTo d los i).flatMap Los.cells) ∧ Below v5.heap.size v5 wr) (fun _ ii _ => nl - (intOf ii).toNat)
  case atStart => exact ⟨0, Nat.zero_le _, rfl, by rw [shTo_zero]; exact hown6, hb56⟩
  case round =>
    obtain ⟨i, hi, rfl, hown, hbr⟩ := hrel
    obtain ⟨wo, hwo⟩ : ∃ wo : World, wo = wr := ⟨_, rfl⟩
    rw [← hwo] at hbr hown ⊢
    clear hwo
    clear hown6 hb56
    by_cases hin : i < nl
    case pos =>
      obtain ⟨l, hl, _⟩ := drop_cons (xs := los) (i := i) (by rw [← HNL.out]; exact hin)
      have hlr := HMR.out l (List.mem_of_getElem? hl)
      obtain ⟨g, c, hv, hgb, hgl⟩ := own_row_of hown (by omega)
      obtain ⟨rfl, rfl⟩ : V = some ⟨g, 0, none⟩ ∧ vc = c := by injection hv with a1 a2 a3; exact ⟨a1, a3⟩
      have hLs : Losses wo 0 (some ⟨g, 0, none⟩) (shTo d los i) := (sl_of_own (enc := Los.cells) (fun _ => rfl) (by rw [shTo_len d los (by rw [← HNL.out]; omega), ← HNL.out]; exact hown)).low (Nat.zero_le _)
      obtain ⟨b3, o3, e3, _, _, _, _, _, c3, _⟩ := hLs.at_ (shTo_at d hl)
      obtain ⟨rfl, rfl⟩ : g = b3 ∧ o3 = 0 := by
        have := Option.some.inj e3
        injection this with a1 a2 a3
        exact ⟨a1, a2.symm⟩
      have HST := Lib.hid ((hown.stored (i * 10 + 3) (.int .i64 (l.hour + d))).1)
      have e4 := flat_set1 Los.cells 10 (fun _ => rfl) 3 (by omega) (.int .i64 (l.hour + d)) (shL d l) i (shTo d los i) l (shTo_at d hl) rfl
      rw [e4, shTo_next d hl] at HST
      have hfz : wo.frozen? ⟨g, 0 + i * 10 + 3, none⟩ = false := by
        rcases hown.2 with ⟨h0, _⟩ | ⟨g', cap, cur, hv', _, hh, _⟩
        · cases h0
        · injection hv' with a1 a2 a3
          injection a1 with a1
          injection a1 with a1
          subst a1
          simp [World.frozen?, hh]
      have hwr : IntKind.i64.wrap (l.hour + d) = l.hour + d := IntWalk.i64_in _ (by omega)
      have hin' : (i : Int) < (nl : Int) := by omega
      have HB := Lib.hid ((hbr.setCell (p := ⟨g, i * 10 + 3, none⟩) hgb (.int .i64 (l.hour + d))))
      rw [Nat.zero_add] at c3 hfz
      clear hv e3 e4 hown hl
      go_wp2_with fail
      go_roundw
      case rel => exact ⟨i + 1, by omega, by go_num, HST.out, HB.out⟩
      case measure => simp [intOf]; omega
    obtain rfl : i = nl := by omega
    have hLs : Losses wo 0 V (los.map (shL d)) := by
      have e := shTo_all d los
      rw [← HNL.out] at e
      rw [e] at hown
      refine (sl_of_own (enc := Los.cells) (e := 55) (base := v5.heap.size) (c := vc) (fun _ => rfl) ?_).low (Nat.zero_le _)
      rw [List.length_map, ← HNL.out]; exact hown
    have hb2o := hb25.trans (hbr.mono hb25.size)
    have D2 := Lib.hid (E2.out V vc wo hLs hb2o)
    clear hown hLs E2
    go_wp2_with fail
    refine D2.out.mono ?_
    rintro e w7 ⟨W2, wc2, T2, tc2, R2, rc2, rfl, hW2, _, _, hb7, _⟩
    obtain ⟨v8, hv8⟩ : ∃ x : World, x = w7.alloc (.cells #[.slice W2 m wc2, .slice T2 t2.length tc2, .slice R2 r2.length rc2, .int .i64 gs] 46) := ⟨_, rfl⟩
    obtain ⟨p2, hp2⟩ : ∃ x : Nat, x = w7.heap.size := ⟨_, rfl⟩
    have hB2 : v8.heap[p2]? = some (.cells #[.slice W2 m wc2, .slice T2 t2.length tc2, .slice R2 r2.length rc2, .int .i64 gs] 46 (0, 0)) := by rw [hv8, hp2]; exact heap_alloc_new _ _
    have hX2 : Below w7.heap.size w7 v8 := by rw [hv8]; exact below_alloc _ _
    have hbo8 := hb7.trans (hX2.mono hb7.size)
    have hb58 := hbr.trans (hbo8.mono hbr.size)
    have hB1' := (hb58.block _ (lt_of_heap0 hB1)).trans hB1
    have hW8 := hW5.below hb58
    have hW8' : Wins v8 0 W2 (ws.map (shW d)) := (hW2.below hX2).low (Nat.zero_le _)
    have hb28 := hb25.trans (hb58.mono hb25.size)
    have hb08 := hb02.trans (hb28.mono hb02.size)
    have c10 : v8.cell? ⟨p1, 0, none⟩ = some (.slice W1 m wc1) := by simp [World.cell?, hB1']
    have c13 : v8.cell? ⟨p1, 3, none⟩ = some (.int .i64 gs) := by simp [World.cell?, hB1']
    have c20 : v8.cell? ⟨p2, 0, none⟩ = some (.slice W2 m wc2) := by simp [World.cell?, hB2]
    have c23 : v8.cell? ⟨p2, 3, none⟩ = some (.int .i64 gs) := by simp [World.cell?, hB2]
    have q1 : ((m : Int) != (m : Int)) = false := by simp
    have q2 : (m != m) = false := by simp
    have q3 : (gs != gs) = false := by simp
    clear hX2 hb7 hbo8 hW2 D2 hbr hb2o
    go_upto_region 11 with fail
    rw [← hv8, ← hp2]
    clear hv8 hp2
    go_wp2_with fail
    go_loopw [17, 18, 89] (fun _ _ ii wr => ∃ j : Nat, j ≤ m ∧ ii = .int .i64 j ∧ Below v8.heap.size v8 wr) (fun _ _ ii _ => m - (intOf ii).toNat)
    case atStart => exact ⟨0, Nat.zero_le _, rfl, Below.refl _ _⟩
    case round =>
      obtain ⟨j, hj, rfl, hbr⟩ := hrel
      obtain ⟨wq, hwq⟩ : ∃ wq : World, wq = wr := ⟨_, rfl⟩
      rw [← hwq] at hbr ⊢
      clear hwq c10 c13 c20 c23
      by_cases hjm : j < m
      case neg =>
        have hb0 := hb08.trans (hbr.mono hb08.size)
        go_wp2_with (go_at_call 27; refine (awake26_any _).mono ?_; rintro e w11 ⟨rfl, hb11⟩)
        go_ret
        exact ⟨rfl, hb0.trans (hb11.mono hb0.size)⟩
      obtain ⟨x, hx, _⟩ := drop_cons (xs := ws) (i := j) (by rw [← HM.out]; exact hjm)
      obtain ⟨x1, x2, x3, x4, x5⟩ := HWR.out x (List.mem_of_getElem? hx)
      obtain ⟨b1, o1, rfl, _, _, y0, y1, y2⟩ := (hW8.below hbr).at_ hx
      obtain ⟨b2, o2, rfl, _, hb2l, u0, u1, u2⟩ := (hW8'.below hbr).at_ (getWin (d := d) hx)
      unfold shW at u0 u1 u2
      dsimp only at u0 u1 u2
      have hB2q := (hbr.block p2 (lt_of_heap0 hB2)).trans hB2
      obtain ⟨wb, hwb⟩ : ∃ wb : World, wb = wq.alloc (.cells #[.int .i64 x.peril, .int .i64 x.fr, .int .i64 x.to] 53) := ⟨_, rfl⟩
      obtain ⟨bx, hbx⟩ : ∃ bx, bx = wq.heap.size := ⟨_, rfl⟩
      have hbb : Below wq.heap.size wq wb := by rw [hwb]; exact below_alloc _ _
      have hB2b := (hbb.block p2 (lt_of_heap0 hB2q)).trans hB2q
      have z0 : wb.cell? ⟨bx, 0, none⟩ = some (.int .i64 x.peril) := by rw [hwb, hbx]; simp
      have z1 : wb.cell? ⟨bx, 1, none⟩ = some (.int .i64 x.fr) := by rw [hwb, hbx]; simp
      have z2 : wb.cell? ⟨bx, 2, none⟩ = some (.int .i64 x.to) := by rw [hwb, hbx]; simp
      have k0 : wb.cell? ⟨p2, 0, none⟩ = some (.slice (some ⟨b2, o2, none⟩) m wc2) := by simp [World.cell?, hB2b]
      have n0 : wb.cell? ⟨b2, o2 + j * 3, none⟩ = some (.int .i64 x.peril) := (hbb.cell (p := ⟨b2, _, none⟩) hb2l).trans u0
      have n1 : wb.cell? ⟨b2, o2 + j * 3 + 1, none⟩ = some (.int .i64 (x.fr + d)) := (hbb.cell (p := ⟨b2, _, none⟩) hb2l).trans u1
      have n2 : wb.cell? ⟨b2, o2 + j * 3 + 2, none⟩ = some (.int .i64 (x.to + d)) := (hbb.cell (p := ⟨b2, _, none⟩) hb2l).trans u2
      have hw1 : IntKind.i64.wrap (x.fr + d) = x.fr + d := IntWalk.i64_in _ (by omega)
      have hw2 : IntKind.i64.wrap (x.to + d) = x.to + d := IntWalk.i64_in _ (by omega)
      have hjm' : (j : Int) < (m : Int) := by omega
      have hbv := hbr.trans (hbb.mono hbr.size)
      clear u0 u1 u2 hx
      go_upto_region 16 with fail
      rw [← hwb, ← hbx]
      clear hwb hbx
      go_quiet (fail)
      go_wp2_with fail
      go_roundw
      case rel => exact ⟨j + 1, by omega, by go_num, below_drewN hbv _⟩
      case measure => simp [intOf]; omega

end Go.Proofs.Ytilkcailpkebdaa
