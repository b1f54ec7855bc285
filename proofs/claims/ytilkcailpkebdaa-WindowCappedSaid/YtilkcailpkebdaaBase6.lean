/-
  Texts of the proof, one after the other.
-/
import Derived.Test.YtilkcailpkebdaaBase1
import Derived.Test.YtilkcailpkebdaaBase5
import Derived.Test.YtilkcailpkebdaaShelf
import Derived.Test.YtilkcailpkebdaaBase4
import Derived.Test.YtilkcailpkebdaaBase3
import Derived.Maps.OwnOps
import Derived.Maps.OwnSet
import Derived.Maps.RangeWalk
import Derived.StillTailTactics
import Derived.Outline

/-
  event.Points: its contract.
-/
namespace Go.Proofs.Ytilkcailpkebdaa
open Go.RowKit Go.Maps Go.Sort
set_option linter.unusedVariables false

theorem lawK : Keyed Try.prog 3 := int_keyed Try.underlying3
theorem zeroI (w : World) : (zeroValue 3).run Try.prog w = .ok (.int .i64 0) w := by kernel_rfl

/-- Points whose hours are hours. -/
structure HP where
  p : P2
  lo : 0 ≤ p.a
  hi : p.a ≤ 876599
instance : Inhabited HP := ⟨⟨⟨0, 0⟩, by decide, by decide⟩⟩
def HP.cells (x : HP) : List Value := P2.cells x.p
def cmpHP (x y : HP) : Int := x.p.a - y.p.a
theorem swoHP : SWO (ltOf cmpHP) where
  irrefl x := by simp [ltOf, cmpHP]
  trans x y z h1 h2 := by unfold ltOf cmpHP at *; have a := of_decide_eq_true h1; have b := of_decide_eq_true h2; exact decide_eq_true (by omega)
  ntrans x y z h1 h2 := by unfold ltOf cmpHP at *; have a := of_decide_eq_false h1; have b := of_decide_eq_false h2; exact decide_eq_false (by omega)

set_option maxHeartbeats 1000000 in
theorem closureP (x y : HP) (W : World) : Calls Try.prog 38 #[.agg (HP.cells x).toArray, .agg (HP.cells y).toArray] W fun e w' => e = .returned (.int .i64 (cmpHP x y)) ∧ ∃ q os', w' = Sort.grow (W.drewN q) os' := by
  obtain ⟨⟨a, b⟩, h, h2⟩ := x
  obtain ⟨⟨c, d⟩, h', h2'⟩ := y
  dsimp only at h h' h2 h2'
  show Calls Try.prog 38 #[.agg #[.int .i64 a, .int .i64 b], .agg #[.int .i64 c, .int .i64 d]] W fun e w' => e = .returned (.int .i64 (a - c)) ∧ ∃ q os', w' = Sort.grow (W.drewN q) os'
  go_enter Try.func38, Try.ntmps38
  go_wp2_with fail
  go_ret
  exact ⟨rfl, 0, _, by rw [alloc_eq_grow, alloc_eq_grow, grow_grow]; rfl⟩
theorem cmpLaysP (blk off size : Nat) (w : World) : CmpLays Try.prog 38 #[] HP.cells 2 cmpHP blk off size w :=
  fun _ _ _ _ x y => closureP x y _

theorem isAggP (w : World) : (isAgg 36).run Try.prog w = .ok true w := by kernel_rfl
theorem sizeP (w : World) : (Go.sizeOf 36).run Try.prog w = .ok 2 w := by kernel_rfl
theorem hp_flat {ds : List HP} {ps : List P2} (h : ds.map HP.p = ps) : ds.flatMap HP.cells = ps.flatMap P2.cells := by
  subst h
  induction ds with
  | nil => rfl
  | cons d ds ih => rw [List.flatMap_cons, List.map_cons, List.flatMap_cons, ih]; rfl

/-- slices.SortFunc at points: a permutation in order of the hours, in the same row. -/
theorem sortP (g cap base n : Nat) (ps : List P2) (w : World) (hown : w.ownsRow base 36 2 (.slice (some ⟨g, 0, none⟩) n cap) n (ps.flatMap P2.cells)) (hn : n = ps.length) (hp : ∀ p ∈ ps, 0 ≤ p.a ∧ p.a ≤ 876599) (hl : n ≤ 1000) :
    Calls Try.prog 37 #[.slice (some ⟨g, 0, none⟩) n cap, .func (.func 38) #[] #[]] w fun e w' => e = .returned (.tuple #[]) ∧
      ∃ qs : List P2, qs.Perm ps ∧ qs.Pairwise (fun a b => a.a ≤ b.a) ∧ w'.ownsRow base 36 2 (.slice (some ⟨g, 0, none⟩) n cap) n (qs.flatMap P2.cells) ∧ w.grownBy w' (some g) := by
  obtain ⟨ds, hds⟩ : ∃ ds : List HP, ds.map HP.p = ps := ⟨ps.attach.map fun x => ⟨x.1, (hp x.1 x.2).1, (hp x.1 x.2).2⟩, by rw [List.map_map]; exact List.attach_map_subtype_val ps⟩
  have hdl : n = ds.length := by rw [hn, ← hds, List.length_map]
  have hown' := hown
  rw [← hp_flat hds] at hown'
  have eg : ∀ args w, (callFunc 38 args).run Try.prog w = .ok (.enter 38 args) w := enters_of Try.func38 (by kernel_rfl) rfl
  have hH : HoldsK HP.cells 2 w g 0 ds.toArray := holdsK_of_own (enc := HP.cells) (k := 2) (fun _ => rfl) (by omega) hown' hdl
  have hcon := AnyQ.slices_SortFunc Try.sortPoint 2 isAggP sizeP HP.cells (fun _ => rfl) (fun x v hv => by simp [HP.cells, P2.cells] at hv; rcases hv with rfl | rfl <;> rfl) cmpHP swoHP 38 #[] g 0 cap ds.toArray w eg (cmpLaysP g 0 ds.toArray.size w) hH (own_lt hown g rfl) (by simp only [List.size_toArray]; omega)
  change Calls Try.prog 37 _ _ _ at hcon
  have hsz : ds.toArray.size = n := by simp [hdl]
  rw [hsz] at hcon
  refine hcon.mono ?_
  rintro e w' ⟨rfl, d', q, os, hpm, hst, rfl⟩
  rw [← hsz] at hpm hst
  obtain ⟨h1, h2⟩ := sorted_list hpm hst
  refine ⟨rfl, d'.toList.map HP.p, ?_, ?_, ?_, ?_⟩
  · rw [← hds]; exact h1.map _
  · refine List.pairwise_map.2 (h2.imp ?_)
    intro a b hab
    unfold ltOf cmpHP at hab
    have := of_decide_eq_false hab
    omega
  · have hlen : d'.toList.length = n := by rw [h1.length_eq]; exact hdl.symm
    have o := own_sortK (enc := HP.cells) (k := 2) (fun _ => rfl) (by omega) (q := q) hown d'.toList hlen
    rw [hp_flat rfl] at o
    exact o.kept (grown_grow _ os) (by simp [Value.ownBlock])
  · exact only_grown (grown_putRow id w q g 0 _) (grown_grow _ os) (fun g' h => by cases h)

theorem sumAt_snoc (p h : Int) : ∀ (ls : List Los) (ams : List Int) (l : Los) (a : Int), ls.length = ams.length → sumAt (ls ++ [l]) (ams ++ [a]) p h = sumAt ls ams p h + if l.peril = p ∧ l.hour = h then a else 0 := by
  intro ls
  induction ls with
  | nil =>
    intro ams l a hl
    cases ams with
    | nil => simp [sumAt]
    | cons b bs => simp at hl
  | cons x xs ih =>
    intro ams l a hl
    cases ams with
    | nil => simp at hl
    | cons b bs =>
      simp only [List.cons_append, sumAt]
      rw [ih bs l a (by simpa using hl)]
      omega
theorem sumAt_next {los : List Los} {am : List Int} {k : Nat} {l : Los} {a : Int} (hlen : am.length = los.length) (hl : los[k]? = some l) (ha : am[k]? = some a) (p h : Int) : sumAt (los.take (k + 1)) (am.take (k + 1)) p h = sumAt (los.take k) (am.take k) p h + if l.peril = p ∧ l.hour = h then a else 0 := by
  have h1 := (List.getElem?_eq_some_iff.1 hl).1
  have h2 := (List.getElem?_eq_some_iff.1 ha).1
  rw [List.take_add_one, List.take_add_one, hl, ha]
  exact sumAt_snoc p h _ _ l a (by rw [List.length_take, List.length_take]; omega)
def eptsF (los : List Los) (am : List Int) (p : Int) : List P2 := if chkE los am = 0 then ptsF los am p else []

/-- The map of the hours behind k losses. -/
def MapAt (los : List Los) (am : List Int) (p : Int) (D : DataW Unit) : Prop := IsMap D ∧ ∀ h : Int, D.atKey (.int .i64 h) (.lit (.int .i64 0)) = .lit (.int .i64 (sumAt los am p h))
/-- What has been collected. -/
structure Coll (S : Int → Int) (left : Lit → Bool) (ps : List P2) : Prop where
  uniq : ps.Pairwise (fun a b => a.a ≠ b.a)
  each : ∀ x ∈ ps, x.b = S x.a ∧ 0 < x.b ∧ left (.int .i64 x.a) = false ∧ 0 ≤ x.a ∧ x.a ≤ 876599
  all : ∀ h, 0 < S h → left (.int .i64 h) = false → ∃ x ∈ ps, x.a = h
theorem Coll.start {los : List Los} {am : List Int} {p : Int} {D : DataW Unit} (h : MapAt los am p D) : Coll (sumAt los am p) (Maps.has D) [] := by
  refine ⟨List.Pairwise.nil, fun x hx => by simp at hx, fun t ht hl => ?_⟩
  have := h.2 t
  rw [atKey_of_not_has hl] at this
  injection this with this
  injection this with _ this
  omega
theorem same_int (z : Int) (x : Int) : (Lit.int .i64 z).sameKey (.int .i64 x) = decide (z = x) := by simp [Lit.sameKey]
theorem Coll.keep {S : Int → Int} {left : Lit → Bool} {ps : List P2} (h : Coll S left ps) {x c : Int} (hl : left (.int .i64 x) = true) (hc : c = S x) (h0 : 0 < c) (hr : 0 ≤ x ∧ x ≤ 876599) : Coll S (fun z => left z && !z.sameKey (.int .i64 x)) (ps ++ [⟨x, c⟩]) := by
  refine ⟨?_, ?_, ?_⟩
  · refine List.pairwise_append.2 ⟨h.uniq, by simp, fun a ha b hb => ?_⟩
    obtain rfl : b = _ := by simpa using hb
    intro e
    have := (h.each a ha).2.2.1
    dsimp only at e
    rw [e, hl] at this; cases this
  · intro y hy
    rcases List.mem_append.1 hy with hy | hy
    · obtain ⟨h1, h2, h3, h4⟩ := h.each y hy
      exact ⟨h1, h2, by simp [h3], h4⟩
    · obtain rfl : y = _ := by simpa using hy
      exact ⟨hc, h0, by simp [same_int], hr⟩
  · intro t ht hlt
    by_cases e : t = x
    · subst e; exact ⟨⟨t, c⟩, by simp, rfl⟩
    · rw [same_int] at hlt
      simp [e] at hlt
      obtain ⟨y, hy, e2⟩ := h.all t ht hlt
      exact ⟨y, by simp [hy], e2⟩
theorem Coll.skip {S : Int → Int} {left : Lit → Bool} {ps : List P2} (h : Coll S left ps) {x c : Int} (hc : c = S x) (h0 : ¬ 0 < c) : Coll S (fun z => left z && !z.sameKey (.int .i64 x)) ps := by
  refine ⟨h.uniq, fun y hy => ?_, fun t ht hlt => ?_⟩
  · obtain ⟨h1, h2, h3, h4⟩ := h.each y hy
    exact ⟨h1, h2, by simp [h3], h4⟩
  · have e : t ≠ x := by rintro rfl; omega
    rw [same_int] at hlt
    simp [e] at hlt
    exact h.all t ht hlt
theorem Coll.done {los : List Los} {am : List Int} {p : Int} (hn : ∀ a ∈ am, 0 ≤ a) {left : Lit → Bool} {ps qs : List P2} (h : Coll (sumAt los am p) left ps) (hl : ∀ kl, left kl = false) (hq : qs.Perm ps) (hs : qs.Pairwise (fun a b => a.a ≤ b.a)) : qs = ptsF los am p := by
  have hu : qs.Pairwise (fun a b => a.a ≠ b.a) := (hq.pairwise_iff (fun hab e => hab e.symm)).2 h.uniq
  refine pts_ext hn (List.Pairwise.imp₂ (fun h1 h2 => by omega) hs hu) (fun t => ?_) (fun x hx => (h.each x (hq.mem_iff.1 hx)).1)
  constructor
  · rintro ⟨s, hs⟩
    have := h.each _ (hq.mem_iff.1 hs)
    dsimp only at this
    rw [← this.1]; exact this.2.1
  · intro ht
    obtain ⟨x, hx, rfl⟩ := h.all t ht (hl _)
    exact ⟨x.b, hq.mem_iff.2 hx⟩

end Go.Proofs.Ytilkcailpkebdaa

/-
  event.Points: its walk.
-/
namespace Go.Proofs.Ytilkcailpkebdaa
open Go.RowKit Go.Maps
set_option linter.unusedVariables false

theorem fold_sumI (am : List Int) : am.foldr (· + ·) 0 = sumI am := by
  induction am with
  | nil => rfl
  | cons a l ih => simp only [List.foldr_cons, sumI, ih]
theorem sumI_take {am : List Int} (h : ∀ a ∈ am, 0 ≤ a) (k : Nat) : sumI (am.take k) ≤ sumI am := by
  induction am generalizing k with
  | nil => simp
  | cons a l ih =>
    cases k with
    | zero =>
      have h1 := h a (by simp)
      have h2 := ih (fun x hx => h x (by simp [hx])) 0
      simp only [List.take_zero, sumI] at h2 ⊢; omega
    | succ k =>
      have h2 := ih (fun x hx => h x (by simp [hx])) k
      simp only [List.take_succ_cons, sumI]; omega
theorem sumAt_bd {los : List Los} {am : List Int} (h : ∀ a ∈ am, 0 ≤ a) (k : Nat) (p t : Int) : 0 ≤ sumAt (los.take k) (am.take k) p t ∧ sumAt (los.take k) (am.take k) p t ≤ sumI am := by
  have hk : ∀ a ∈ am.take k, 0 ≤ a := fun a ha => h a (List.mem_of_mem_take ha)
  have h1 := sumAt_nonneg (los := los.take k) hk p t
  have h2 := sumAt_le (los := los.take k) hk p t
  rw [fold_sumI] at h2
  have h3 := sumI_take h k
  omega
theorem MapAt.put {los : List Los} {am : List Int} {k : Nat} {l : Los} {a p cv : Int} {D : DataW Unit} (h : MapAt (los.take k) (am.take k) p D) (hlen : am.length = los.length) (hl : los[k]? = some l) (ha : am[k]? = some a) (hp : l.peril = p) (hc : cv = sumAt (los.take k) (am.take k) p l.hour) :
    MapAt (los.take (k + 1)) (am.take (k + 1)) p (D.put (.int .i64 l.hour) (.lit (.int .i64 (cv + a)))) := by
  obtain ⟨es, rfl⟩ := h.1
  refine ⟨⟨_, rfl⟩, fun t => ?_⟩
  rw [sumAt_next hlen hl ha]
  by_cases ht : t = l.hour
  · subst ht
    rw [atKey_put_same h.1 (by trivial), if_pos ⟨hp, rfl⟩, hc]
  · rw [atKey_put_other (by intro e; injection e with _ e; exact ht e), if_neg (fun e => ht e.2.symm), Int.add_zero]
    exact h.2 t
theorem MapAt.pass {los : List Los} {am : List Int} {k : Nat} {l : Los} {a p : Int} {D : DataW Unit} (h : MapAt (los.take k) (am.take k) p D) (hlen : am.length = los.length) (hl : los[k]? = some l) (ha : am[k]? = some a) (hp : l.peril ≠ p) : MapAt (los.take (k + 1)) (am.take (k + 1)) p D := by
  refine ⟨h.1, fun t => ?_⟩
  rw [sumAt_next hlen hl ha, if_neg (fun e => hp e.1), Int.add_zero]
  exact h.2 t
theorem MapAt.val {los : List Los} {am : List Int} {p t cv : Int} {D : DataW Unit} (h : MapAt los am p D) (hat : D.atKey (.int .i64 t) (.lit (.int .i64 0)) = .lit (.int .i64 cv)) : cv = sumAt los am p t := by
  rw [h.2 t] at hat
  injection hat with hat
  injection hat with _ hat
  exact hat.symm

theorem flat_snoc2 {w : World} {base n : Nat} {e : TypeId} {v : Value} {ps : List P2} {x : P2} (h : w.ownsRow base e 2 v n (ps.flatMap P2.cells ++ P2.cells x)) : w.ownsRow base e 2 v n ((ps ++ [x]).flatMap P2.cells) := by
  have e1 : (ps ++ [x]).flatMap P2.cells = ps.flatMap P2.cells ++ P2.cells x := by simp
  rw [e1]; exact h
theorem hours_range {los : List Los} {am : List Int} {p t : Int} (h : (los.zip am).all pairOk = true) (ht : t ∈ hoursL los am p) : 0 ≤ t ∧ t ≤ 876599 := by
  induction los generalizing am with
  | nil => simp [hoursL] at ht
  | cons l ls ih =>
    cases am with
    | nil => simp [hoursL] at ht
    | cons a ams =>
      simp only [List.zip_cons_cons, List.all_cons, Bool.and_eq_true] at h
      simp only [hoursL] at ht
      split at ht
      · rcases List.mem_cons.1 ht with rfl | ht
        · have := (pairOk_iff l a).1 h.1; omega
        · exact ih h.2 ht
      · exact ih h.2 ht

set_option maxRecDepth 100000 in
set_option maxHeartbeats 2000000 in
theorem epoints_any (A : Option Addr) (c : Nat) (los : List Los) (M : Option Addr) (mc : Nat) (am : List Int) (p : Int) (w : World) (hll : los.length ≤ 1000) (hal : am.length ≤ 1000) (hL : Losses w 0 A los) (hM : Ints w 0 M am) :
    Calls Try.prog 14 #[.slice A los.length c, .slice M am.length mc, .int .i64 p] w fun e w' => ∃ v, e = .returned (.tuple #[v, .int .i64 (chkE los am)]) ∧ w'.ownsRow w.heap.size 36 2 v (eptsF los am p).length ((eptsF los am p).flatMap P2.cells) ∧ Below w.heap.size w w' := by
  have C1 := Lib.hid (checkE_any A c los M mc am w (by omega) (by omega) hL hM)
  obtain ⟨n, hn⟩ : ∃ k, k = los.length := ⟨_, rfl⟩
  obtain ⟨na, hna⟩ : ∃ k, k = am.length := ⟨_, rfl⟩
  rw [← hn, ← hna] at C1 ⊢
  rw [← hn] at hll
  rw [← hna] at hal
  have HN := Lib.hid hn
  have HNA := Lib.hid hna
  clear hn hna
  have hmm := @run_makeMap Try.prog
  by_cases hE : chkE los am = 0
  case neg =>
    have q : (chkE los am != 0) = true := by simpa using hE
    have HX : Hid (eptsF los am p = []) := by unfold eptsF; rw [if_neg hE]; rfl
    clear hE
    go_enter Try.func14, Try.ntmps14
    go_wp2_with (go_at_call 36; refine C1.out.mono ?_; rintro e w1 ⟨rfl, hb1⟩)
    go_ret2
    refine ⟨_, rfl, ?_, hb1⟩
    rw [HX.out]; exact own_nil _ _ _ _
  have hG := goodE_of hE
  have hna : na = n := by rw [HNA.out, HN.out]; exact hG.same
  subst hna
  have HX : Hid (eptsF los am p = ptsF los am p) := by unfold eptsF; rw [if_pos hE]; rfl
  have HE := Lib.hid hE
  have q : (chkE los am != 0) = false := by rw [hE]; rfl
  have hn64 : na ≤ 64 := by rw [HN.out]; exact hG.len
  have HAMB := Lib.hid (fun a ha => (zip_amounts hG.same hG.all a ha).1)
  have HSUM := Lib.hid hG.sum
  have HALL := Lib.hid hG.all
  rw [hE] at C1
  rw [hE]
  clear hE hG
  go_enter Try.func14, Try.ntmps14
  go_wp2_with fail
  refine C1.out.mono ?_
  rintro e w1 ⟨rfl, hb1⟩
  go_wp2_with fail
  obtain ⟨B, hB⟩ : ∃ B, B = w1.heap.size := ⟨_, rfl⟩
  have hown0 := World.ownsMap_made w1 Try.prog 3 (plainElem (H := Unit) Try.prog 3)
  have hb0 : Below w.heap.size w (w1.alloc (.map #[] 0)) := hb1.alloc hb1.size _
  have hBw : w.heap.size ≤ B := by rw [hB]; exact hb1.size
  rw [← hB] at hown0 ⊢
  clear hB
  go_loopw [10, 11, 24] (fun _ _ ii wr => ∃ (k : Nat) (D : DataW Unit), k ≤ na ∧ ii = .int .i64 k ∧ wr.ownsMap Try.prog 3 (plainElem Try.prog 3) B k D ∧ MapAt (los.take k) (am.take k) p D ∧ Below w.heap.size w wr) (fun _ _ ii _ => na - (intOf ii).toNat)
  case atStart => exact ⟨0, _, Nat.zero_le _, rfl, hown0, ⟨isMap_empty, fun h => by simp [sumAt, DataW.atKey]⟩, hb0⟩
  case round =>
    obtain ⟨k, D, hk, rfl, hown, hD, hb⟩ := hrel
    have HD := Lib.hid hD
    clear hown0 hb0 hD hmm C1
    by_cases hkn : k < na
    · obtain ⟨l, hl, _⟩ := drop_cons (xs := los) (i := k) (by rw [← HN.out]; exact hkn)
      obtain ⟨a, ha, _⟩ := drop_cons (xs := am) (i := k) (by rw [← HNA.out]; exact hkn)
      obtain ⟨b, off, rfl, _, hbl, c0, c1, c2, c3, c4, c5, c6, c7, c8, c9⟩ := (hL.below hb).at_ hl
      obtain ⟨b2, off2, rfl, _, hbm, m0⟩ := (hM.below hb).at_ ha
      have hpo := (pairOk_iff l a).1 (List.all_eq_true.1 HALL.out _ (List.mem_of_getElem? (zip_get hl ha)))
      have HLX := Lib.hid hl
      have HAX := Lib.hid ha
      clear hl ha
      obtain ⟨wb, hwb⟩ : ∃ wb : World, wb = wr.alloc (.cells #[.int .i64 l.id, .int .i64 l.pol, .int .i64 l.risk, .int .i64 l.hour, .int .i64 l.peril, .int .i64 l.area, .int .i64 l.cur, .int .i64 l.sum, .int .i64 l.amt, .int .i64 l.paid] 55) := ⟨_, rfl⟩
      have hbb : Below wr.heap.size wr wb := by rw [hwb]; exact (Below.refl _ _).alloc (Nat.le_refl _) _
      have hownb : wb.ownsMap Try.prog 3 (plainElem Try.prog 3) B k D := by rw [hwb]; exact hown.alloc _
      have hb0b := hb.trans (hbb.mono hb.size)
      have p3 : wb.cell? ⟨wr.heap.size, 3, none⟩ = some (.int .i64 l.hour) := by rw [hwb]; simp
      have p4 : wb.cell? ⟨wr.heap.size, 4, none⟩ = some (.int .i64 l.peril) := by rw [hwb]; simp
      have m0b : wb.cell? ⟨b2, off2 + k, none⟩ = some (.int .i64 a) := (hbb.cell (p := ⟨b2, _, none⟩) hbm).trans m0
      go_upto_region 8 with fail
      rw [← hwb]
      clear hwb c0 c1 c2 c3 c4 c5 c6 c7 c8 c9 hown hbb m0
      by_cases hp : l.peril = p
      · have qp : (l.peril == p) = true := by simpa using hp
        have HP' := Lib.hid hp
        clear hp
        have hkey : keyOf Try.prog 3 (.int .i64 l.hour) = some (.int .i64 l.hour) := keyOf_int_mk Try.underlying3 (WalkArith.wf_i64 (by omega))
        obtain ⟨cv, hlk, hat, hwf⟩ := hownb.drew.lookup_int lawK Try.underlying73 Try.underlying3 (zeroI _) hkey
        have hcv := HD.out.val hat
        have hcb := sumAt_bd (los := los) HAMB.out k p l.hour
        rw [← hcv] at hcb
        have hsb := HSUM.out
        have HCV := Lib.hid hcv
        have HKEY := Lib.hid hkey
        have hwf2 : (Lit.int .i64 (cv + a)).wf = true := WalkArith.wf_i64 (by omega)
        have HWF := Lib.hid hwf2
        have hwr : IntKind.i64.wrap (cv + a) = cv + a := IntWalk.i64_in _ (by omega)
        have HWR := Lib.hid hwr
        have hkm : k < maxLen := by unfold maxLen; omega
        clear hat hkey hcv hwf2 hwr
        go_wp2_with fail
        go_still_tail 9, (by kernel_rfl)
        rw [HWR.out]
        refine wpList_mapUpdate_own _ rfl _ _ _ 73 rfl 3 3 lawK Try.underlying73 _ B k _ rfl hownb.drew hkm _ _ _ rfl rfl HKEY.out _ [] (plainElem_int Try.underlying3 HWF.out) ?_
        intro w2 hown2 hgrow2
        go_wp2_with fail
        have hb2 : Below w.heap.size w w2 := hb0b.drew.grown hgrow2 hb0b.size (fun j hj => by cases hj; exact hBw)
        go_wp2_with fail
        go_roundw
        case rel =>
          refine ⟨k + 1, _, by omega, by go_num, hown2, ?_, hb2⟩
          exact HD.out.put (by rw [← HNA.out, ← HN.out]) HLX.out HAX.out HP'.out HCV.out
        case measure => simp [intOf]; omega
      · have qp : (l.peril == p) = false := by simpa using hp
        have HP' := Lib.hid hp
        clear hp
        go_wp2_with fail
        go_roundw
        case rel => exact ⟨k + 1, D, by omega, by go_num, hownb.mono (by omega), HD.out.pass (by rw [← HNA.out, ← HN.out]) HLX.out HAX.out HP'.out, hb0b⟩
        case measure => simp [intOf]; omega
    · obtain rfl : k = na := by omega
      rw [List.take_of_length_le (by rw [← HN.out]; exact Nat.le_refl _), List.take_of_length_le (by rw [← HNA.out]; exact Nat.le_refl _)] at HD
      go_wp2_with (at_range; refine wpList_range_own _ rfl _ 73 rfl 3 3 lawK Try.underlying73 _ B k _ rfl hown ?_; intro w2 hrg2 hg2 hs2)
      go_frame
      have hszD : Maps.size D ≤ k := hown.size_le
      obtain ⟨r, hr⟩ : ∃ r, r = wr.heap.size := ⟨_, rfl⟩
      have hrw : w.heap.size ≤ r := by rw [hr]; exact hb.size
      have hb2 : Below w.heap.size w w2 := hb.grown hg2 hb.size (fun j hj => by cases hj)
      have hBr : B < r := by rw [hr]; exact hown.lt
      rw [← hr] at hrg2 ⊢
      clear hr hs2 hg2 hown
      have hrl := hrg2.lt
      obtain ⟨i0, hi, hz0, hz1, hz2⟩ := info_parts Try.infoPoint
      have hst := Coll.start HD.out
      have HR : Hid (∀ t, 0 < sumAt los am p t → 0 ≤ t ∧ t ≤ 876599) := fun t ht => hours_range HALL.out ((sumAt_pos HAMB.out p t).1 ht)
      go_loopw [12, 13, 14] (fun v _ _ wx => ∃ (left : Lit → Bool) (cnt : Nat) (ps : List P2), wx.ranges Try.prog 3 (plainElem Try.prog 3) B r k D left cnt ∧ Coll (sumAt los am p) left ps ∧ wx.ownsRow w2.heap.size 36 2 v ps.length (ps.flatMap P2.cells) ∧ ps.length + cnt ≤ k ∧ w2.heap.size ≤ wx.heap.size ∧ Below w.heap.size w wx) (fun _ _ _ wx => wx.rangeLeft B r)
      case atStart => exact ⟨_, _, [], hrg2, hst, own_nil _ _ _ _, by simpa using hszD, Nat.le_refl _, hb2⟩
      case round =>
        obtain ⟨left, cnt, ps, hrg, hC, hown, hcnt, hx2, hb⟩ := hrel
        clear hst hrg2 hb2 hszD
        obtain ⟨V, vc, rfl, _⟩ := own_shape hown
        go_wp2_with (at_next; refine wpList_next_ranges_ii _ rfl _ rfl 3 3 .i64 .i64 lawK Try.underlying3 Try.underlying3 B r k _ _ _ rfl hrg ?_ ?_)
        · intro _ hl0
          have HC := Lib.hid hC
          have HL0 := Lib.hid hl0
          obtain ⟨m, hm⟩ : ∃ m, m = ps.length := ⟨_, rfl⟩
          rw [← hm] at hown hcnt ⊢
          have HM' := Lib.hid hm
          clear hC hl0 hm hrg
          by_cases hm0 : m = 0
          · subst hm0
            have hps : ps = [] := List.eq_nil_of_length_eq_zero HM'.out.symm
            have HPS := Lib.hid hps
            have hfin := HC.out.done HAMB.out HL0.out (List.Perm.refl ps) (by rw [hps]; exact List.Pairwise.nil)
            have HF := Lib.hid hfin
            clear hps hfin
            go_wp2_with fail
            refine (AnyF.slices_SortFunc_none Try.sortPoint V vc _ _).mono ?_
            rintro e w' ⟨rfl, rfl⟩
            go_wp2_with fail
            go_ret2
            refine ⟨_, rfl, ?_, hb⟩
            rw [HX.out, ← HF.out, HPS.out]
            rw [HPS.out] at hown
            exact own_base hown (by omega)
          · rcases hown.2 with ⟨_, h00⟩ | ⟨g, cap, cur, hv, hgb, _⟩
            · exact absurd h00 hm0
            obtain ⟨rfl, rfl⟩ : V = some ⟨g, 0, none⟩ ∧ vc = cap := by injection hv with a1 a2 a3; exact ⟨a1, a3⟩
            have CS := Lib.hid (sortP g vc w2.heap.size m ps wr hown HM'.out (fun x hx => (HC.out.each x hx).2.2.2) (by omega))
            clear hv hm0
            go_wp2_with fail
            refine CS.out.mono ?_
            rintro e w4 ⟨rfl, qs, hperm, hsort, hown4, hg4⟩
            have hfin := HC.out.done HAMB.out HL0.out hperm hsort
            have HF := Lib.hid hfin
            have hml : Hid (m = qs.length) := by show m = qs.length; rw [hperm.length_eq]; exact HM'.out
            have hb4 : Below w.heap.size w w4 := hb.grown hg4 hb.size (fun j hj => by cases hj; omega)
            clear hperm hsort hfin CS
            go_wp2_with fail
            go_ret2
            refine ⟨_, rfl, ?_, hb4⟩
            rw [HX.out, ← HF.out, ← hml.out]
            exact own_base hown4 (by omega)
        · intro x cv w3 cnt3 hwx hwc hlx hat hrg3 hlt hg3 hs3 hen
          clear hs3
          have hcv : cv = sumAt los am p x := HD.out.val (hat _)
          have hown3 := hown.kept hg3 (own_far hown (by omega))
          have hle2 : w2.heap.size ≤ w3.heap.size := Nat.le_trans hx2 hg3.size
          have hb3 : Below w.heap.size w w3 := hb.grown hg3 hb.size (fun j hj => by cases hj; exact hrw)
          by_cases hc0 : 0 < cv
          · have q0 : decide (0 < cv) = true := by simpa using hc0
            have hxr := HR.out x (by rw [← hcv]; exact hc0)
            have HC := Lib.hid (hC.keep hlx hcv hc0 hxr)
            have HCV := Lib.hid hcv
            have hle := hg3.size
            have HLE := Lib.hid hrg.left_eq
            obtain ⟨m, hm⟩ : ∃ m, m = ps.length := ⟨_, rfl⟩
            rw [← hm] at hown3 hcnt ⊢
            have HM' := Lib.hid hm
            clear hcv hat hC hrg hown hg3 hm
            go_wp2_with (at_builtin; refine wpList_append_own _ rfl (.tmp 52) (.tmp 56) 27 rfl w2.heap.size 36 i0 _ 2 16 Try.underlying27 hi hz0 hz1 hz2 rfl (by decide) _ m _ rfl (own_below hown3 ((Below.refl _ _).alloc (Nat.le_refl _) _)) ⟨w3.heap.size, 0, none⟩ 1 1 (P2.cells ⟨x, cv⟩) rfl rfl ?c1 ?c2 ?c3 ?c4 ?c5 ?_)
            case c1 => exact cell_new w3 (P2.cells ⟨x, cv⟩) 36
            case c2 => intro u hu; simp [P2.cells] at hu; rcases hu with rfl | rfl <;> rfl
            case c3 => unfold maxLen; omega
            case c4 => omega
            case c5 => have := hrg3.lt; have := hle2; simp; omega
            intro v' w8 hown8 hg8 _
            have hb8 : Below w.heap.size w w8 := (hb3.alloc hb3.size _).grown hg8 (by have := hb3.size; simp; omega) (fun g' hg' => by have := own_low hown3 g' hg'; omega)
            have hrg8 := (hrg3.alloc _).kept hg8 (by intro e; have := own_low hown3 B e.symm; omega) (by intro e; have := own_low hown3 r e.symm; omega)
            have hz8 : w2.heap.size ≤ w8.heap.size := by have := hg8.size; simp at this; omega
            obtain ⟨V', vc', rfl, _⟩ := own_shape hown8
            have hown9 := flat_snoc2 hown8
            clear hown8
            clear hg8 hown3 hrg3
            go_wp2_with fail
            go_roundw
            case rel => exact ⟨_, cnt3, ps ++ [⟨x, cv⟩], hrg8, HC.out, by rw [List.length_append, ← HM'.out]; exact hown9, by rw [List.length_append, ← HM'.out]; simp; omega, hz8, hb8⟩
            case measure => rw [hrg8.left_eq, HLE.out]; exact hlt
          · have q0 : decide (0 < cv) = false := by simpa using hc0
            have HC := Lib.hid (hC.skip hcv hc0)
            have HLE := Lib.hid hrg.left_eq
            clear hcv hat hC hrg hown hg3
            go_wp2_with fail
            go_roundw
            case rel => exact ⟨_, cnt3, ps, hrg3, HC.out, hown3, by omega, hle2, hb3⟩
            case measure => rw [hrg3.left_eq, HLE.out]; exact hlt

end Go.Proofs.Ytilkcailpkebdaa

/-
  Points of accepted losses are accepted; there are no more windows than losses. Plain Lean.
-/
namespace Go.Proofs.Ytilkcailpkebdaa
open Go.RowKit
set_option linter.unusedVariables false

theorem chkLoop_fine : ∀ (ps : List P2) (h : Option Int) (s : Int), (∀ p ∈ ps, ptOk p = true) → ps.Pairwise (fun p q => p.a < q.a) → (∀ x, h = some x → ∀ p ∈ ps, x < p.a) → s + sumB ps ≤ 17592186044416 → chkLoop h ps s = 0 := by
  intro ps
  induction ps with
  | nil => intro h s _ _ _ hs; simp only [chkLoop, sumB] at *; rw [if_neg (by omega)]
  | cons p ps ih =>
    intro h s hok hasc hh hs
    rw [List.pairwise_cons] at hasc
    unfold chkLoop
    rw [if_neg (by rw [hok p (by simp)]; simp), if_neg]
    · refine ih (some p.a) (s + p.b) (fun q hq => hok q (by simp [hq])) hasc.2 (fun x hx q hq => ?_) (by simp only [sumB] at hs; omega)
      injection hx with hx; subst hx; exact hasc.1 q hq
    · cases h with
      | none => simp
      | some x => have := hh x rfl p (by simp); simp; omega
theorem sumB_map (ps : List P2) : sumB ps = sumI (ps.map P2.b) := by
  induction ps with
  | nil => rfl
  | cons p ps ih => simp only [sumB, List.map_cons, sumI, ih]
theorem sum_const0 (ks : List Int) (f : Int → Int) (h : ∀ k, f k = 0) : sumI (ks.map f) = 0 := by
  induction ks with
  | nil => rfl
  | cons k ks ih => simp only [List.map_cons, sumI, ih, h]; omega
theorem sumI_pos0 {am : List Int} (h : ∀ a ∈ am, 0 ≤ a) : 0 ≤ sumI am := by
  induction am with
  | nil => simp [sumI]
  | cons a l ih => have h1 := h a (by simp); have h2 := ih (fun x hx => h x (by simp [hx])); simp only [sumI]; omega
/-- Sums over the hours are sums over losses. -/
theorem sum_sumAt_le (p : Int) : ∀ (los : List Los) (am : List Int) (ks : List Int), ks.Nodup → (∀ a ∈ am, 0 ≤ a) → sumI (ks.map (sumAt los am p)) ≤ sumI am := by
  intro los
  induction los with
  | nil =>
    intro am ks _ h
    have h0 : sumI (ks.map (sumAt [] am p)) = 0 := sum_const0 ks _ (fun k => rfl)
    have h1 := sumI_pos0 h
    omega
  | cons l ls ih =>
    intro am ks hk h
    cases am with
    | nil =>
      have h0 : sumI (ks.map (sumAt (l :: ls) [] p)) = 0 := sum_const0 ks _ (fun k => rfl)
      simp only [sumI]; omega
    | cons a ams =>
      have h1 := h a (by simp)
      have h2 := ih ams ks hk (fun x hx => h x (by simp [hx]))
      have h3 : sumI (ks.map (sumAt (l :: ls) (a :: ams) p)) ≤ a + sumI (ks.map (sumAt ls ams p)) := by
        clear ih h2 h
        induction ks with
        | nil => simp [sumI]; exact h1
        | cons k ks ih2 =>
          rw [List.nodup_cons] at hk
          have h4 := ih2 hk.2
          simp only [List.map_cons, sumI]
          have e : sumAt (l :: ls) (a :: ams) p k = (if l.peril = p ∧ l.hour = k then a else 0) + sumAt ls ams p k := rfl
          rw [e]
          by_cases hc : l.peril = p ∧ l.hour = k
          · rw [if_pos hc]
            have e2 : ks.map (sumAt (l :: ls) (a :: ams) p) = ks.map (sumAt ls ams p) := List.map_congr_left fun t ht => by
              have : ¬ (l.peril = p ∧ l.hour = t) := fun h => hk.1 (by rw [← hc.2, h.2]; exact ht)
              show (if l.peril = p ∧ l.hour = t then a else 0) + sumAt ls ams p t = _
              rw [if_neg this]; omega
            rw [e2]; omega
          · rw [if_neg hc]; omega
      simp only [sumI]; omega
theorem ptsF_fine {los : List Los} {am : List Int} (h : chkE los am = 0) (p : Int) : (∀ x ∈ ptsF los am p, ptOk x = true) ∧ (ptsF los am p).Pairwise (fun a b => a.a < b.a) ∧ sumB (ptsF los am p) ≤ 17592186044416 ∧ (ptsF los am p).length ≤ 64 := by
  have hG := goodE_of h
  have hN : ∀ a ∈ am, 0 ≤ a := fun a ha => (zip_amounts hG.same hG.all a ha).1
  have hs : sumB (ptsF los am p) ≤ sumI am := by
    rw [sumB_map]
    unfold ptsF
    rw [List.map_map]
    exact sum_sumAt_le p los am (hoursF los am p) ((asc_insAll _).imp (fun hab => by omega)) hN
  have hsm := hG.sum
  refine ⟨fun x hx => ?_, List.pairwise_map.2 (asc_insAll _), by omega, ?_⟩
  · obtain ⟨t, ht, rfl⟩ := List.mem_map.1 hx
    have h1 := (mem_hoursF hN p t).1 ht
    have h2 := hours_range hG.all ((sumAt_pos hN p t).1 h1)
    have h3 := sumAt_le (los := los) hN p t
    rw [fold_sumI] at h3
    exact (ptOk_iff _).2 ⟨h2.1, h2.2, by dsimp only; omega, by dsimp only; omega⟩
  · unfold ptsF; rw [List.length_map]
    refine Nat.le_trans (insAll_len _) ?_
    have : ∀ (ls : List Los) (ams : List Int), (hoursL ls ams p).length ≤ ls.length := by
      intro ls
      induction ls with
      | nil => intro ams; simp [hoursL]
      | cons l ls ih =>
        intro ams
        cases ams with
        | nil => simp [hoursL]
        | cons a ams => have := ih ams; simp only [hoursL]; split <;> simp only [List.length_cons] <;> omega
    exact Nat.le_trans (this los am) hG.len
theorem chkErr_pts {los : List Los} {am : List Int} {n : Int} {ls : List P2} (h : chkE los am = 0) (hr : recErr 0 ls = 0) (hn : ¬ (n < 1 ∨ 8784 < n)) (p : Int) : chkErr (ptsF los am p) n ls = 0 := by
  obtain ⟨h1, h2, h3, h4⟩ := ptsF_fine h p
  unfold chkErr
  rw [if_neg (by simp [hr]), if_neg hn, if_neg (by omega)]
  exact chkLoop_fine _ none 0 h1 h2 (fun x hx => by cases hx) (by omega)
/-- How many losses are by a peril. -/
def cntP (los : List Los) (p : Int) : Nat := (los.filter fun l => decide (l.peril = p)).length
theorem hoursL_cnt (p : Int) : ∀ (los : List Los) (am : List Int), (hoursL los am p).length ≤ cntP los p := by
  intro los
  induction los with
  | nil => intro am; simp [hoursL]
  | cons l ls ih =>
    intro am
    cases am with
    | nil => simp [hoursL]
    | cons a ams =>
      have := ih ams
      unfold cntP at *
      simp only [hoursL]
      by_cases hp : l.peril = p
      · rw [List.filter_cons_of_pos (by simpa using hp), List.length_cons]
        split
        · simp only [List.length_cons]; omega
        · omega
      · rw [List.filter_cons_of_neg (by simpa using hp), if_neg (fun h => hp h.1)]; exact this
theorem sum_cntP : ∀ (los : List Los) (ks : List Int), ks.Nodup → (ks.map (cntP los)).sum ≤ los.length := by
  intro los
  induction los with
  | nil =>
    intro ks _
    have : ∀ ks : List Int, (ks.map (cntP [])).sum = 0 := by
      intro ks
      induction ks with
      | nil => rfl
      | cons k ks ih => rw [List.map_cons, List.sum_cons, ih]; rfl
    rw [this]; exact Nat.zero_le _
  | cons l ls ih =>
    intro ks hk
    have h1 := ih ks hk
    have h2 : (ks.map (cntP (l :: ls))).sum ≤ 1 + (ks.map (cntP ls)).sum := by
      clear ih h1
      induction ks with
      | nil => simp
      | cons k ks ih2 =>
        rw [List.nodup_cons] at hk
        have h4 := ih2 hk.2
        simp only [List.map_cons, List.sum_cons]
        by_cases hc : l.peril = k
        · have e1 : cntP (l :: ls) k = 1 + cntP ls k := by unfold cntP; rw [List.filter_cons_of_pos (by simpa using hc), List.length_cons]; omega
          have e2 : ks.map (cntP (l :: ls)) = ks.map (cntP ls) := List.map_congr_left fun t ht => by
            unfold cntP; rw [List.filter_cons_of_neg (by simp; intro h; exact hk.1 (by rw [← hc, h]; exact ht))]
          rw [e1, e2]; omega
        · have e1 : cntP (l :: ls) k = cntP ls k := by unfold cntP; rw [List.filter_cons_of_neg (by simpa using hc)]
          rw [e1]; omega
    simp only [List.length_cons]; omega
theorem coll_part (los : List Los) (am : List Int) (n : Int) (ls : List P2) : ∀ ks : List Int, (ks.flatMap (winsP los am n ls)).length ≤ (ks.map (cntP los)).sum := by
  intro ks
  induction ks with
  | nil => simp
  | cons k ks ih =>
    rw [List.flatMap_cons, List.length_append, List.map_cons, List.sum_cons]
    have h1 := winsP_len los am n ls k
    have h2 : (ptsF los am k).length ≤ cntP los k := by unfold ptsF; rw [List.length_map]; exact Nat.le_trans (insAll_len _) (hoursL_cnt k los am)
    omega
theorem coll_take_len {los : List Los} {am : List Int} {n : Int} {ls : List P2} (k : Nat) : (((perilsF los).take k).flatMap (winsP los am n ls)).length ≤ los.length := by
  refine Nat.le_trans (coll_part los am n ls _) (sum_cntP los _ ?_)
  have hp : perilsF los = insAll (perilsL los) := compact_sorted _
  rw [hp]
  exact ((asc_insAll _).imp (fun hab => by omega)).sublist (List.take_sublist _ _)
theorem coll_len {los : List Los} {am : List Int} {n : Int} {ls : List P2} : (collW los am n ls).length ≤ los.length := by
  have := coll_take_len (los := los) (am := am) (n := n) (ls := ls) (perilsF los).length
  rw [List.take_length] at this
  exact this
theorem best_len {los : List Los} {am : List Int} {n : Int} {ls : List P2} : (bestF los am n ls).length ≤ los.length := by
  obtain ⟨_, h2⟩ := insW_all (collW los am n ls) [] List.Pairwise.nil
  rw [List.append_nil] at h2
  unfold bestF
  rw [h2.length_eq]; exact coll_len
theorem spans_in (L : Int) (ls ps : List P2) : ∀ f i, ∀ s ∈ spansF L ls ps f i, 0 ≤ s.a ∧ s.a ≤ s.b ∧ s.b < ps.length := by
  intro f
  induction f with
  | zero => intro i s hs; simp [spansF] at hs
  | succ f ih =>
    intro i s hs
    by_cases hi : i < ps.length
    · obtain ⟨p, hp, hd⟩ := drop_cons (xs := ps) (i := i) hi
      by_cases he : valAt L ls ps i = valAt L ls ps (i + 1)
      · rw [spans_eq hp he] at hs; exact ih _ s hs
      · obtain ⟨j, hj⟩ := findAt_some hd he
        have hb := findAt_bd hj
        rw [spans_hit hp he hj] at hs
        rcases List.mem_cons.1 hs with rfl | hs
        · dsimp only; omega
        · exact ih _ s hs
    · rw [spans_end (by omega)] at hs; simp at hs
theorem spansOf_in {ps : List P2} {n : Int} {ls : List P2} {s : P2} (h : s ∈ spansOf ps n ls) : 0 ≤ s.a ∧ s.a ≤ s.b ∧ s.b < ps.length := by
  unfold spansOf at h
  split at h
  · exact spans_in n ls ps _ _ s h
  · simp at h
def bestA (los : List Los) (am : List Int) (n : Int) (ls : List P2) : Int :=
  if chkE los am ≠ 0 then chkE los am else if recErr 0 ls ≠ 0 then recErr 0 ls else if n < 1 ∨ 8784 < n then 1 else 0
def bestW (los : List Los) (am : List Int) (n : Int) (ls : List P2) : List Win := if bestA los am n ls = 0 then evW los am (bestF los am n ls) n ls else []
def bestT (los : List Los) (am : List Int) (n : Int) (ls : List P2) : List Int := if bestA los am n ls = 0 then evT los am (bestF los am n ls) n ls else []
def bestR (los : List Los) (am : List Int) (n : Int) (ls : List P2) : List Int := if bestA los am n ls = 0 then evR los am (bestF los am n ls) n ls else []
def bestE (los : List Los) (am : List Int) (n : Int) (ls : List P2) : Int := if bestA los am n ls = 0 then evalErr los am (bestF los am n ls) n ls else bestA los am n ls
theorem best_bad {los : List Los} {am : List Int} {n : Int} {ls : List P2} (h : bestA los am n ls ≠ 0) : bestW los am n ls = [] ∧ bestT los am n ls = [] ∧ bestR los am n ls = [] ∧ bestE los am n ls = bestA los am n ls := by
  unfold bestW bestT bestR bestE; rw [if_neg h, if_neg h, if_neg h, if_neg h]; exact ⟨rfl, rfl, rfl, rfl⟩
theorem best_ok {los : List Los} {am : List Int} {n : Int} {ls : List P2} (h : bestA los am n ls = 0) : bestW los am n ls = evW los am (bestF los am n ls) n ls ∧ bestT los am n ls = evT los am (bestF los am n ls) n ls ∧ bestR los am n ls = evR los am (bestF los am n ls) n ls ∧ bestE los am n ls = evalErr los am (bestF los am n ls) n ls := by
  unfold bestW bestT bestR bestE; rw [if_pos h, if_pos h, if_pos h, if_pos h]; exact ⟨rfl, rfl, rfl, rfl⟩

end Go.Proofs.Ytilkcailpkebdaa

/-
  The world behind 'c := api.Choice{..}' in window.Evaluate, whatever the order of its operations.
-/
namespace Go.Proofs.Ytilkcailpkebdaa
open Go.RowKit
set_option linter.unusedVariables false

def CutR (w4 : World) (nw g : Nat) (G : Option Addr) (ws : List Win) (bc g2 : Nat) (v1 : Value) (wc : World) : Prop :=
  wc.heap[bc]? = some (.cells #[v1, .slice G nw g, .slice (some ⟨g2, 0, none⟩) nw nw, .int .i64 0] 46 (0, 0)) ∧ wc.rowIs g2 3 nw (fun _ => .int .i64 0) ∧ wc.ownsRow w4.heap.size 53 3 v1 nw (ws.flatMap Win.cells) ∧ Below w4.heap.size w4 wc ∧ w4.heap.size ≤ bc ∧ w4.heap.size ≤ g2

abbrev rowO (nw : Nat) : Obj := .cells (madeCells #[.int .i64 0] nw) 3
abbrev zeroO : Obj := .cells #[.slice none 0 0, .slice none 0 0, .slice none 0 0, .int .i64 0] 46
abbrev choO (v1 : Value) (G : Option Addr) (nw g g2 : Nat) : Obj := .cells #[v1, .slice G nw g, .slice (some ⟨g2, 0, none⟩) nw nw, .int .i64 0] 46
abbrev set4 (W : World) (bc : Nat) (v1 : Value) (G : Option Addr) (nw g g2 : Nat) : World :=
  (((W.setCell ⟨bc, 0, none⟩ v1).setCell ⟨bc, 1, none⟩ (.slice G nw g)).setCell ⟨bc, 2, none⟩ (.slice (some ⟨g2, 0, none⟩) nw nw)).setCell ⟨bc, 3, none⟩ (.int .i64 0)
theorem set4_same {W : World} {bc : Nat} {v1 : Value} {G : Option Addr} {nw g g2 : Nat} (h : W.heap[bc]? = some zeroO) : (set4 W bc v1 G nw g g2).heap[bc]? = some (choO v1 G nw g g2) := by
  unfold set4; simp [World.setCell, Array.getElem?_modify, h]
theorem set4_other {W : World} {bc : Nat} {v1 : Value} {G : Option Addr} {nw g g2 : Nat} {k : Nat} (h : k ≠ bc) : (set4 W bc v1 G nw g g2).heap[k]? = W.heap[k]? := by
  unfold set4
  rw [Below.heap_setCell _ _ _ _ h, Below.heap_setCell _ _ _ _ h, Below.heap_setCell _ _ _ _ h, Below.heap_setCell _ _ _ _ h]
theorem set4_size (W : World) (bc : Nat) (v1 : Value) (G : Option Addr) (nw g g2 : Nat) : (set4 W bc v1 G nw g g2).heap.size = W.heap.size := by
  unfold set4; simp [World.setCell]
theorem set4_below {w4 W : World} {bc : Nat} {v1 : Value} {G : Option Addr} {nw g g2 : Nat} (h : Below w4.heap.size w4 W) (hb : w4.heap.size ≤ bc) : Below w4.heap.size w4 (set4 W bc v1 G nw g g2) :=
  (((h.setCell hb _).setCell hb _).setCell hb _).setCell hb _
theorem set1_own {W : World} {bc o base : Nat} {v u : Value} {n s : Nat} {e : TypeId} {xs : List Value} (h : W.ownsRow base e s v n xs) (hf : bc < base) : (W.setCell ⟨bc, o, none⟩ u).ownsRow base e s v n xs :=
  h.kept (row := some bc) (only_setCell (only_refl _ _) (.inl rfl) _) (own_far h hf)
theorem set4_own {W : World} {bc base : Nat} {v1 v : Value} {G : Option Addr} {nw g g2 n s : Nat} {e : TypeId} {xs : List Value} (h : W.ownsRow base e s v n xs) (hf : bc < base) : (set4 W bc v1 G nw g g2).ownsRow base e s v n xs := by
  unfold set4
  exact set1_own (set1_own (set1_own (set1_own h hf) hf) hf) hf

variable {w4 w5 X : World} {nw g : Nat} {G : Option Addr} {ws : List Win} {v1 : Value}

/-- The clone first, then the row, then the box. -/
theorem cut1 (hb : Below w4.drew.heap.size w4.drew w5) (hv : w5.ownsRow w4.drew.heap.size 53 3 v1 nw (ws.flatMap Win.cells)) :
    CutR w4 nw g G ws (w5.heap.size + 1) w5.heap.size v1 ((w5.alloc (rowO nw)).alloc (choO v1 G nw g w5.heap.size)) := by
  have hB : Below w4.heap.size w4 w5 := (Below.refl _ _).drew.trans hb
  have hs := hB.size
  refine ⟨?_, ?_, ?_, ?_, by omega, hs⟩
  · have h := heap_alloc_new (w5.alloc (rowO nw)) (choO v1 G nw g w5.heap.size)
    have e : (w5.alloc (rowO nw)).heap.size = w5.heap.size + 1 := by simp
    rw [e] at h; exact h
  · exact World.rowIs.of_block (World.rowIs_made w5 _ nw _) (Below.heap_alloc _ _ _ (by simp))
  · exact own_below hv (((Below.refl _ _).alloc (Nat.le_refl _) _).alloc (by simp) _)
  · exact (hB.alloc hs _).alloc (by simp; omega) _
theorem cut2 (hb : Below w4.drew.heap.size w4.drew w5) (hv : w5.ownsRow w4.drew.heap.size 53 3 v1 nw (ws.flatMap Win.cells)) :
    CutR w4 nw g G ws w5.heap.size (w5.heap.size + 1) v1 ((w5.alloc (choO v1 G nw g (w5.heap.size + 1))).alloc (rowO nw)) := by
  have hB : Below w4.heap.size w4 w5 := (Below.refl _ _).drew.trans hb
  have hs := hB.size
  refine ⟨?_, ?_, ?_, ?_, hs, by omega⟩
  · exact (Below.heap_alloc _ _ _ (by simp)).trans (heap_alloc_new _ _)
  · have h := World.rowIs_made (w5.alloc (choO v1 G nw g (w5.heap.size + 1))) (.int .i64 0) nw 3
    have e : (w5.alloc (choO v1 G nw g (w5.heap.size + 1))).heap.size = w5.heap.size + 1 := by simp
    rw [e] at h; exact h
  · exact own_below hv (((Below.refl _ _).alloc (Nat.le_refl _) _).alloc (by simp) _)
  · exact (hB.alloc hs _).alloc (by simp; omega) _
theorem cut3 (hb : Below (w4.alloc (rowO nw)).drew.heap.size (w4.alloc (rowO nw)).drew w5) (hv : w5.ownsRow (w4.alloc (rowO nw)).drew.heap.size 53 3 v1 nw (ws.flatMap Win.cells)) :
    CutR w4 nw g G ws w5.heap.size w4.heap.size v1 (w5.alloc (choO v1 G nw g w4.heap.size)) := by
  have hX : Below w4.heap.size w4 (w4.alloc (rowO nw)).drew := ((Below.refl _ _).alloc (Nat.le_refl _) _).drew
  have hB : Below w4.heap.size w4 w5 := hX.trans (hb.mono hX.size)
  have hs := hB.size
  have hlt : w4.heap.size < w5.heap.size := by have := hb.size; simp at this; omega
  refine ⟨heap_alloc_new _ _, ?_, ?_, hB.alloc hs _, hs, Nat.le_refl _⟩
  · refine World.rowIs.of_block (World.rowIs_made w4 _ nw _) ((Below.heap_alloc _ _ _ hlt).trans (hb.block _ (by simp)))
  · exact own_mono (own_below hv ((Below.refl _ _).alloc (Nat.le_refl _) _)) hX.size
theorem cut4 (hb : Below ((w4.alloc (rowO nw)).alloc zeroO).drew.heap.size ((w4.alloc (rowO nw)).alloc zeroO).drew w5) (hv : w5.ownsRow ((w4.alloc (rowO nw)).alloc zeroO).drew.heap.size 53 3 v1 nw (ws.flatMap Win.cells)) :
    CutR w4 nw g G ws (w4.heap.size + 1) w4.heap.size v1 (set4 w5 (w4.heap.size + 1) v1 G nw g w4.heap.size) := by
  have hX : Below w4.heap.size w4 ((w4.alloc (rowO nw)).alloc zeroO).drew := (((Below.refl _ _).alloc (Nat.le_refl _) _).alloc (by simp) _).drew
  have hB : Below w4.heap.size w4 w5 := hX.trans (hb.mono hX.size)
  have e : (w4.alloc (rowO nw)).heap.size = w4.heap.size + 1 := by simp
  refine ⟨set4_same ?_, ?_, ?_, set4_below hB (by omega), by omega, Nat.le_refl _⟩
  · refine (hb.block _ (by simp)).trans ?_
    have h := heap_alloc_new (w4.alloc (rowO nw)) zeroO
    rw [e] at h; exact h
  · refine World.rowIs.of_block (World.rowIs_made w4 _ nw _) ((set4_other (by omega)).trans ((hb.block _ (by simp; omega)).trans ?_))
    exact Below.heap_alloc _ _ _ (by simp)
  · exact own_mono (set4_own hv (by simp)) hX.size
theorem cut5 (hb : Below (w4.alloc zeroO).drew.heap.size (w4.alloc zeroO).drew w5) (hv : w5.ownsRow (w4.alloc zeroO).drew.heap.size 53 3 v1 nw (ws.flatMap Win.cells)) :
    CutR w4 nw g G ws w4.heap.size w5.heap.size v1 ((set4 w5 w4.heap.size v1 G nw g w5.heap.size).alloc (rowO nw)) := by
  have hX : Below w4.heap.size w4 (w4.alloc zeroO).drew := ((Below.refl _ _).alloc (Nat.le_refl _) _).drew
  have hB : Below w4.heap.size w4 w5 := hX.trans (hb.mono hX.size)
  have hs := hB.size
  have hlt : w4.heap.size < w5.heap.size := by have := hb.size; simp at this; omega
  refine ⟨?_, ?_, ?_, ?_, Nat.le_refl _, hs⟩
  · exact (Below.heap_alloc _ _ _ (by rw [set4_size]; exact hlt)).trans (set4_same ((hb.block _ (by simp)).trans (heap_alloc_new _ _)))
  · have h := World.rowIs_made (set4 w5 w4.heap.size v1 G nw g w5.heap.size) (.int .i64 0) nw 3
    rw [set4_size] at h; exact h
  · exact own_mono (own_below (set4_own hv (by simp)) ((Below.refl _ _).alloc (Nat.le_refl _) _)) hX.size
  · exact (set4_below hB (Nat.le_refl _)).alloc (by rw [set4_size]; exact hs) _
theorem cut6 (hb : Below ((w4.alloc zeroO).alloc (rowO nw)).drew.heap.size ((w4.alloc zeroO).alloc (rowO nw)).drew w5) (hv : w5.ownsRow ((w4.alloc zeroO).alloc (rowO nw)).drew.heap.size 53 3 v1 nw (ws.flatMap Win.cells)) :
    CutR w4 nw g G ws w4.heap.size (w4.heap.size + 1) v1 (set4 w5 w4.heap.size v1 G nw g (w4.heap.size + 1)) := by
  have hX : Below w4.heap.size w4 ((w4.alloc zeroO).alloc (rowO nw)).drew := (((Below.refl _ _).alloc (Nat.le_refl _) _).alloc (by simp) _).drew
  have hB : Below w4.heap.size w4 w5 := hX.trans (hb.mono hX.size)
  have e : (w4.alloc zeroO).heap.size = w4.heap.size + 1 := by simp
  refine ⟨set4_same ?_, ?_, ?_, set4_below hB (Nat.le_refl _), Nat.le_refl _, by omega⟩
  · exact (hb.block _ (by simp; omega)).trans ((Below.heap_alloc _ _ _ (by simp)).trans (heap_alloc_new _ _))
  · have h := World.rowIs_made (w4.alloc zeroO) (.int .i64 0) nw 3
    rw [e] at h
    exact World.rowIs.of_block h ((set4_other (by omega)).trans (hb.block _ (by simp)))
  · exact own_mono (set4_own hv (by simp; omega)) hX.size

end Go.Proofs.Ytilkcailpkebdaa
