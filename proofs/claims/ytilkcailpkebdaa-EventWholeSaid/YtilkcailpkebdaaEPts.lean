/-
  event.Points: its contract.
-/
import Derived.Test.YtilkcailpkebdaaEPDef
import Derived.Test.YtilkcailpkebdaaSortK
import Derived.Test.YtilkcailpkebdaaShelf
import Derived.Test.YtilkcailpkebdaaChkE
import Derived.Test.YtilkcailpkebdaaAmts
import Derived.Test.YtilkcailpkebdaaPts
import Derived.Maps.OwnOps
import Derived.Maps.OwnSet
import Derived.Maps.RangeWalk
import Derived.StillTailTactics
import Derived.Outline
namespace Go.Proofs.Ytilkcailpkebdaa
open Go.RowKit Go.Maps Go.Sort
set_option linter.unusedVariables false

theorem lawK : Keyed Try.prog 3 := int_keyed Try.underlying3
theorem zeroI (w : World) : (zeroValue 3).run Try.prog w = .ok (.int .i64 0) w := by kernel_rfl

/-- Points whose hours are hours. -/
structure HP where
  p : P2
  lo : 0 ≤ p.a
  hi : p.a ≤ 876599
instance : Inhabited HP := ⟨⟨⟨0, 0⟩, by decide, by decide⟩⟩
def HP.cells (x : HP) : List Value := P2.cells x.p
def cmpHP (x y : HP) : Int := x.p.a - y.p.a
theorem swoHP : SWO (ltOf cmpHP) where
  irrefl x := by simp [ltOf, cmpHP]
  trans x y z h1 h2 := by unfold ltOf cmpHP at *; have a := of_decide_eq_true h1; have b := of_decide_eq_true h2; exact decide_eq_true (by omega)
  ntrans x y z h1 h2 := by unfold ltOf cmpHP at *; have a := of_decide_eq_false h1; have b := of_decide_eq_false h2; exact decide_eq_false (by omega)

set_option maxHeartbeats 1000000 in
theorem closureP (x y : HP) (W : World) : Calls Try.prog 38 #[.agg (HP.cells x).toArray, .agg (HP.cells y).toArray] W fun e w' => e = .returned (.int .i64 (cmpHP x y)) ∧ ∃ q os', w' = Sort.grow (W.drewN q) os' := by
  obtain ⟨⟨a, b⟩, h, h2⟩ := x
  obtain ⟨⟨c, d⟩, h', h2'⟩ := y
  dsimp only at h h' h2 h2'
  show Calls Try.prog 38 #[.agg #[.int .i64 a, .int .i64 b], .agg #[.int .i64 c, .int .i64 d]] W fun e w' => e = .returned (.int .i64 (a - c)) ∧ ∃ q os', w' = Sort.grow (W.drewN q) os'
  go_enter Try.func38, Try.ntmps38
  go_wp2_with fail
  go_ret
  exact ⟨rfl, 0, _, by rw [alloc_eq_grow, alloc_eq_grow, grow_grow]; rfl⟩
theorem cmpLaysP (blk off size : Nat) (w : World) : CmpLays Try.prog 38 #[] HP.cells 2 cmpHP blk off size w :=
  fun _ _ _ _ x y => closureP x y _

theorem isAggP (w : World) : (isAgg 36).run Try.prog w = .ok true w := by kernel_rfl
theorem sizeP (w : World) : (Go.sizeOf 36).run Try.prog w = .ok 2 w := by kernel_rfl
theorem hp_flat {ds : List HP} {ps : List P2} (h : ds.map HP.p = ps) : ds.flatMap HP.cells = ps.flatMap P2.cells := by
  subst h
  induction ds with
  | nil => rfl
  | cons d ds ih => rw [List.flatMap_cons, List.map_cons, List.flatMap_cons, ih]; rfl

/-- slices.SortFunc at points: a permutation in order of the hours, in the same row. -/
theorem sortP (g cap base n : Nat) (ps : List P2) (w : World) (hown : w.ownsRow base 36 2 (.slice (some ⟨g, 0, none⟩) n cap) n (ps.flatMap P2.cells)) (hn : n = ps.length) (hp : ∀ p ∈ ps, 0 ≤ p.a ∧ p.a ≤ 876599) (hl : n ≤ 1000) :
    Calls Try.prog 37 #[.slice (some ⟨g, 0, none⟩) n cap, .func (.func 38) #[] #[]] w fun e w' => e = .returned (.tuple #[]) ∧
      ∃ qs : List P2, qs.Perm ps ∧ qs.Pairwise (fun a b => a.a ≤ b.a) ∧ w'.ownsRow base 36 2 (.slice (some ⟨g, 0, none⟩) n cap) n (qs.flatMap P2.cells) ∧ w.grownBy w' (some g) := by
  obtain ⟨ds, hds⟩ : ∃ ds : List HP, ds.map HP.p = ps := ⟨ps.attach.map fun x => ⟨x.1, (hp x.1 x.2).1, (hp x.1 x.2).2⟩, by rw [List.map_map]; exact List.attach_map_subtype_val ps⟩
  have hdl : n = ds.length := by rw [hn, ← hds, List.length_map]
  have hown' := hown
  rw [← hp_flat hds] at hown'
  have eg : ∀ args w, (callFunc 38 args).run Try.prog w = .ok (.enter 38 args) w := enters_of Try.func38 (by kernel_rfl) rfl
  have hH : HoldsK HP.cells 2 w g 0 ds.toArray := holdsK_of_own (enc := HP.cells) (k := 2) (fun _ => rfl) (by omega) hown' hdl
  have hcon := AnyQ.slices_SortFunc Try.sortPoint 2 isAggP sizeP HP.cells (fun _ => rfl) (fun x v hv => by simp [HP.cells, P2.cells] at hv; rcases hv with rfl | rfl <;> rfl) cmpHP swoHP 38 #[] g 0 cap ds.toArray w eg (cmpLaysP g 0 ds.toArray.size w) hH (own_lt hown g rfl) (by simp only [List.size_toArray]; omega)
  change Calls Try.prog 37 _ _ _ at hcon
  have hsz : ds.toArray.size = n := by simp [hdl]
  rw [hsz] at hcon
  refine hcon.mono ?_
  rintro e w' ⟨rfl, d', q, os, hpm, hst, rfl⟩
  rw [← hsz] at hpm hst
  obtain ⟨h1, h2⟩ := sorted_list hpm hst
  refine ⟨rfl, d'.toList.map HP.p, ?_, ?_, ?_, ?_⟩
  · rw [← hds]; exact h1.map _
  · refine List.pairwise_map.2 (h2.imp ?_)
    intro a b hab
    unfold ltOf cmpHP at hab
    have := of_decide_eq_false hab
    omega
  · have hlen : d'.toList.length = n := by rw [h1.length_eq]; exact hdl.symm
    have o := own_sortK (enc := HP.cells) (k := 2) (fun _ => rfl) (by omega) (q := q) hown d'.toList hlen
    rw [hp_flat rfl] at o
    exact o.kept (grown_grow _ os) (by simp [Value.ownBlock])
  · exact only_grown (grown_putRow id w q g 0 _) (grown_grow _ os) (fun g' h => by cases h)

theorem sumAt_snoc (p h : Int) : ∀ (ls : List Los) (ams : List Int) (l : Los) (a : Int), ls.length = ams.length → sumAt (ls ++ [l]) (ams ++ [a]) p h = sumAt ls ams p h + if l.peril = p ∧ l.hour = h then a else 0 := by
  intro ls
  induction ls with
  | nil =>
    intro ams l a hl
    cases ams with
    | nil => simp [sumAt]
    | cons b bs => simp at hl
  | cons x xs ih =>
    intro ams l a hl
    cases ams with
    | nil => simp at hl
    | cons b bs =>
      simp only [List.cons_append, sumAt]
      rw [ih bs l a (by simpa using hl)]
      omega
theorem sumAt_next {los : List Los} {am : List Int} {k : Nat} {l : Los} {a : Int} (hlen : am.length = los.length) (hl : los[k]? = some l) (ha : am[k]? = some a) (p h : Int) : sumAt (los.take (k + 1)) (am.take (k + 1)) p h = sumAt (los.take k) (am.take k) p h + if l.peril = p ∧ l.hour = h then a else 0 := by
  have h1 := (List.getElem?_eq_some_iff.1 hl).1
  have h2 := (List.getElem?_eq_some_iff.1 ha).1
  rw [List.take_add_one, List.take_add_one, hl, ha]
  exact sumAt_snoc p h _ _ l a (by rw [List.length_take, List.length_take]; omega)
def eptsF (los : List Los) (am : List Int) (p : Int) : List P2 := if chkE los am = 0 then ptsF los am p else []

/-- The map of the hours behind k losses. -/
def MapAt (los : List Los) (am : List Int) (p : Int) (D : DataW Unit) : Prop := IsMap D ∧ ∀ h : Int, D.atKey (.int .i64 h) (.lit (.int .i64 0)) = .lit (.int .i64 (sumAt los am p h))
/-- What has been collected. -/
structure Coll (S : Int → Int) (left : Lit → Bool) (ps : List P2) : Prop where
  uniq : ps.Pairwise (fun a b => a.a ≠ b.a)
  each : ∀ x ∈ ps, x.b = S x.a ∧ 0 < x.b ∧ left (.int .i64 x.a) = false ∧ 0 ≤ x.a ∧ x.a ≤ 876599
  all : ∀ h, 0 < S h → left (.int .i64 h) = false → ∃ x ∈ ps, x.a = h
theorem Coll.start {los : List Los} {am : List Int} {p : Int} {D : DataW Unit} (h : MapAt los am p D) : Coll (sumAt los am p) (Maps.has D) [] := by
  refine ⟨List.Pairwise.nil, fun x hx => by simp at hx, fun t ht hl => ?_⟩
  have := h.2 t
  rw [atKey_of_not_has hl] at this
  injection this with this
  injection this with _ this
  omega
theorem same_int (z : Int) (x : Int) : (Lit.int .i64 z).sameKey (.int .i64 x) = decide (z = x) := by simp [Lit.sameKey]
theorem Coll.keep {S : Int → Int} {left : Lit → Bool} {ps : List P2} (h : Coll S left ps) {x c : Int} (hl : left (.int .i64 x) = true) (hc : c = S x) (h0 : 0 < c) (hr : 0 ≤ x ∧ x ≤ 876599) : Coll S (fun z => left z && !z.sameKey (.int .i64 x)) (ps ++ [⟨x, c⟩]) := by
  refine ⟨?_, ?_, ?_⟩
  · refine List.pairwise_append.2 ⟨h.uniq, by simp, fun a ha b hb => ?_⟩
    obtain rfl : b = _ := by simpa using hb
    intro e
    have := (h.each a ha).2.2.1
    dsimp only at e
    rw [e, hl] at this; cases this
  · intro y hy
    rcases List.mem_append.1 hy with hy | hy
    · obtain ⟨h1, h2, h3, h4⟩ := h.each y hy
      exact ⟨h1, h2, by simp [h3], h4⟩
    · obtain rfl : y = _ := by simpa using hy
      exact ⟨hc, h0, by simp [same_int], hr⟩
  · intro t ht hlt
    by_cases e : t = x
    · subst e; exact ⟨⟨t, c⟩, by simp, rfl⟩
    · rw [same_int] at hlt
      simp [e] at hlt
      obtain ⟨y, hy, e2⟩ := h.all t ht hlt
      exact ⟨y, by simp [hy], e2⟩
theorem Coll.skip {S : Int → Int} {left : Lit → Bool} {ps : List P2} (h : Coll S left ps) {x c : Int} (hc : c = S x) (h0 : ¬ 0 < c) : Coll S (fun z => left z && !z.sameKey (.int .i64 x)) ps := by
  refine ⟨h.uniq, fun y hy => ?_, fun t ht hlt => ?_⟩
  · obtain ⟨h1, h2, h3, h4⟩ := h.each y hy
    exact ⟨h1, h2, by simp [h3], h4⟩
  · have e : t ≠ x := by rintro rfl; omega
    rw [same_int] at hlt
    simp [e] at hlt
    exact h.all t ht hlt
theorem Coll.done {los : List Los} {am : List Int} {p : Int} (hn : ∀ a ∈ am, 0 ≤ a) {left : Lit → Bool} {ps qs : List P2} (h : Coll (sumAt los am p) left ps) (hl : ∀ kl, left kl = false) (hq : qs.Perm ps) (hs : qs.Pairwise (fun a b => a.a ≤ b.a)) : qs = ptsF los am p := by
  have hu : qs.Pairwise (fun a b => a.a ≠ b.a) := (hq.pairwise_iff (fun hab e => hab e.symm)).2 h.uniq
  refine pts_ext hn (List.Pairwise.imp₂ (fun h1 h2 => by omega) hs hu) (fun t => ?_) (fun x hx => (h.each x (hq.mem_iff.1 hx)).1)
  constructor
  · rintro ⟨s, hs⟩
    have := h.each _ (hq.mem_iff.1 hs)
    dsimp only at this
    rw [← this.1]; exact this.2.1
  · intro ht
    obtain ⟨x, hx, rfl⟩ := h.all t ht (hl _)
    exact ⟨x.b, hq.mem_iff.2 hx⟩

end Go.Proofs.Ytilkcailpkebdaa
