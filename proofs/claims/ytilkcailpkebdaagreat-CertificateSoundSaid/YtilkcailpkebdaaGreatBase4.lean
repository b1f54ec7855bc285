/-
  Texts of the proof, one after the other.
-/
import Derived.Test.YtilkcailpkebdaaGreatBase3
import Derived.Test.YtilkcailpkebdaaGreatShelf
import Derived.Test.YtilkcailpkebdaaGreatBase2
import Derived.Test.YtilkcailpkebdaaGreatBase1
import Derived.Shelf.SlSortCmp.WholeK
import Derived.Shelf.SlSortCmp.NoneTotal
import Derived.Maps.OwnOps
import Derived.Maps.OwnSet
import Derived.Maps.RangeWalk
import Derived.StillTailTactics
import Derived.Outline

/-
  event.Perils: its contract.
-/
namespace Go.Proofs.YtilkcailpkebdaaGreat
open Go.RowKit
set_option linter.unusedVariables false

def perilsL (los : List Los) : List Int := los.map Los.peril
def perilsF (los : List Los) : List Int := Lib.compact ((perilsL los).mergeSort fun x y => decide (x ≤ y))
theorem compact_len (zs : List Int) : (Lib.compact zs).length ≤ zs.length := by
  unfold Lib.compact Lib.compactUpTo
  rw [List.length_map]
  refine Nat.le_trans (List.length_filter_le _ _) ?_
  simp
theorem perils_next {los : List Los} {k : Nat} {x : Los} (h : los[k]? = some x) : (perilsL (los.take k)).flatMap V1 ++ V1 x.peril = (perilsL (los.take (k + 1))).flatMap V1 := by
  rw [List.take_add_one, h]; simp [perilsL]

set_option maxRecDepth 100000 in
set_option maxHeartbeats 1000000 in
theorem perils_any (A : Option Addr) (c : Nat) (los : List Los) (w : World) (hll : los.length ≤ 1000) (hL : Losses w 0 A los) :
    Calls Tryz.prog 31 #[.slice A los.length c] w fun e w' => ∃ v, e = .returned v ∧ w'.ownsRow w.heap.size 3 1 v (perilsF los).length ((perilsF los).flatMap V1) ∧ Below w.heap.size w w' := by
  obtain ⟨n, hn⟩ : ∃ n, n = los.length := ⟨_, rfl⟩
  rw [← hn] at hll ⊢
  have HN := Lib.hid hn
  obtain ⟨i0, hi, hz0, hz1, hz2⟩ := info_parts Tryz.infoInt
  obtain ⟨w0, hmk, hown0, hg0⟩ := run_make_own (P := Tryz.prog) w w.heap.size 23 3 i0 _ 1 Tryz.underlying23 hi hz0 hz1 .i64 .i64 n (by rw [hz2]; omega) (by unfold maxLen; omega) (Nat.le_refl _)
  have hb0 : Below w.heap.size w w0 := (Below.refl _ _).grown hg0 (Nat.le_refl _) (fun g h => by cases h)
  clear hn hg0
  go_enter Tryz.func31, Tryz.ntmps31
  go_wp2_with fail
  go_loopw [3, 5, 11] (fun v _ ii wr => ∃ (k g cap : Nat), k ≤ n ∧ ii = .int .i64 k ∧ v = .slice (some ⟨g, 0, none⟩) k cap ∧ wr.ownsRow w.heap.size 3 1 v k ((perilsL (los.take k)).flatMap V1) ∧ Below w.heap.size w wr) (fun _ _ ii _ => n - (intOf ii).toNat)
  case atStart => exact ⟨0, _, _, Nat.zero_le _, rfl, rfl, hown0, hb0⟩
  case round =>
    obtain ⟨k, g, cap, hk, rfl, rfl, hown, hb⟩ := hrel
    clear hmk hown0 hb0
    by_cases hkn : k < n
    · obtain ⟨x, hx, _⟩ := drop_cons (xs := los) (i := k) (by rw [← HN.out]; exact hkn)
      obtain ⟨b, off, rfl, _, hbl, c0, c1, c2, c3, c4, c5, c6, c7, c8, c9⟩ := (hL.below hb).at_ hx
      have HX := Lib.hid hx
      clear hx
      obtain ⟨wb, hwb⟩ : ∃ wb : World, wb = wr.alloc (.cells #[.int .i64 x.id, .int .i64 x.pol, .int .i64 x.risk, .int .i64 x.hour, .int .i64 x.peril, .int .i64 x.area, .int .i64 x.cur, .int .i64 x.sum, .int .i64 x.amt, .int .i64 x.paid] 92) := ⟨_, rfl⟩
      have hbb : Below wr.heap.size wr wb := by rw [hwb]; exact (Below.refl _ _).alloc (Nat.le_refl _) _
      have hownb := own_below hown hbb
      have hb0b := hb.trans (hbb.mono hb.size)
      have p4 : wb.cell? ⟨wr.heap.size, 4, none⟩ = some (.int .i64 x.peril) := by rw [hwb]; simp
      go_upto_region 5 with fail
      rw [← hwb]
      clear hwb c0 c1 c2 c3 c4 c5 c6 c7 c8 c9 hown hbb
      go_wp2_with (at_builtin; refine wpList_append_own _ rfl (.tmp 15) (.tmp 18) 23 rfl w.heap.size 3 i0 _ 1 8 Tryz.underlying23 hi hz0 hz1 hz2 rfl (by decide) _ k _ rfl (own_below hownb ((Below.refl _ _).alloc (Nat.le_refl _) _)) ⟨wb.heap.size, 0, none⟩ 1 1 (V1 x.peril) rfl rfl ?c1 ?c2 ?c3 ?c4 ?c5 ?_)
      case c1 => exact cell_new wb (V1 x.peril) 3
      case c2 => intro u hu; simp [V1] at hu; rw [hu]; rfl
      case c3 => unfold maxLen; omega
      case c4 => omega
      case c5 => have := hb0b.size; simp; omega
      intro v' w8 hown8 hg8 _
      rw [perils_next HX.out] at hown8
      have hb08 : Below w.heap.size w w8 := ((hb0b.alloc hb0b.size _)).grown hg8 (by have := hb0b.size; simp; omega) (fun g' hg' => own_low hownb g' hg')
      rcases hown8.2 with ⟨_, h00⟩ | ⟨g8, cap8, cur8, rfl, _⟩
      · omega
      go_wp2_with fail
      go_roundw
      case rel => exact ⟨k + 1, g8, cap8, by omega, by go_num, rfl, hown8, hb08⟩
      case measure => simp [intOf]; omega
    · obtain rfl : k = n := by omega
      have hpl : Hid ((perilsL los).length = k) := by show (perilsL los).length = k; unfold perilsL; rw [List.length_map]; exact HN.out.symm
      rw [List.take_of_length_le (by rw [← HN.out]; exact Nat.le_refl _)] at hown
      have hms : Hid (((perilsL los).mergeSort fun x y => decide (x ≤ y)).length = k) := by show _ = k; rw [List.length_mergeSort]; exact hpl.out
      by_cases hk0 : k = 0
      · obtain rfl : k = 0 := hk0
        have hpf : Hid (perilsF los = []) := by
          have h0 : perilsL los = [] := List.eq_nil_of_length_eq_zero hpl.out
          show perilsF los = []
          refine List.eq_nil_of_length_eq_zero (Nat.le_zero.1 ?_)
          unfold perilsF
          refine Nat.le_trans (compact_len _) ?_
          rw [List.length_mergeSort, h0]; exact Nat.le_refl _
        go_wp2_with fail
        refine (Tryz.slices_Sort_int_none _ _ _).mono ?_
        rintro e w' ⟨rfl, rfl⟩
        go_wp2_with fail
        refine (Tryz.slices_Compact_int_empty _ _ _).mono ?_
        rintro e w' ⟨rfl, rfl⟩
        go_wp2_with fail
        go_ret
        refine ⟨_, rfl, ?_, hb⟩
        rw [hpf.out]
        rw [List.eq_nil_of_length_eq_zero hpl.out] at hown
        exact hown
      · have hglt := own_lt hown g rfl
        have hgw := own_low hown g rfl
        have CS := Lib.hid (Tryz.slices_Sort_int g 0 cap (perilsL los) wr (holds_of_own hown hpl.out.symm) hglt (by rw [hpl.out]; omega))
        have hncap : k ≤ cap := by
          obtain ⟨A', c', hv, hle⟩ := own_shape hown
          injection hv with _ _ h3; omega
        rw [hpl.out] at CS
        go_wp2_with fail
        refine CS.out.mono ?_
        rintro e w' ⟨rfl, q, os, hw'⟩
        have k1 := grown_putRow (Value.int .i64) wr q g 0 ((perilsL los).mergeSort fun x y => decide (x ≤ y)).toArray
        have o1 := own_putRow (q := q) hown ((perilsL los).mergeSort fun x y => decide (x ≤ y)) hms.out
        have k2 := grown_grow (Sort.putRow (Value.int .i64) (Sort.ahead wr q) g 0 ((perilsL los).mergeSort fun x y => decide (x ≤ y)).toArray) os
        rw [← hw'] at k2
        have o2 := o1.kept k2 (by simp [Value.ownBlock])
        have hb1 : Below w.heap.size w w' := (hb.grown k1 hb.size (fun g' hg' => by injection hg' with hg'; omega)).grown k2 (Nat.le_trans hb.size k1.size) (fun g' hg' => by cases hg')
        have CC := Lib.hid (Tryz.slices_Compact_int g 0 cap ((perilsL los).mergeSort fun x y => decide (x ≤ y)) w' (holds_of_own o2 hms.out.symm) (by rw [hms.out]; omega) (by rw [hms.out]; exact hncap))
        have hcl := Lib.hid (compact_len ((perilsL los).mergeSort fun x y => decide (x ≤ y)))
        rw [hms.out] at CC hcl
        clear hw' k1 o1 k2 hown CS
        go_wp2_with fail
        refine CC.out.mono ?_
        rintro e w3 ⟨rfl, q3, hw3⟩
        have k3 := grown_putRow (Value.int .i64) w' q3 g 0 (Lib.compact ((perilsL los).mergeSort fun x y => decide (x ≤ y)) ++ List.replicate (k - (Lib.compact ((perilsL los).mergeSort fun x y => decide (x ≤ y))).length) 0).toArray
        have o3 := own_putRow (q := q3) o2 (Lib.compact ((perilsL los).mergeSort fun x y => decide (x ≤ y)) ++ List.replicate (k - (Lib.compact ((perilsL los).mergeSort fun x y => decide (x ≤ y))).length) 0) (by rw [List.length_append, List.length_replicate]; have := hcl.out; omega)
        rw [← hw3] at k3 o3
        have o4 := own_cut o3 rfl hcl.out
        have hb3 : Below w.heap.size w w3 := hb1.grown k3 hb1.size (fun g' hg' => by injection hg' with hg'; omega)
        clear hw3 k3 o3 o2 CC
        go_wp2_with fail
        go_ret
        exact ⟨_, rfl, o4, hb3⟩

end Go.Proofs.YtilkcailpkebdaaGreat

/-
  The windows that are chosen, in plain Lean: collected by perils, in order of their first hours.
-/
namespace Go.Proofs.YtilkcailpkebdaaGreat
open Go.RowKit
set_option linter.unusedVariables false

def hourAt (ps : List P2) (i : Int) : Int := ((ps[i.toNat]?).map P2.a).getD 0
def winOf (p : Int) (ps : List P2) (s : P2) : Win := ⟨p, hourAt ps s.a, hourAt ps s.b + 1⟩
/-- The windows of a peril. -/
def winsP (los : List Los) (am : List Int) (n : Int) (ls : List P2) (p : Int) : List Win := (spansOf (ptsF los am p) n ls).map (winOf p (ptsF los am p))
def collW (los : List Los) (am : List Int) (n : Int) (ls : List P2) : List Win := (perilsF los).flatMap (winsP los am n ls)
def winLt (a b : Win) : Prop := a.fr < b.fr ∨ (a.fr = b.fr ∧ a.peril < b.peril)
instance (a b : Win) : Decidable (winLt a b) := inferInstanceAs (Decidable (_ ∨ _))
/-- Into a list in order. -/
def insW : List Win → Win → List Win
  | [], w => [w]
  | x :: xs, w => if winLt x w then x :: insW xs w else w :: x :: xs
def bestF (los : List Los) (am : List Int) (n : Int) (ls : List P2) : List Win := (collW los am n ls).foldl insW []
theorem insW_perm (l : List Win) (w : Win) : (insW l w).Perm (w :: l) := by
  induction l with
  | nil => exact List.Perm.refl _
  | cons x xs ih =>
    unfold insW
    split
    · exact (ih.cons x).trans (List.Perm.swap w x xs)
    · exact List.Perm.refl _
theorem insW_asc {l : List Win} {w : Win} (h : l.Pairwise (fun a b => ¬ winLt b a)) : (insW l w).Pairwise (fun a b => ¬ winLt b a) := by
  induction l with
  | nil => simp [insW]
  | cons x xs ih =>
    rw [List.pairwise_cons] at h
    unfold insW
    split
    · rename_i hlt
      rw [List.pairwise_cons]
      refine ⟨fun y hy => ?_, ih h.2⟩
      rcases List.mem_cons.1 ((insW_perm xs w).mem_iff.1 hy) with rfl | hy
      · unfold winLt at *; omega
      · exact h.1 y hy
    · rename_i hlt
      rw [List.pairwise_cons]
      refine ⟨fun y hy => ?_, List.pairwise_cons.2 h⟩
      rcases List.mem_cons.1 hy with rfl | hy
      · exact hlt
      · have := h.1 y hy
        unfold winLt at *; omega
theorem insW_all (ws : List Win) : ∀ l : List Win, l.Pairwise (fun a b => ¬ winLt b a) → (ws.foldl insW l).Pairwise (fun a b => ¬ winLt b a) ∧ (ws.foldl insW l).Perm (ws ++ l) := by
  induction ws with
  | nil => intro l h; exact ⟨h, List.Perm.refl _⟩
  | cons w ws ih =>
    intro l h
    obtain ⟨h1, h2⟩ := ih (insW l w) (insW_asc h)
    refine ⟨h1, h2.trans ?_⟩
    exact ((insW_perm l w).append_left ws).trans List.perm_middle
/-- The first hours of a peril's windows ascend. -/
theorem spans_asc (L : Int) (ls ps : List P2) : ∀ f i, (∀ s ∈ spansF L ls ps f i, (i : Int) ≤ s.a ∧ s.a < ps.length) ∧ (spansF L ls ps f i).Pairwise (fun a b => a.a < b.a) := by
  intro f
  induction f with
  | zero => intro i; simp [spansF]
  | succ f ih =>
    intro i
    by_cases hi : i < ps.length
    · obtain ⟨p, hp, hd⟩ := drop_cons (xs := ps) (i := i) hi
      by_cases he : valAt L ls ps i = valAt L ls ps (i + 1)
      · rw [spans_eq hp he]
        exact ⟨fun s hs => by have := (ih (i + 1)).1 s hs; omega, (ih (i + 1)).2⟩
      · obtain ⟨j, hj⟩ := findAt_some hd he
        have hb := findAt_bd hj
        rw [spans_hit hp he hj]
        refine ⟨fun s hs => ?_, List.pairwise_cons.2 ⟨fun s hs => ?_, (ih (j + 1)).2⟩⟩
        · rcases List.mem_cons.1 hs with rfl | hs
          · dsimp only; omega
          · have := (ih (j + 1)).1 s hs; omega
        · have := (ih (j + 1)).1 s hs; dsimp only; omega
    · rw [spans_end (by omega)]; simp
theorem hourAt_lt {ps : List P2} (h : ps.Pairwise (fun a b => a.a < b.a)) {i j : Int} (hi : 0 ≤ i) (hij : i < j) (hj : j < ps.length) : hourAt ps i < hourAt ps j := by
  unfold hourAt
  have h1 : i.toNat < ps.length := by omega
  have h2 : j.toNat < ps.length := by omega
  rw [List.getElem?_eq_getElem h1, List.getElem?_eq_getElem h2]
  exact (List.pairwise_iff_getElem.1 h) _ _ h1 h2 (by omega)
theorem winsP_asc (los : List Los) (am : List Int) (n : Int) (ls : List P2) (p : Int) : (winsP los am n ls p).Pairwise (fun a b => a.fr < b.fr) ∧ ∀ w ∈ winsP los am n ls p, w.peril = p := by
  constructor
  · unfold winsP spansOf
    split
    · have h := spans_asc n ls (ptsF los am p) (ptsF los am p).length 0
      refine List.pairwise_map.2 (h.2.imp_of_mem fun {a b} ha hb hab => ?_)
      have h1 := h.1 a ha
      have h2 := h.1 b hb
      exact hourAt_lt (List.pairwise_map.2 (asc_insAll _)) (by omega) hab h2.2
    · exact List.Pairwise.nil
  · intro w hw
    unfold winsP at hw
    obtain ⟨s, _, rfl⟩ := List.mem_map.1 hw
    rfl
theorem coll_key {los : List Los} {am : List Int} {n : Int} {ls : List P2} {a b : Win} (ha : a ∈ collW los am n ls) (hb : b ∈ collW los am n ls) (h1 : ¬ winLt a b) (h2 : ¬ winLt b a) : a = b := by
  unfold collW at ha hb
  obtain ⟨p, _, ha⟩ := List.mem_flatMap.1 ha
  obtain ⟨q, _, hb⟩ := List.mem_flatMap.1 hb
  have ea := (winsP_asc los am n ls p).2 a ha
  have eb := (winsP_asc los am n ls q).2 b hb
  unfold winLt at h1 h2
  have e1 : a.fr = b.fr := by omega
  have e2 : p = q := by omega
  subst e2
  have hp := (winsP_asc los am n ls p).1
  obtain ⟨i, hi, rfl⟩ := List.mem_iff_getElem.1 ha
  obtain ⟨j, hj, rfl⟩ := List.mem_iff_getElem.1 hb
  rcases Nat.lt_trichotomy i j with h | h | h
  · have := (List.pairwise_iff_getElem.1 hp) i j hi hj h; omega
  · subst h; rfl
  · have := (List.pairwise_iff_getElem.1 hp) j i hj hi h; omega
/-- Whatever is in order and has the same windows is the same list. -/
theorem best_ext {los : List Los} {am : List Int} {n : Int} {ls : List P2} {qs : List Win} (hp : qs.Perm (collW los am n ls)) (hs : qs.Pairwise (fun a b => ¬ winLt b a)) : qs = bestF los am n ls := by
  obtain ⟨h1, h2⟩ := insW_all (collW los am n ls) [] List.Pairwise.nil
  rw [List.append_nil] at h2
  refine List.Perm.eq_of_pairwise (le := fun a b => ¬ winLt b a) (fun a b ha hb h3 h4 => ?_) hs h1 (hp.trans h2.symm)
  exact coll_key (hp.mem_iff.1 ha) (h2.mem_iff.1 hb) h4 h3
theorem winsP_len (los : List Los) (am : List Int) (n : Int) (ls : List P2) (p : Int) : (winsP los am n ls p).length ≤ (ptsF los am p).length := by
  unfold winsP; rw [List.length_map]; exact spansOf_len _ _ _

end Go.Proofs.YtilkcailpkebdaaGreat

/-
  The window of a loss, and the totals of the windows, in plain Lean.
-/
namespace Go.Proofs.YtilkcailpkebdaaGreat
open Go.RowKit
set_option linter.unusedVariables false

def covers (x : Win) (l : Los) : Bool := decide (x.peril = l.peril) && decide (x.fr ≤ l.hour) && decide (l.hour < x.to)
theorem covers_iff (x : Win) (l : Los) : covers x l = true ↔ x.peril = l.peril ∧ x.fr ≤ l.hour ∧ l.hour < x.to := by simp [covers]; omega
def findW (l : Los) : List Win → Nat → Int
  | [], _ => -1
  | x :: xs, k => if covers x l = true then k else findW l xs (k + 1)
def asgAt (ws : List Win) (l : Los) : Int := findW l ws 0
def asgF (los : List Los) (ws : List Win) : List Int := los.map (asgAt ws)

theorem findW_hit {l : Los} {ws : List Win} {k : Nat} {x : Win} {r : Int} (hd : ws.drop k = x :: ws.drop (k + 1)) (h : findW l (ws.drop k) k = r) (hc : covers x l = true) : r = k := by
  rw [hd, findW, if_pos hc] at h; exact h.symm
theorem findW_next {l : Los} {ws : List Win} {k : Nat} {x : Win} {r : Int} (hd : ws.drop k = x :: ws.drop (k + 1)) (h : findW l (ws.drop k) k = r) (hc : ¬ covers x l = true) : findW l (ws.drop (k + 1)) (k + 1) = r := by
  rw [hd, findW, if_neg hc] at h; exact h
theorem findW_end {l : Los} {ws : List Win} {k : Nat} {r : Int} (h : findW l (ws.drop ws.length) k = r) : r = -1 := by
  rw [List.drop_length, findW] at h; exact h.symm
theorem findW_bd (l : Los) : ∀ (ws : List Win) (k : Nat), findW l ws k = -1 ∨ (k : Int) ≤ findW l ws k ∧ findW l ws k < k + ws.length := by
  intro ws
  induction ws with
  | nil => intro k; left; rfl
  | cons x ws ih =>
    intro k
    simp only [findW]
    split
    · right; simp only [List.length_cons]; omega
    · rcases ih (k + 1) with h | h
      · left; exact h
      · right; simp only [List.length_cons]; omega
theorem asgAt_bd (ws : List Win) (l : Los) : asgAt ws l = -1 ∨ 0 ≤ asgAt ws l ∧ asgAt ws l < ws.length := by
  have := findW_bd l ws 0
  unfold asgAt; omega
/-- The last index below k that covers, seen from above: what the reference's downward search holds. -/
theorem findW_down (l : Los) (ws : List Win) : ∀ (k : Nat), k ≤ ws.length → (∀ i x, i < k → ws[i]? = some x → covers x l = false) → findW l ws 0 = findW l (ws.drop k) k := by
  intro k
  induction k with
  | zero => intro _ _; simp
  | succ k ih =>
    intro hk hno
    obtain ⟨x, hx, hd⟩ := drop_cons (xs := ws) (i := k) (by omega)
    rw [ih (by omega) (fun i x hi hx => hno i x (by omega) hx), hd, findW, if_neg (by rw [hno k x (by omega) hx]; simp)]

/-- out after the losses from index k on were added. -/
def addTo (f : Nat → Int) (i : Int) (a : Int) : Nat → Int := fun j => if (j : Int) = i then f j + a else f j
def totLoop : List Int → List Int → (Nat → Int) → (Nat → Int)
  | i :: is, a :: l, f => totLoop is l (if 0 ≤ i then addTo f i a else f)
  | _, _, f => f
def totF (los : List Los) (am : List Int) (ws : List Win) : List Int := (List.range ws.length).map (totLoop (asgF los ws) am fun _ => 0)
def totalsF (los : List Los) (am : List Int) (ws : List Win) : List Int := if chkE los am = 0 then totF los am ws else []
theorem tot_yes {is am : List Int} {k : Nat} {i a : Int} {f r : Nat → Int} (hi : is.drop k = i :: is.drop (k + 1)) (ha : am.drop k = a :: am.drop (k + 1)) (h : totLoop (is.drop k) (am.drop k) f = r) (h0 : 0 ≤ i) : totLoop (is.drop (k + 1)) (am.drop (k + 1)) (addTo f i a) = r := by
  rw [hi, ha, totLoop, if_pos h0] at h; exact h
theorem tot_no {is am : List Int} {k : Nat} {i a : Int} {f r : Nat → Int} (hi : is.drop k = i :: is.drop (k + 1)) (ha : am.drop k = a :: am.drop (k + 1)) (h : totLoop (is.drop k) (am.drop k) f = r) (h0 : ¬ 0 ≤ i) : totLoop (is.drop (k + 1)) (am.drop (k + 1)) f = r := by
  rw [hi, ha, totLoop, if_neg h0] at h; exact h
theorem tot_end {is am : List Int} {f r : Nat → Int} (h : totLoop (is.drop is.length) (am.drop is.length) f = r) : r = f := by
  rw [List.drop_length] at h; simp [totLoop] at h; exact h.symm

end Go.Proofs.YtilkcailpkebdaaGreat

/-
  The choice with given windows, in plain Lean.
-/
namespace Go.Proofs.YtilkcailpkebdaaGreat
open Go.RowKit
set_option linter.unusedVariables false

theorem totLoop_bd : ∀ (is l : List Int) (f : Nat → Int) (j : Nat), (∀ a ∈ l, 0 ≤ a) → f j ≤ totLoop is l f j ∧ totLoop is l f j ≤ f j + sumI l := by
  intro is
  induction is with
  | nil =>
    intro l f j h
    have : 0 ≤ sumI l := by
      induction l with
      | nil => simp [sumI]
      | cons a l ih => have h1 := h a (by simp); have h2 := ih (fun x hx => h x (by simp [hx])); simp only [sumI]; omega
    simp only [totLoop]; omega
  | cons i is ih =>
    intro l f j h
    cases l with
    | nil => simp [totLoop, sumI]
    | cons a l =>
      have ha := h a (by simp)
      simp only [totLoop, sumI]
      have h1 := ih l (if 0 ≤ i then addTo f i a else f) j (fun x hx => h x (by simp [hx]))
      have h2 : f j ≤ (if 0 ≤ i then addTo f i a else f) j ∧ (if 0 ≤ i then addTo f i a else f) j ≤ f j + a := by
        split
        · unfold addTo; split <;> omega
        · omega
      omega
theorem totF_bd {los : List Los} {am : List Int} {ws : List Win} (h : ∀ a ∈ am, 0 ≤ a) : ∀ t ∈ totF los am ws, 0 ≤ t ∧ t ≤ sumI am := by
  intro t ht
  unfold totF at ht
  obtain ⟨j, _, rfl⟩ := List.mem_map.1 ht
  have := totLoop_bd (asgF los ws) am (fun _ => 0) j h
  omega

def evalErr (los : List Los) (am : List Int) (ws : List Win) (n : Int) (ls : List P2) : Int :=
  if chkE los am ≠ 0 then chkE los am else if recErr 0 ls ≠ 0 then recErr 0 ls else winsE ws n
def recsF (ts : List Int) (ls : List P2) : List Int := ts.map fun t => recVal t ls
def evW (los : List Los) (am : List Int) (ws : List Win) (n : Int) (ls : List P2) : List Win := if evalErr los am ws n ls = 0 then ws else []
def evT (los : List Los) (am : List Int) (ws : List Win) (n : Int) (ls : List P2) : List Int := if evalErr los am ws n ls = 0 then totF los am ws else []
def evR (los : List Los) (am : List Int) (ws : List Win) (n : Int) (ls : List P2) : List Int := recsF (evT los am ws n ls) ls
theorem ev_bad {los : List Los} {am : List Int} {ws : List Win} {n : Int} {ls : List P2} (h : evalErr los am ws n ls ≠ 0) : evW los am ws n ls = [] ∧ evT los am ws n ls = [] ∧ evR los am ws n ls = [] := by
  unfold evR evW evT; rw [if_neg h, if_neg h]; exact ⟨rfl, rfl, rfl⟩
theorem ev_ok {los : List Los} {am : List Int} {ws : List Win} {n : Int} {ls : List P2} (h : evalErr los am ws n ls = 0) : evW los am ws n ls = ws ∧ evT los am ws n ls = totF los am ws ∧ evR los am ws n ls = recsF (totF los am ws) ls := by
  unfold evR evW evT; rw [if_pos h, if_pos h]; exact ⟨rfl, rfl, rfl⟩
theorem ev_parts {los : List Los} {am : List Int} {ws : List Win} {n : Int} {ls : List P2} (h1 : chkE los am = 0) (h2 : recErr 0 ls = 0) (h3 : winsE ws n = 0) : evalErr los am ws n ls = 0 := by
  unfold evalErr; rw [if_neg (by simp [h1]), if_neg (by simp [h2])]; exact h3
theorem sumR_next {ts : List Int} {ls : List P2} {k : Nat} {t s r : Int} (hd : ts.drop k = t :: ts.drop (k + 1)) (h : s + sumI (recsF (ts.drop k) ls) = r) : (s + recVal t ls) + sumI (recsF (ts.drop (k + 1)) ls) = r := by
  rw [hd] at h; unfold recsF at h ⊢; rw [List.map_cons, sumI] at h; omega
theorem winsE_len {ws : List Win} {n : Int} (h : winsE ws n = 0) : ws.length ≤ 64 := by
  unfold winsE at h; split at h <;> omega

end Go.Proofs.YtilkcailpkebdaaGreat

/-
  Rows of structs of a call's own behind the library's sort by a function.
-/
namespace Go.Proofs.YtilkcailpkebdaaGreat
open Go.RowKit Go.Sort
set_option linter.unusedVariables false

section
variable {α : Type} [Inhabited α] {enc : α → List Value} {k : Nat}

theorem flatK_list (hk : ∀ x, (enc x).length = k) (hk0 : 0 < k) (ys : List α) : (flatK enc k ys.toArray).toList = ys.flatMap enc := by
  apply List.ext_getElem?
  intro t
  by_cases ht : t < ys.length * k
  · have hi : t / k < ys.length := Nat.div_lt_of_lt_mul (by rw [Nat.mul_comm]; exact ht)
    have hm := Nat.mod_lt t hk0
    have hf := flat_get enc k hk ys (t / k) ys[t / k] (List.getElem?_eq_getElem hi) (t % k) hm
    rw [Nat.div_add_mod'] at hf
    rw [hf]
    have h1 : t < (flatK enc k ys.toArray).size := by simpa using ht
    have h2 : t % k < (enc ys[t / k]).length := by rw [hk]; exact hm
    have h3 := get_flatK enc k ys.toArray t (by simpa using ht)
    rw [getElem!_pos (flatK enc k ys.toArray) t h1] at h3
    rw [Array.getElem?_toList, Array.getElem?_eq_getElem h1, h3]
    simp only [List.getElem!_toArray]
    rw [getElem!_pos ys _ hi, getElem!_pos (enc ys[t / k]) (t % k) h2, List.getElem?_eq_getElem h2]
  · rw [List.getElem?_eq_none (by simp; omega), List.getElem?_eq_none (by rw [flat_len enc k hk]; omega)]
theorem holdsK_of_own (hk : ∀ x, (enc x).length = k) (hk0 : 0 < k) {w : World} {base g n cap : Nat} {e : TypeId} {zs : List α} (h : w.ownsRow base e k (.slice (some ⟨g, 0, none⟩) n cap) n (zs.flatMap enc)) (hn : n = zs.length) : HoldsK enc k w g 0 zs.toArray := by
  subst hn
  intro j hj
  have hj' : j < zs.length * k := by simpa using hj
  refine ⟨?_, by rw [Nat.zero_add]; exact h.frozenAt j⟩
  rw [Nat.zero_add, h.cellAt j (by omega), ← flatK_list hk hk0, Array.getElem?_toList, Array.getElem?_eq_getElem hj, getElem!_pos (flatK enc k zs.toArray) j hj]
  rfl
theorem own_sortK (hk : ∀ x, (enc x).length = k) (hk0 : 0 < k) {w : World} {base g n cap q : Nat} {e : TypeId} {xs : List Value} (h : w.ownsRow base e k (.slice (some ⟨g, 0, none⟩) n cap) n xs) (ys : List α) (hy : ys.length = n) :
    (putRowK enc k (Sort.ahead w q) g 0 ys.toArray).ownsRow base e k (.slice (some ⟨g, 0, none⟩) n cap) n (ys.flatMap enc) := by
  rcases h.2 with ⟨hv, _⟩ | ⟨g', cap', cur, hv, hb, hh, hnc, hcm, hsz, ht⟩
  · injection hv with h1; cases h1
  obtain ⟨rfl, rfl⟩ : g = g' ∧ cap = cap' := by injection hv with h1 h2 h3; injection h1 with h1; injection h1 with h1; exact ⟨h1, h3⟩
  have hle : n * k ≤ cap * k := Nat.mul_le_mul_right k hnc
  refine ⟨by rw [flat_len enc k hk, hy], .inr ⟨g, cap, putCells id 0 (flatK enc k ys.toArray) cur, rfl, hb, ?_, hnc, hcm, by simp [putCells, hsz], ?_⟩⟩
  · unfold putRowK; rw [heap_putRow, if_pos rfl, hh]; rfl
  · rw [← flatK_list hk hk0]
    apply List.ext_getElem?
    intro i
    by_cases hi : i < n * k
    · rw [List.getElem?_take_of_lt hi]
      have hi1 : i < cur.size := by omega
      have hi2 : i < (flatK enc k ys.toArray).size := by simp [hy]; exact hi
      have hi3 : i < ys.length * k := by rw [hy]; exact hi
      simp [putCells, hi1, hi3, getElem!_pos]
    · rw [List.getElem?_eq_none (by simp; omega), List.getElem?_eq_none (by simp [hy]; omega)]
theorem sorted_list {lt : α → α → Bool} {ds : List α} {d' : Array α} (hp : PermIn 0 ds.toArray.size ds.toArray d') (hs : SortedIn lt 0 ds.toArray.size d') : d'.toList.Perm ds ∧ d'.toList.Pairwise (fun a b => lt b a = false) := by
  obtain ⟨h1, _, h3⟩ := hp
  have e1 : (d'.extract 0 ds.toArray.size) = d' := by rw [← h1]; simp
  have e2 : (ds.toArray.extract 0 ds.toArray.size).toList = ds := by simp
  rw [e1, e2] at h3
  refine ⟨h3, List.pairwise_iff_getElem.2 fun i j hi hj hij => ?_⟩
  have hi' : i < d'.size := by simpa using hi
  have hj' : j < d'.size := by simpa using hj
  have := hs i j (Nat.zero_le _) hij (by rw [← h1]; exact hj')
  rw [getElem!_pos d' i hi', getElem!_pos d' j hj'] at this
  simpa using this
end

end Go.Proofs.YtilkcailpkebdaaGreat

/-
  event.within, event.Check, treatyref25.Check: their contracts.
-/
namespace Go.Proofs.YtilkcailpkebdaaGreat
open Go.RowKit
set_option linter.unusedVariables false

def withinB (n lo hi : Int) : Bool := decide (lo ≤ n) && decide (n ≤ hi)
theorem withinB_true {n lo hi : Int} (h1 : lo ≤ n) (h2 : n ≤ hi) : withinB n lo hi = true := by simp [withinB, h1, h2]
theorem withinB_false {n lo hi : Int} (h : ¬ (lo ≤ n ∧ n ≤ hi)) : withinB n lo hi = false := by simp [withinB]; omega
set_option maxHeartbeats 400000 in
theorem within_any (n lo hi : Int) (w : World) :
    Calls Tryz.prog 53 #[.int .i64 n, .int .i64 lo, .int .i64 hi] w fun e w' => e = .returned (.bool (withinB n lo hi)) ∧ w = w' := by
  unfold withinB
  by_cases h : lo ≤ n
  · go_enter Tryz.func53, Tryz.ntmps53
    go_wp2
    go_ret
    exact ⟨ret_bool (by simp [h]), rfl⟩
  · go_enter Tryz.func53, Tryz.ntmps53
    go_wp2
    go_ret
    exact ⟨ret_bool (by simp; omega), rfl⟩

set_option maxHeartbeats 1000000 in
theorem checkE_any (A : Option Addr) (c : Nat) (los : List Los) (B : Option Addr) (d : Nat) (am : List Int) (w : World) (hll : los.length ≤ 9223372036854775807) (hal : am.length ≤ 9223372036854775807) (hL : Losses w 0 A los) (hM : Ints w 0 B am) :
    Calls Tryz.prog 29 #[.slice A los.length c, .slice B am.length d] w fun e w' => e = .returned (.int .i64 (chkE los am)) ∧ Below w.heap.size w w' := by
  obtain ⟨n, hn⟩ : ∃ n, n = los.length := ⟨_, rfl⟩
  obtain ⟨m, hm⟩ : ∃ m, m = am.length := ⟨_, rfl⟩
  rw [← hn] at hll ⊢
  rw [← hm] at hal ⊢
  have HN := Lib.hid hn
  have HM := Lib.hid hm
  by_cases hlim : 64 < los.length ∨ am.length ≠ los.length
  · have HR := Lib.hid (chkE_lim hlim)
    rw [← hn, ← hm] at hlim
    clear hn hm
    by_cases h1 : 64 < n
    · have q : decide (64 < (n : Int)) = true := by simp; omega
      go_enter Tryz.func29, Tryz.ntmps29
      go_wp2_with fail
      go_ret
      exact ⟨ret_int HR.out.symm, Below.refl _ _⟩
    · have q : decide (64 < (n : Int)) = false := by simp; omega
      have q2 : (m != n) = true := by simp; omega
      have q3 : ((m : Int) != (n : Int)) = true := by simp; omega
      clear hlim
      go_enter Tryz.func29, Tryz.ntmps29
      go_wp2_with fail
      go_ret
      exact ⟨ret_int HR.out.symm, Below.refl _ _⟩
  have HL := Lib.hid hlim
  have hn64 : n ≤ 64 := by omega
  obtain rfl : m = n := by omega
  have q : decide (64 < (m : Int)) = false := by simp; omega
  clear hlim hn hm
  go_enter Tryz.func29, Tryz.ntmps29
  go_wp2_with fail
  go_loopw [5, 6, 22] (fun _ _ ii wr => ∃ k : Nat, k ≤ m ∧ ii = .int .i64 k ∧ Below w.heap.size w wr ∧ ((los.zip am).drop k).all pairOk = (los.zip am).all pairOk) (fun _ _ ii _ => m - (intOf ii).toNat)
  case atStart => exact ⟨0, Nat.zero_le _, rfl, Below.refl _ _, rfl⟩
  case round =>
    obtain ⟨k, hk, rfl, hb, hall⟩ := hrel
    have HA := Lib.hid hall
    clear hall
    by_cases hlt : k < m
    · obtain ⟨l, hl, _⟩ := drop_cons (xs := los) (i := k) (by rw [← HN.out]; exact hlt)
      obtain ⟨a, ha, _⟩ := drop_cons (xs := am) (i := k) (by rw [← HM.out]; exact hlt)
      have HZ := Lib.hid (zip_get hl ha)
      obtain ⟨b, off, rfl, _, _, c0, c1, c2, c3, c4, c5, c6, c7, c8, c9⟩ := (hL.below hb).at_ hl
      obtain ⟨b2, off2, rfl, _, _, m0⟩ := (hM.below hb).at_ ha
      clear hl ha
      by_cases hok : pairOk (l, a) = true
      · obtain ⟨g1, g2, g3, g4, g5, g6⟩ := (pairOk_iff l a).1 hok
        have v1 := withinB_true g1 g2
        have v2 := withinB_true g3 g4
        have v3 : validB a = true := by simp [validB]; omega
        have HO := Lib.hid hok
        clear hok
        go_wp2_with (first | (go_at_call 53; refine (within_any _ _ _ _).mono ?_; rintro e w' ⟨rfl, rfl⟩) | (go_at_call 54; refine (valid_any _ _).mono ?_; rintro e w' ⟨rfl, rfl⟩))
        go_roundw
        case rel => exact ⟨k + 1, by omega, by go_num, hb.alloc hb.size _, zall_next HZ.out HA.out HO.out⟩
        case measure => simp [intOf]; omega
      · have HR := Lib.hid (chkE_bad HL.out (zall_bad HZ.out (Bool.eq_false_iff.2 hok)))
        have hno : ¬ (0 ≤ l.hour ∧ l.hour ≤ 876599 ∧ 0 ≤ l.peril ∧ l.peril ≤ 15 ∧ 0 ≤ a ∧ a ≤ 17592186044416) := fun h => hok ((pairOk_iff l a).2 h)
        clear hok
        by_cases h1 : 0 ≤ l.hour ∧ l.hour ≤ 876599
        · have v1 := withinB_true h1.1 h1.2
          by_cases h2 : 0 ≤ l.peril ∧ l.peril ≤ 15
          · have v2 := withinB_true h2.1 h2.2
            by_cases h3 : 0 ≤ a
            · have v3 : validB a = false := by simp [validB]; omega
              clear hno h1 h2
              go_wp2_with (first | (go_at_call 53; refine (within_any _ _ _ _).mono ?_; rintro e w' ⟨rfl, rfl⟩) | (go_at_call 54; refine (valid_any _ _).mono ?_; rintro e w' ⟨rfl, rfl⟩))
              go_ret
              exact ⟨ret_int HR.out.symm, hb.alloc hb.size _⟩
            · clear hno h1 h2
              go_wp2_with (go_at_call 53; refine (within_any _ _ _ _).mono ?_; rintro e w' ⟨rfl, rfl⟩)
              go_ret
              exact ⟨ret_int HR.out.symm, hb.alloc hb.size _⟩
          · have v2 := withinB_false h2
            clear hno h1 h2
            go_wp2_with (go_at_call 53; refine (within_any _ _ _ _).mono ?_; rintro e w' ⟨rfl, rfl⟩)
            go_ret
            exact ⟨ret_int HR.out.symm, hb.alloc hb.size _⟩
        · have v1 := withinB_false h1
          clear hno h1
          go_wp2_with (go_at_call 53; refine (within_any _ _ _ _).mono ?_; rintro e w' ⟨rfl, rfl⟩)
          go_ret
          exact ⟨ret_int HR.out.symm, hb.alloc hb.size _⟩
    obtain rfl : k = m := by omega
    have hall : (los.zip am).all pairOk = true := by
      have := HA.out
      rw [List.drop_eq_nil_of_le (by rw [List.length_zip]; have := HN.out; omega)] at this
      exact this.symm
    have HR := Lib.hid (chkE_sum HL.out hall)
    have HAM := Lib.hid (zip_amounts (by rw [← HN.out, ← HM.out]) hall)
    clear hall HA
    go_wp2_with fail
    go_loopw [7, 9, 53] (fun s _ ii wr => ∃ (i : Nat) (acc : Int), i ≤ k ∧ ii = .int .i64 i ∧ s = .int .i64 acc ∧ 0 ≤ acc ∧ acc ≤ 17592186044416 * i ∧ Below w.heap.size w wr ∧ acc + sumI (am.drop i) = sumI am) (fun _ _ ii _ => k - (intOf ii).toNat)
    case atStart => exact ⟨0, 0, Nat.zero_le _, rfl, rfl, by omega, by omega, hb, by simp⟩
    case round =>
      obtain ⟨i, acc, hi, rfl, rfl, h0, h1, hb2, hs⟩ := hrel
      have HS := Lib.hid hs
      clear hs
      by_cases hik : i < k
      · obtain ⟨a, ha, hd⟩ := drop_cons (xs := am) (i := i) (by rw [← HM.out]; exact hik)
        obtain ⟨b2, off2, rfl, _, _, m0⟩ := (hM.below hb2).at_ ha
        have hab := HAM.out a (List.mem_of_getElem? ha)
        have HD := Lib.hid hd
        clear ha hd
        go_wp2_with fail
        go_roundw
        case rel => exact ⟨i + 1, acc + a, by omega, by go_num, rfl, by omega, by omega, hb2, sumI_next HD.out HS.out⟩
        case measure => simp [intOf]; omega
      · obtain rfl : i = k := by omega
        have hs := HS.out
        rw [HM.out, List.drop_length, sumI, Int.add_zero] at hs
        have HSS := Lib.hid hs
        clear hs HS
        by_cases hov : 17592186044416 < acc
        · have v : validB acc = false := by simp [validB]; omega
          go_wp2_with (go_at_call 54; refine (valid_any _ _).mono ?_; rintro e w' ⟨rfl, rfl⟩)
          go_ret
          exact ⟨ret_int (by rw [HR.out, ← HSS.out, if_pos (by omega)]), hb2⟩
        · have v : validB acc = true := by simp [validB]; omega
          go_wp2_with (go_at_call 54; refine (valid_any _ _).mono ?_; rintro e w' ⟨rfl, rfl⟩)
          go_ret
          exact ⟨ret_int (by rw [HR.out, ← HSS.out, if_neg (by omega)]), hb2⟩

end Go.Proofs.YtilkcailpkebdaaGreat

/-
  event.Points: its contract.
-/
namespace Go.Proofs.YtilkcailpkebdaaGreat
open Go.RowKit Go.Maps Go.Sort
set_option linter.unusedVariables false

theorem lawK : Keyed Tryz.prog 3 := int_keyed Tryz.underlying3
theorem zeroI (w : World) : (zeroValue 3).run Tryz.prog w = .ok (.int .i64 0) w := by kernel_rfl

/-- Points whose hours are hours. -/
structure HP where
  p : P2
  lo : 0 ≤ p.a
  hi : p.a ≤ 876599
instance : Inhabited HP := ⟨⟨⟨0, 0⟩, by decide, by decide⟩⟩
def HP.cells (x : HP) : List Value := P2.cells x.p
def cmpHP (x y : HP) : Int := x.p.a - y.p.a
theorem swoHP : SWO (ltOf cmpHP) where
  irrefl x := by simp [ltOf, cmpHP]
  trans x y z h1 h2 := by unfold ltOf cmpHP at *; have a := of_decide_eq_true h1; have b := of_decide_eq_true h2; exact decide_eq_true (by omega)
  ntrans x y z h1 h2 := by unfold ltOf cmpHP at *; have a := of_decide_eq_false h1; have b := of_decide_eq_false h2; exact decide_eq_false (by omega)

set_option maxHeartbeats 1000000 in
theorem closureP (x y : HP) (W : World) : Calls Tryz.prog 59 #[.agg (HP.cells x).toArray, .agg (HP.cells y).toArray] W fun e w' => e = .returned (.int .i64 (cmpHP x y)) ∧ ∃ q os', w' = Sort.grow (W.drewN q) os' := by
  obtain ⟨⟨a, b⟩, h, h2⟩ := x
  obtain ⟨⟨c, d⟩, h', h2'⟩ := y
  dsimp only at h h' h2 h2'
  show Calls Tryz.prog 59 #[.agg #[.int .i64 a, .int .i64 b], .agg #[.int .i64 c, .int .i64 d]] W fun e w' => e = .returned (.int .i64 (a - c)) ∧ ∃ q os', w' = Sort.grow (W.drewN q) os'
  go_enter Tryz.func59, Tryz.ntmps59
  go_wp2_with fail
  go_ret
  exact ⟨rfl, 0, _, by rw [alloc_eq_grow, alloc_eq_grow, grow_grow]; rfl⟩
theorem cmpLaysP (blk off size : Nat) (w : World) : CmpLays Tryz.prog 59 #[] HP.cells 2 cmpHP blk off size w :=
  fun _ _ _ _ x y => closureP x y _

theorem isAggP (w : World) : (isAgg 55).run Tryz.prog w = .ok true w := by kernel_rfl
theorem sizeP (w : World) : (Go.sizeOf 55).run Tryz.prog w = .ok 2 w := by kernel_rfl
theorem hp_flat {ds : List HP} {ps : List P2} (h : ds.map HP.p = ps) : ds.flatMap HP.cells = ps.flatMap P2.cells := by
  subst h
  induction ds with
  | nil => rfl
  | cons d ds ih => rw [List.flatMap_cons, List.map_cons, List.flatMap_cons, ih]; rfl

/-- slices.SortFunc at points: a permutation in order of the hours, in the same row. -/
theorem sortP (g cap base n : Nat) (ps : List P2) (w : World) (hown : w.ownsRow base 55 2 (.slice (some ⟨g, 0, none⟩) n cap) n (ps.flatMap P2.cells)) (hn : n = ps.length) (hp : ∀ p ∈ ps, 0 ≤ p.a ∧ p.a ≤ 876599) (hl : n ≤ 1000) :
    Calls Tryz.prog 58 #[.slice (some ⟨g, 0, none⟩) n cap, .func (.func 59) #[] #[]] w fun e w' => e = .returned (.tuple #[]) ∧
      ∃ qs : List P2, qs.Perm ps ∧ qs.Pairwise (fun a b => a.a ≤ b.a) ∧ w'.ownsRow base 55 2 (.slice (some ⟨g, 0, none⟩) n cap) n (qs.flatMap P2.cells) ∧ w.grownBy w' (some g) := by
  obtain ⟨ds, hds⟩ : ∃ ds : List HP, ds.map HP.p = ps := ⟨ps.attach.map fun x => ⟨x.1, (hp x.1 x.2).1, (hp x.1 x.2).2⟩, by rw [List.map_map]; exact List.attach_map_subtype_val ps⟩
  have hdl : n = ds.length := by rw [hn, ← hds, List.length_map]
  have hown' := hown
  rw [← hp_flat hds] at hown'
  have eg : ∀ args w, (callFunc 59 args).run Tryz.prog w = .ok (.enter 59 args) w := enters_of Tryz.func59 (by kernel_rfl) rfl
  have hH : HoldsK HP.cells 2 w g 0 ds.toArray := holdsK_of_own (enc := HP.cells) (k := 2) (fun _ => rfl) (by omega) hown' hdl
  have hcon := AnyQ.slices_SortFunc Tryz.sortPoint 2 isAggP sizeP HP.cells (fun _ => rfl) (fun x v hv => by simp [HP.cells, P2.cells] at hv; rcases hv with rfl | rfl <;> rfl) cmpHP swoHP 59 #[] g 0 cap ds.toArray w eg (cmpLaysP g 0 ds.toArray.size w) hH (own_lt hown g rfl) (by simp only [List.size_toArray]; omega)
  change Calls Tryz.prog 58 _ _ _ at hcon
  have hsz : ds.toArray.size = n := by simp [hdl]
  rw [hsz] at hcon
  refine hcon.mono ?_
  rintro e w' ⟨rfl, d', q, os, hpm, hst, rfl⟩
  rw [← hsz] at hpm hst
  obtain ⟨h1, h2⟩ := sorted_list hpm hst
  refine ⟨rfl, d'.toList.map HP.p, ?_, ?_, ?_, ?_⟩
  · rw [← hds]; exact h1.map _
  · refine List.pairwise_map.2 (h2.imp ?_)
    intro a b hab
    unfold ltOf cmpHP at hab
    have := of_decide_eq_false hab
    omega
  · have hlen : d'.toList.length = n := by rw [h1.length_eq]; exact hdl.symm
    have o := own_sortK (enc := HP.cells) (k := 2) (fun _ => rfl) (by omega) (q := q) hown d'.toList hlen
    rw [hp_flat rfl] at o
    exact o.kept (grown_grow _ os) (by simp [Value.ownBlock])
  · exact only_grown (grown_putRow id w q g 0 _) (grown_grow _ os) (fun g' h => by cases h)

theorem sumAt_snoc (p h : Int) : ∀ (ls : List Los) (ams : List Int) (l : Los) (a : Int), ls.length = ams.length → sumAt (ls ++ [l]) (ams ++ [a]) p h = sumAt ls ams p h + if l.peril = p ∧ l.hour = h then a else 0 := by
  intro ls
  induction ls with
  | nil =>
    intro ams l a hl
    cases ams with
    | nil => simp [sumAt]
    | cons b bs => simp at hl
  | cons x xs ih =>
    intro ams l a hl
    cases ams with
    | nil => simp at hl
    | cons b bs =>
      simp only [List.cons_append, sumAt]
      rw [ih bs l a (by simpa using hl)]
      omega
theorem sumAt_next {los : List Los} {am : List Int} {k : Nat} {l : Los} {a : Int} (hlen : am.length = los.length) (hl : los[k]? = some l) (ha : am[k]? = some a) (p h : Int) : sumAt (los.take (k + 1)) (am.take (k + 1)) p h = sumAt (los.take k) (am.take k) p h + if l.peril = p ∧ l.hour = h then a else 0 := by
  have h1 := (List.getElem?_eq_some_iff.1 hl).1
  have h2 := (List.getElem?_eq_some_iff.1 ha).1
  rw [List.take_add_one, List.take_add_one, hl, ha]
  exact sumAt_snoc p h _ _ l a (by rw [List.length_take, List.length_take]; omega)
def eptsF (los : List Los) (am : List Int) (p : Int) : List P2 := if chkE los am = 0 then ptsF los am p else []

/-- The map of the hours behind k losses. -/
def MapAt (los : List Los) (am : List Int) (p : Int) (D : DataW Unit) : Prop := IsMap D ∧ ∀ h : Int, D.atKey (.int .i64 h) (.lit (.int .i64 0)) = .lit (.int .i64 (sumAt los am p h))
/-- What has been collected. -/
structure Coll (S : Int → Int) (left : Lit → Bool) (ps : List P2) : Prop where
  uniq : ps.Pairwise (fun a b => a.a ≠ b.a)
  each : ∀ x ∈ ps, x.b = S x.a ∧ 0 < x.b ∧ left (.int .i64 x.a) = false ∧ 0 ≤ x.a ∧ x.a ≤ 876599
  all : ∀ h, 0 < S h → left (.int .i64 h) = false → ∃ x ∈ ps, x.a = h
theorem Coll.start {los : List Los} {am : List Int} {p : Int} {D : DataW Unit} (h : MapAt los am p D) : Coll (sumAt los am p) (Maps.has D) [] := by
  refine ⟨List.Pairwise.nil, fun x hx => by simp at hx, fun t ht hl => ?_⟩
  have := h.2 t
  rw [atKey_of_not_has hl] at this
  injection this with this
  injection this with _ this
  omega
theorem same_int (z : Int) (x : Int) : (Lit.int .i64 z).sameKey (.int .i64 x) = decide (z = x) := by simp [Lit.sameKey]
theorem Coll.keep {S : Int → Int} {left : Lit → Bool} {ps : List P2} (h : Coll S left ps) {x c : Int} (hl : left (.int .i64 x) = true) (hc : c = S x) (h0 : 0 < c) (hr : 0 ≤ x ∧ x ≤ 876599) : Coll S (fun z => left z && !z.sameKey (.int .i64 x)) (ps ++ [⟨x, c⟩]) := by
  refine ⟨?_, ?_, ?_⟩
  · refine List.pairwise_append.2 ⟨h.uniq, by simp, fun a ha b hb => ?_⟩
    obtain rfl : b = _ := by simpa using hb
    intro e
    have := (h.each a ha).2.2.1
    dsimp only at e
    rw [e, hl] at this; cases this
  · intro y hy
    rcases List.mem_append.1 hy with hy | hy
    · obtain ⟨h1, h2, h3, h4⟩ := h.each y hy
      exact ⟨h1, h2, by simp [h3], h4⟩
    · obtain rfl : y = _ := by simpa using hy
      exact ⟨hc, h0, by simp [same_int], hr⟩
  · intro t ht hlt
    by_cases e : t = x
    · subst e; exact ⟨⟨t, c⟩, by simp, rfl⟩
    · rw [same_int] at hlt
      simp [e] at hlt
      obtain ⟨y, hy, e2⟩ := h.all t ht hlt
      exact ⟨y, by simp [hy], e2⟩
theorem Coll.skip {S : Int → Int} {left : Lit → Bool} {ps : List P2} (h : Coll S left ps) {x c : Int} (hc : c = S x) (h0 : ¬ 0 < c) : Coll S (fun z => left z && !z.sameKey (.int .i64 x)) ps := by
  refine ⟨h.uniq, fun y hy => ?_, fun t ht hlt => ?_⟩
  · obtain ⟨h1, h2, h3, h4⟩ := h.each y hy
    exact ⟨h1, h2, by simp [h3], h4⟩
  · have e : t ≠ x := by rintro rfl; omega
    rw [same_int] at hlt
    simp [e] at hlt
    exact h.all t ht hlt
theorem Coll.done {los : List Los} {am : List Int} {p : Int} (hn : ∀ a ∈ am, 0 ≤ a) {left : Lit → Bool} {ps qs : List P2} (h : Coll (sumAt los am p) left ps) (hl : ∀ kl, left kl = false) (hq : qs.Perm ps) (hs : qs.Pairwise (fun a b => a.a ≤ b.a)) : qs = ptsF los am p := by
  have hu : qs.Pairwise (fun a b => a.a ≠ b.a) := (hq.pairwise_iff (fun hab e => hab e.symm)).2 h.uniq
  refine pts_ext hn (List.Pairwise.imp₂ (fun h1 h2 => by omega) hs hu) (fun t => ?_) (fun x hx => (h.each x (hq.mem_iff.1 hx)).1)
  constructor
  · rintro ⟨s, hs⟩
    have := h.each _ (hq.mem_iff.1 hs)
    dsimp only at this
    rw [← this.1]; exact this.2.1
  · intro ht
    obtain ⟨x, hx, rfl⟩ := h.all t ht (hl _)
    exact ⟨x.b, hq.mem_iff.2 hx⟩

end Go.Proofs.YtilkcailpkebdaaGreat

/-
  treatylaw26.few: losses and as many amounts.
-/
namespace Go.Proofs.YtilkcailpkebdaaGreat
open Go.RowKit
set_option linter.unusedVariables false

/-- What the decks make is accepted. -/
theorem sumI_le {am : List Int} (h : ∀ x ∈ am, 0 ≤ x ∧ x < 268435456) : 0 ≤ sumI am ∧ sumI am ≤ 268435456 * am.length := by
  induction am with
  | nil => simp [sumI]
  | cons a l ih =>
    have h1 := h a (by simp)
    have h2 := ih (fun x hx => h x (by simp [hx]))
    simp only [sumI, List.length_cons]; omega
theorem chkE_made {los : List Los} {last : Int} {am : List Int} (hm : MadeLos los last) (hl : los.length ≤ 64) (hal : am.length = los.length) (ham : ∀ x ∈ am, 0 ≤ x ∧ x < 268435456) : chkE los am = 0 := by
  have hall : (los.zip am).all pairOk = true := by
    rw [List.all_eq_true]
    intro z hz
    have h1 := (hm.each z.1 (List.of_mem_zip hz).1).1
    have h2 := ham z.2 (List.of_mem_zip hz).2
    unfold LosOk at h1
    obtain ⟨l, a⟩ := z
    exact (pairOk_iff l a).2 ⟨by dsimp only at h1; omega, by dsimp only at h1; omega, by dsimp only at h1; omega, by dsimp only at h1; omega, h2.1, by dsimp only at h2; omega⟩
  rw [chkE_sum (by omega) hall, if_neg]
  have := sumI_le ham
  omega

set_option maxHeartbeats 1000000 in
theorem few26_any (D : Option Addr) (dc : Nat) (deck : List Int) (w : World) (hD : Ints w 0 D deck) (hdl : deck.length ≤ 9223372036854775807) :
    Calls Tryz.prog 7 #[.slice D deck.length dc] w fun e w' => ∃ (LA : Option Addr) (lc : Nat) (los : List Los) (last : Int) (AA : Option Addr) (ac : Nat) (am : List Int),
      e = .returned (.tuple #[.slice LA los.length lc, .slice AA am.length ac]) ∧ los.length ≤ 10 ∧ MadeLos los last ∧ am.length = los.length ∧ (∀ x ∈ am, 0 ≤ x ∧ x < 268435456) ∧
      Losses w' w.heap.size LA los ∧ Ints w' w.heap.size AA am ∧ Below w.heap.size w w' := by
  have CN := Lib.hid (new_any D dc deck w hdl hD)
  obtain ⟨m, hm⟩ : ∃ m, m = deck.length := ⟨_, rfl⟩
  rw [← hm] at CN ⊢
  clear hm hdl
  go_enter Tryz.func7, Tryz.ntmps7
  go_wp2_with fail
  refine CN.out.mono ?_
  rintro e w1 ⟨rfl, hdk, hb1, hs1⟩
  clear hs1
  go_wp2_with fail
  refine (losses_any _ 10 _ (by omega) (by omega) hdk).mono ?_
  rintro e w2 ⟨v, los, last, rfl, hll, hlast, hmade, hown, hd2, hg2⟩
  have hb2 : Below w.heap.size w w2 := below_of_only hb1 hg2 (Nat.le_refl _)
  obtain ⟨LA, lc, rfl, _⟩ := own_shape hown
  have hL : Losses w2 w1.heap.size LA los := losses_of_own hown
  have hw1 : w.heap.size < w1.heap.size := hdk.lt
  have HMADE := Lib.hid hmade
  clear hown hmade
  go_wp2_with fail
  refine (amounts_any _ los.length _ (by omega) hd2).mono ?_
  rintro e w3 ⟨v, am, rfl, hal, ham, hown3, hd3, hg3⟩
  have hb3 : Below w.heap.size w w3 := below_of_only hb2 hg3 (Nat.le_refl _)
  obtain ⟨AA, ac, rfl, _⟩ := own_shape hown3
  have hA : Ints w3 w2.heap.size AA am := ints_of_own hown3
  have hL3 : Losses w3 w1.heap.size LA los := hL.grown hg3 (fun g hg => by injection hg with hg; omega)
  have HAM := Lib.hid ham
  have HAL := Lib.hid hal
  have hs2 := hb2.size
  clear hown3 ham hL hal hg3 hg2 hd3 hd2 hdk
  go_wp2_with fail
  go_ret2
  exact ⟨LA, lc, los, last, AA, ac, am, rfl, by omega, HMADE.out, HAL.out, HAM.out, hL3.low (by omega), hA.low hs2, hb3⟩

end Go.Proofs.YtilkcailpkebdaaGreat

/-
  treatylaw25.few: losses and as many amounts, in rows of the call's own. And a store into one cell of such a row.
-/
namespace Go.Proofs.YtilkcailpkebdaaGreat
open Go.RowKit
set_option linter.unusedVariables false

theorem flat_set1 {α : Type} (enc : α → List Value) (k : Nat) (hk : ∀ x, (enc x).length = k) (j : Nat) (hj : j < k) (u : Value) (x' : α) :
    ∀ (K : Nat) (xs : List α) (x : α), xs[K]? = some x → enc x' = (enc x).set j u → (xs.flatMap enc).set (K * k + j) u = (xs.set K x').flatMap enc := by
  intro K
  induction K with
  | zero =>
    intro xs x hx he
    cases xs with
    | nil => simp at hx
    | cons y ys =>
      obtain rfl : y = x := by simpa using hx
      simp only [List.flatMap_cons, List.set_cons_zero, Nat.zero_mul, Nat.zero_add]
      rw [List.set_append_left _ _ (by rw [hk]; exact hj), he]
  | succ K ih =>
    intro xs x hx he
    cases xs with
    | nil => simp at hx
    | cons y ys =>
      have := ih ys x (by simpa using hx) he
      simp only [List.flatMap_cons, List.set_cons_succ]
      rw [List.set_append_right _ _ (by rw [hk, Nat.succ_mul]; omega), hk, show (K + 1) * k + j - k = K * k + j by rw [Nat.succ_mul]; omega, this]
theorem own_base {w : World} {base base' : Nat} {e : TypeId} {size n : Nat} {v : Value} {xs : List Value} (h : w.ownsRow base e size v n xs) (hb : base' ≤ base) : w.ownsRow base' e size v n xs := by
  refine ⟨h.1, ?_⟩
  rcases h.2 with h0 | ⟨g, cap, cur, hv, hg, r⟩
  · exact .inl h0
  · exact .inr ⟨g, cap, cur, hv, by omega, r⟩
theorem own_ty {w : World} {base base' : Nat} {e e' : TypeId} {size size' n n' : Nat} {v v' : Value} {xs xs' : List Value} (h : w.ownsRow base e size v n xs) (h' : w.ownsRow base' e' size' v' n' xs') (ht : e ≠ e') (g : Nat) (hg : v'.ownBlock = some g) : v.ownBlock = none ∨ v.ownBlock ≠ some g := by
  rcases h.2 with ⟨rfl, _⟩ | ⟨g1, cap, cur, rfl, _, hh, _⟩
  · exact .inl rfl
  · refine .inr fun he => ?_
    have e1 : g1 = g := by simpa [Value.ownBlock] using he
    subst e1
    rcases h'.2 with ⟨rfl, _⟩ | ⟨g2, cap2, cur2, rfl, _, hh2, _⟩
    · simp [Value.ownBlock] at hg
    · have e2 : g2 = g1 := by simpa [Value.ownBlock] using hg
      subst e2
      rw [hh] at hh2
      exact ht (by injection Option.some.inj hh2)


end Go.Proofs.YtilkcailpkebdaaGreat
