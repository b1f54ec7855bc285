/-
  Texts of the proof, one after the other.
-/
import Derived.Test.YtilkcailpkebdaaBase8
import Derived.Test.YtilkcailpkebdaaBase1
import Derived.Test.YtilkcailpkebdaaBase3
import Derived.Test.YtilkcailpkebdaaBase5
import Derived.Test.YtilkcailpkebdaaBase7

/-
  What is paid of a sum of recoveries, in plain Lean.
-/
namespace Go.Proofs.Ytilkcailpkebdaa
open Go.RowKit
set_option linter.unusedVariables false

def paidF (s d l : Int) : Int := layerF s d (if l = 0 then 17592186044416 else l)
theorem paidF_bd (s d l : Int) : 0 ≤ paidF s d l ∧ paidF s d l ≤ 17592186044416 := layerF_bd _ _ _
theorem paidF_mono {a b : Int} (h : a ≤ b) (d l : Int) : paidF a d l ≤ paidF b d l := layerF_mono h _ _
theorem paidF_zero (d l : Int) : paidF 0 d l = 0 := layerF_zero _ _
def partAt (l : List Int) (d m : Int) (x : Nat) : Int := paidF (sumI (l.take (x + 1))) d m - paidF (sumI (l.take x)) d m
def partsF (l : List Int) (d m : Int) : List Int := (List.range l.length).map (partAt l d m)
theorem parts_len (l : List Int) (d m : Int) : (partsF l d m).length = l.length := by simp [partsF]
theorem parts_get {l : List Int} {d m : Int} {k : Nat} (h : k < l.length) : (partsF l d m)[k]? = some (partAt l d m k) := by
  unfold partsF; rw [List.getElem?_map, List.getElem?_range h]; rfl
theorem parts_step (l : List Int) (d m : Int) (k : Nat) : paidF (sumI (l.take k)) d m + partAt l d m k = paidF (sumI (l.take (k + 1))) d m := by
  unfold partAt; omega
theorem sumT_next {rs : List Int} {i : Nat} {r : Int} (h : rs[i]? = some r) : sumI (rs.take (i + 1)) = sumI (rs.take i) + r := by
  rw [List.take_add_one, h, sumI_append]; simp [sumI]
theorem sumT_range {l : List Int} {M : Int} (h : ∀ a ∈ l, 0 ≤ a) (hs : sumI l ≤ M) (k : Nat) : 0 ≤ sumI (l.take k) ∧ sumI (l.take k) ≤ M := by
  have nn : ∀ l : List Int, (∀ a ∈ l, 0 ≤ a) → 0 ≤ sumI l := by
    intro l
    induction l with
    | nil => intro _; simp [sumI]
    | cons a l ih => intro h; have h1 := h a (by simp); have h2 := ih (fun x hx => h x (by simp [hx])); simp only [sumI]; omega
  have e : sumI l = sumI (l.take k) + sumI (l.drop k) := by rw [← sumI_append, List.take_append_drop]
  have h1 := nn (l.take k) (fun a ha => h a (List.mem_of_mem_take ha))
  have h2 := nn (l.drop k) (fun a ha => h a (List.mem_of_mem_drop ha))
  omega
/-- One layer recovers no more than the total. -/
theorem rec_one_le {t : Int} {ls : List P2} (h0 : 0 ≤ t) (h1 : ls.length ≤ 1) : recVal t ls ≤ t := by
  unfold recVal
  split
  · match ls, h1 with
    | [], _ => simp [sumL]; exact h0
    | [l], _ =>
      have a := limited_bd l.b
      have b := limited_bd l.a
      have c : limited t ≤ t := by unfold limited imax imin; repeat' split
                                   all_goals omega
      simp only [sumL, layerF, imax, imin]
      repeat' split
      all_goals omega
  · exact h0

end Go.Proofs.Ytilkcailpkebdaa

/-
  What one layer recovers in valid windows is at most what is lost. Plain Lean.
-/
namespace Go.Proofs.Ytilkcailpkebdaa
open Go.RowKit
set_option linter.unusedVariables false

theorem sumIn_le : ∀ (is am : List Int), (∀ a ∈ am, 0 ≤ a) → sumIn is am ≤ sumI am := by
  intro is
  induction is with
  | nil =>
    intro am h
    have : 0 ≤ sumI am := sumI_pos0 h
    simp only [sumIn]; exact this
  | cons i is ih =>
    intro am h
    cases am with
    | nil => simp [sumIn, sumI]
    | cons a ams =>
      have h1 := h a (by simp)
      have h2 := ih ams (fun x hx => h x (by simp [hx]))
      simp only [sumIn, sumI]; split <;> omega
theorem sum_rec_le {ls : List P2} (h1 : ls.length ≤ 1) : ∀ ts : List Int, (∀ t ∈ ts, 0 ≤ t) → sumI (recsF ts ls) ≤ sumI ts := by
  intro ts
  induction ts with
  | nil => intro _; simp [recsF, sumI]
  | cons t ts ih =>
    intro h
    have a := rec_one_le (ls := ls) (h t (by simp)) h1
    have b := ih (fun x hx => h x (by simp [hx]))
    unfold recsF at b ⊢
    simp only [List.map_cons, sumI]; omega
theorem evR_small {los : List Los} {am : List Int} {n : Int} {ls : List P2} {ws : List Win} (h : chkE los am = 0) (hr : recErr 0 ls = 0) (hw : winsE ws n = 0) (h1 : ls.length ≤ 1) : (∀ r ∈ evR los am ws n ls, 0 ≤ r ∧ r ≤ 17592186044416) ∧ sumI (evR los am ws n ls) ≤ 17592186044416 := by
  obtain ⟨_, _, f3⟩ := ev_ok (ev_parts h hr hw)
  have hn := amounts_nonneg h
  have hs := (goodE_of h).sum
  have ht : ∀ t ∈ totF los am ws, 0 ≤ t ∧ t ≤ 17592186044416 := fun t htm => by have := totF_bd (los := los) (ws := ws) hn t htm; omega
  rw [f3]
  constructor
  · intro r hrm
    unfold recsF at hrm
    obtain ⟨t, htm, rfl⟩ := List.mem_map.1 hrm
    have a := rec_one_le (ls := ls) (ht t htm).1 h1
    have b := (recVal_bd t ls).1
    have c := (ht t htm).2
    omega
  · have a := sum_rec_le (ls := ls) h1 (totF los am ws) (fun t htm => (ht t htm).1)
    have b := sumIn_le (asgF los ws) am hn
    rw [sum_totF] at a
    omega
theorem bestR_ev {los : List Los} {am : List Int} {n : Int} {ls : List P2} (h : chkE los am = 0) (hr : recErr 0 ls = 0) (h1 : 1 ≤ n) (h2 : n ≤ 8784) : bestR los am n ls = evR los am (bestF los am n ls) n ls := (best_ok (bestA_ok h hr h1 h2)).2.2.1
theorem pairs_take {w : World} {lo : Nat} {A : Option Addr} {ls : List P2} (h : Pairs w lo A ls) (k : Nat) : Pairs w lo A (ls.take k) := by
  intro hp
  have h0 : 0 < (ls.map P2.cells).length := by
    rw [List.length_map, List.length_take] at hp
    rw [List.length_map]; omega
  obtain ⟨b, off, e, h1, h2, hc⟩ := h h0
  refine ⟨b, off, e, h1, h2, fun i x hx j u hu => hc i x ?_ j u hu⟩
  rw [List.map_take, List.getElem?_take] at hx
  split at hx
  · exact hx
  · cases hx

end Go.Proofs.Ytilkcailpkebdaa

/-
  aggregate.Apply and what it calls: their contracts.
-/
namespace Go.Proofs.Ytilkcailpkebdaa
open Go.RowKit
set_option linter.unusedVariables false

set_option maxHeartbeats 400000 in
theorem awithin_any (n : Int) (w : World) (h0 : 0 ≤ n) (h1 : n ≤ 17592186044416) :
    Calls Try.prog 75 #[.int .i64 n] w fun e w' => e = .returned (.bool true) ∧ w = w' := by
  go_enter Try.func75, Try.ntmps75
  go_wp2
  all_goals go_ret
  all_goals refine ⟨ret_bool ?_, rfl⟩
  all_goals simp [*]
set_option maxHeartbeats 400000 in
theorem radd_any (b : Nat) (s n : Int) (w : World) (hh : w.heap[b]? = some (.cells #[.int .i64 s] 101 (0, 0))) (h0 : 0 ≤ s + n) (h1 : s + n ≤ 9223372036854775807) :
    Calls Try.prog 59 #[.pointer (some ⟨b, 0, none⟩), .int .i64 n] w fun e w' => e = .returned (.int .i64 (s + n)) ∧ w' = w.setCell ⟨b, 0, none⟩ (.int .i64 (s + n)) := by
  have hc : w.cell? ⟨b, 0, none⟩ = some (.int .i64 s) := by simp [World.cell?, hh]
  have hf : w.frozen? ⟨b, 0, none⟩ = false := by simp [World.frozen?, hh]
  have hw : IntKind.i64.wrap (s + n) = s + n := IntWalk.i64_in _ (by omega)
  go_enter Try.func59, Try.ntmps59
  go_wp2_with fail
  go_ret
  exact ⟨rfl, rfl⟩
theorem radd_heap {w : World} {b : Nat} {s v : Int} {t : TypeId} {fr : Nat × Nat} (hh : w.heap[b]? = some (.cells #[.int .i64 s] t fr)) : (w.setCell ⟨b, 0, none⟩ (.int .i64 v)).heap[b]? = some (.cells #[.int .i64 v] t fr) := by
  simp [World.setCell, Array.getElem?_modify, hh]

set_option maxRecDepth 100000 in
set_option maxHeartbeats 1000000 in
theorem atotal_any (A : Option Addr) (c : Nat) (l : List Int) (d m : Int) (w : World) (hl : l.length ≤ 64) (hn : ∀ n ∈ l, 0 ≤ n ∧ n ≤ 17592186044416) (hs : sumI l ≤ 17592186044416) (hd0 : 0 ≤ d) (hd1 : d ≤ 65535) (hm0 : 0 ≤ m) (hm1 : m ≤ 65535) (hA : Ints w 0 A l) :
    Calls Try.prog 57 #[.slice A l.length c, .int .i64 d, .int .i64 m] w fun e w' => e = .returned (.tuple #[.int .i64 (sumI l), .int .i64 0]) ∧ Below w.heap.size w w' := by
  have HS : Hid (∀ k, 0 ≤ sumI (l.take k) ∧ sumI (l.take k) ≤ 17592186044416) := fun k => sumT_range (fun a ha => (hn a ha).1) hs k
  obtain ⟨nl, hnl⟩ : ∃ k, k = l.length := ⟨_, rfl⟩
  rw [← hnl] at hl ⊢
  have HNL := Lib.hid hnl
  have HN := Lib.hid hn
  have q : decide (64 < (nl : Int)) = false := by simp; omega
  have hs0 : 0 ≤ sumI l := by have := HS.out nl; rw [HNL.out, List.take_length] at this; exact this.1
  obtain ⟨sl, hsl⟩ : ∃ k, k = sumI l := ⟨_, rfl⟩
  rw [← hsl] at hs hs0 ⊢
  have HSL := Lib.hid hsl
  have q2 : decide (17592186044416 < sl) = false := by simp; omega
  clear hnl hn hsl
  obtain ⟨w0, hw0⟩ : ∃ w0 : World, w0 = w.alloc (.cells #[.int .i64 0] 101) := ⟨_, rfl⟩
  obtain ⟨g, hg⟩ : ∃ g, g = w.heap.size := ⟨_, rfl⟩
  have hb0 : Below w.heap.size w w0 := by rw [hw0]; exact below_alloc1 _ _
  have hh0 : w0.heap[g]? = some (.cells #[.int .i64 0] 101 (0, 0)) := by rw [hw0, hg]; exact heap_alloc_new w _
  have hgw : w.heap.size ≤ g := by omega
  go_enter Try.func57, Try.ntmps57
  go_wp2_with (go_at_call 75; first | (refine (awithin_any _ _ hd0 (by omega)).mono ?_; rintro e w' ⟨rfl, rfl⟩) | (refine (awithin_any _ _ hm0 (by omega)).mono ?_; rintro e w' ⟨rfl, rfl⟩))
  rw [← hw0, ← hg]
  clear hw0 hg
  go_loopw [10, 24] (fun _ ii wr => ∃ k : Nat, k ≤ nl ∧ ii = .int .i64 k ∧ wr.heap[g]? = some (.cells #[.int .i64 (sumI (l.take k))] 101 (0, 0)) ∧ Below w.heap.size w wr) (fun _ ii _ => nl - (intOf ii).toNat)
  case atStart => exact ⟨0, Nat.zero_le _, rfl, hh0, hb0⟩
  case round =>
    obtain ⟨k, hk, rfl, hh, hbr⟩ := hrel
    have hsk := HS.out k
    by_cases hkn : k < nl
    case neg =>
      obtain rfl : k = nl := by omega
      have e : sumI (l.take k) = sl := by rw [HSL.out, HNL.out, List.take_length]
      rw [e] at hh
      have z0 : wr.cell? ⟨g, 0, none⟩ = some (.int .i64 sl) := by simp [World.cell?, hh]
      clear e hsk
      go_wp2_with fail
      go_ret2
      exact ⟨rfl, hbr⟩
    obtain ⟨n, hnk, _⟩ := drop_cons (xs := l) (i := k) (by rw [← HNL.out]; exact hkn)
    have hnr := HN.out n (List.mem_of_getElem? hnk)
    obtain ⟨b, o, rfl, _, _, c0⟩ := (hA.below hbr).at_ hnk
    have HNX := Lib.hid (sumT_next hnk)
    obtain ⟨s, hs'⟩ : ∃ s, s = sumI (l.take k) := ⟨_, rfl⟩
    rw [← hs'] at hsk hh HNX
    have C := Lib.hid (radd_any g s n wr hh (by omega) (by omega))
    have HH := Lib.hid (radd_heap (v := s + n) hh)
    have HB := Lib.hid (hbr.setCell (p := ⟨g, 0, none⟩) hgw (.int .i64 (s + n)))
    clear hs' hnk hh
    go_wp2_with (first | (go_at_call 75; refine (awithin_any _ _ hnr.1 hnr.2).mono ?_; rintro e w' ⟨rfl, rfl⟩) | (go_at_call 59; refine C.out.mono ?_; rintro e w' ⟨rfl, rfl⟩))
    go_roundw
    case rel => exact ⟨k + 1, by omega, by go_num, by rw [HNX.out]; exact HH.out, HB.out⟩
    case measure => simp [intOf]; omega

set_option maxHeartbeats 400000 in
theorem apaid_any (s d m : Int) (w : World) :
    Calls Try.prog 58 #[.int .i64 s, .int .i64 d, .int .i64 m] w fun e w' => e = .returned (.int .i64 (paidF s d m)) ∧ Below w.heap.size w w' := by
  by_cases h : m = 0
  · have q : (m == 0) = true := by simpa using h
    have HP : Hid (paidF s d m = layerF s d 17592186044416) := by show _ = _; unfold paidF; rw [if_pos h]
    clear h
    go_enter Try.func58, Try.ntmps58
    go_wp2_with (go_at_call 71; refine (layer_any _ _ _ _).mono ?_; rintro e w' ⟨rfl, hb⟩)
    go_ret
    exact ⟨ret_int HP.out.symm, hb⟩
  · have q : (m == 0) = false := by simpa using h
    have HP : Hid (paidF s d m = layerF s d m) := by show _ = _; unfold paidF; rw [if_neg h]
    clear h
    go_enter Try.func58, Try.ntmps58
    go_wp2_with (go_at_call 71; refine (layer_any _ _ _ _).mono ?_; rintro e w' ⟨rfl, hb⟩)
    go_ret
    exact ⟨ret_int HP.out.symm, hb⟩

set_option maxRecDepth 100000 in
set_option maxHeartbeats 2000000 in
theorem apply_any (A : Option Addr) (c : Nat) (l : List Int) (d m : Int) (w : World) (hl : l.length ≤ 64) (hn : ∀ n ∈ l, 0 ≤ n ∧ n ≤ 17592186044416) (hs : sumI l ≤ 17592186044416) (hd0 : 0 ≤ d) (hd1 : d ≤ 65535) (hm0 : 0 ≤ m) (hm1 : m ≤ 65535) (hA : Ints w 0 A l) :
    Calls Try.prog 28 #[.slice A l.length c, .int .i64 d, .int .i64 m] w fun e w' => ∃ (G : Option Addr), e = .returned (.tuple #[.slice G l.length l.length, .int .i64 0]) ∧ Ints w' w.heap.size G (partsF l d m) ∧ Below w.heap.size w w' := by
  have C1 := Lib.hid (atotal_any A c l d m w hl hn hs hd0 hd1 hm0 hm1 hA)
  have HS : Hid (∀ k, 0 ≤ sumI (l.take k) ∧ sumI (l.take k) ≤ 17592186044416) := fun k => sumT_range (fun a ha => (hn a ha).1) hs k
  obtain ⟨nl, hnl⟩ : ∃ k, k = l.length := ⟨_, rfl⟩
  rw [← hnl] at hl C1 ⊢
  have HNL := Lib.hid hnl
  have HN := Lib.hid hn
  have hmk := run_make_row' (P := Try.prog) 23 3 (.int .i64 0) 8 Try.underlying23 Try.infoInt rfl .i64 .i64 nl (by omega) (by omega)
  clear hnl hn hs
  go_enter Try.func28, Try.ntmps28
  go_wp2_with fail
  refine C1.out.mono ?_
  rintro e w1 ⟨rfl, hb1⟩
  have hrow0 := World.rowIs_made w1 (.int .i64 0) nl 3
  obtain ⟨w2, hw2⟩ : ∃ x : World, x = w1.alloc (.cells (madeCells #[.int .i64 0] nl) 3) := ⟨_, rfl⟩
  obtain ⟨g, hg⟩ : ∃ g, g = w1.heap.size := ⟨_, rfl⟩
  rw [← hg, ← hw2] at hrow0
  have hb12 : Below w1.heap.size w1 w2 := by rw [hw2]; exact below_alloc1 _ _
  have hgl : w2.heap.size = g + 1 := by rw [hw2, hg]; simp
  obtain ⟨w3, hw3⟩ : ∃ x : World, x = w2.alloc (.cells #[.int .i64 0] 101) := ⟨_, rfl⟩
  have hb23 : Below w2.heap.size w2 w3 := by rw [hw3]; exact below_alloc1 _ _
  have hh3 : w3.heap[g + 1]? = some (.cells #[.int .i64 0] 101 (0, 0)) := by rw [hw3, ← hgl]; exact heap_alloc_new w2 _
  have hrow3 := World.rowIs.of_block hrow0 (hb23.block g hrow0.lt)
  have hb13 := hb12.trans (hb23.mono hb12.size)
  have hb3 := hb1.trans (hb13.mono hb1.size)
  have hgw : w.heap.size ≤ g := by rw [hg]; exact hb1.size
  clear hb12 hb23 hb13 hrow0 C1
  go_wp2_with fail
  rw [← hg, ← hw2, ← hw3]
  clear hg hw2 hw3 hmk hgl hb1
  go_loopw [12, 13, 14, 15, 31] (fun s12 _ _ _ ii wr => ∃ (k : Nat) (F : Nat → Int), k ≤ nl ∧ ii = .int .i64 k ∧ s12 = .int .i64 (paidF (sumI (l.take k)) d m) ∧ wr.heap[g + 1]? = some (.cells #[.int .i64 (sumI (l.take k))] 101 (0, 0)) ∧ wr.rowIs g 3 nl (fun x => .int .i64 (F x)) ∧ (∀ x, x < k → F x = partAt l d m x) ∧ Below w.heap.size w wr) (fun _ _ _ _ ii _ => nl - (intOf ii).toNat)
  case atStart => exact ⟨0, fun _ => 0, Nat.zero_le _, rfl, by rw [List.take_zero, sumI, paidF_zero], hh3, hrow3, fun x h => by omega, hb3⟩
  case round =>
    obtain ⟨k, F, hk, rfl, rfl, hh, hrow, hF, hbr⟩ := hrel
    have HF := Lib.hid hF
    clear hF
    have hsk := HS.out k
    have hpk := paidF_bd (sumI (l.take k)) d m
    by_cases hkn : k < nl
    case neg =>
      obtain rfl : k = nl := by omega
      clear hsk hpk
      go_wp2_with fail
      go_ret2
      refine ⟨some ⟨g, 0, none⟩, rfl, ?_, hbr⟩
      refine ints_of_row (F := F) (by rw [parts_len, ← HNL.out]; exact hrow) hgw fun i x hi => ?_
      have hil := (List.getElem?_eq_some_iff.1 hi).1
      rw [parts_len] at hil
      rw [parts_get hil] at hi
      rw [HF.out i (by rw [HNL.out]; exact hil)]
      exact Option.some.inj hi
    obtain ⟨n, hnk, _⟩ := drop_cons (xs := l) (i := k) (by rw [← HNL.out]; exact hkn)
    have hnr := HN.out n (List.mem_of_getElem? hnk)
    obtain ⟨b, o, rfl, _, _, c0⟩ := (hA.below hbr).at_ hnk
    have HNX := Lib.hid (sumT_next hnk)
    have HPT : Hid (partAt l d m k = paidF (sumI (l.take (k + 1))) d m - paidF (sumI (l.take k)) d m) := rfl
    rw [HNX.out] at HPT
    obtain ⟨s, hs'⟩ : ∃ s, s = sumI (l.take k) := ⟨_, rfl⟩
    rw [← hs'] at hsk hh HNX hpk HPT ⊢
    have C := Lib.hid (radd_any (g + 1) s n wr hh (by omega) (by omega))
    have HH := radd_heap (v := s + n) hh
    have HB := hbr.setCell (p := ⟨g + 1, 0, none⟩) (by show w.heap.size ≤ g + 1; omega) (.int .i64 (s + n))
    have hrow' : (wr.setCell ⟨g + 1, 0, none⟩ (.int .i64 (s + n))).rowIs g 3 nl (fun x => .int .i64 (F x)) := World.rowIs.of_block hrow (Below.heap_setCell _ _ _ _ (by show g ≠ g + 1; omega))
    obtain ⟨wa, hwa⟩ : ∃ x : World, x = wr.setCell ⟨g + 1, 0, none⟩ (.int .i64 (s + n)) := ⟨_, rfl⟩
    rw [← hwa] at HH HB hrow' C
    have hpn := paidF_bd (s + n) d m
    obtain ⟨pa, hpa⟩ : ∃ x, x = paidF s d m := ⟨_, rfl⟩
    obtain ⟨pb, hpb⟩ : ∃ x, x = paidF (s + n) d m := ⟨_, rfl⟩
    have CP := Lib.hid (apaid_any (s + n) d m wa)
    rw [← hpa] at hpk HPT ⊢
    rw [← hpb] at hpn HPT CP
    have HPB := Lib.hid hpb
    have hwr : IntKind.i64.wrap (pb - pa) = pb - pa := IntWalk.i64_in _ (by omega)
    have hkn' : (k : Int) < (nl : Int) := by omega
    clear hs' hnk hh hrow hpa hpb hwa
    go_wp2_with (go_at_call 59; refine C.out.mono ?_; rintro e w' ⟨rfl, rfl⟩)
    refine CP.out.mono ?_
    rintro e w5 ⟨rfl, hb5⟩
    have hr5 := World.rowIs.of_block hrow' (hb5.block g hrow'.lt)
    have x0 := hr5.cell (i := k) hkn
    have xf := hr5.frozen k
    have hh5 := (hb5.block (g + 1) (lt_of_heap HH)).trans HH
    have hB5 := HB.trans (hb5.mono HB.size)
    go_wp2_with fail
    go_roundw
    case rel =>
      refine ⟨k + 1, fun x => if x = k then pb - pa else F x, by omega, by go_num, by rw [HNX.out, ← HPB.out], ?_, ?_, fun x hx => ?_, hB5.setCell hgw _⟩
      · rw [HNX.out]; exact (Below.heap_setCell _ _ _ _ (by show g + 1 ≠ g; omega)).trans hh5
      · refine (hr5.set k _).congr fun i _ => ?_
        by_cases hik : i = k <;> simp [hik]
      · dsimp only
        by_cases e : x = k
        · rw [if_pos e, e, HPT.out]
        · rw [if_neg e]; exact HF.out x (by omega)
    case measure => simp [intOf]; omega

end Go.Proofs.Ytilkcailpkebdaa

/-
  treatylaw26.WindowCapped: the law's walk.
-/
namespace Go.Proofs.Ytilkcailpkebdaa
open Go.RowKit
set_option linter.unusedVariables false

set_option maxRecDepth 100000 in
set_option maxHeartbeats 4000000 in
theorem lawCapped (D : Option Addr) (dc : Nat) (deck : List Int) (O : Option Addr) (oc : Nat) (other : List Int) (T : Option Addr) (tc : Nat) (third : List Int) (d m : Int) (w : World)
    (hD : Ints w 0 D deck) (hO : Ints w 0 O other) (hT : Ints w 0 T third) (hdl : deck.length ≤ 9223372036854775807) (hol : other.length ≤ 9223372036854775807) (htl : third.length ≤ 9223372036854775807) (hd0 : 0 ≤ d) (hd1 : d ≤ 65535) (hm0 : 0 ≤ m) (hm1 : m ≤ 65535) :
    Calls Try.prog 9 #[.slice D deck.length dc, .slice O other.length oc, .slice T third.length tc, .int .u16 d, .int .u16 m] w fun e w' => e = .returned (.bool true) ∧ Below w.heap.size w w' := by
  have C1 := Lib.hid (few26_any D dc deck w hD hdl)
  have C2 : Hid (∀ W, Ints W 0 O other → _) := fun W h => terms26_cap O oc other W h hol
  have C3 : Hid (∀ W, Ints W 0 T third → _) := fun W h => new_any T tc third W htl h
  obtain ⟨md, hmd⟩ : ∃ k, k = deck.length := ⟨_, rfl⟩
  obtain ⟨o, ho⟩ : ∃ k, k = other.length := ⟨_, rfl⟩
  obtain ⟨t, ht⟩ : ∃ k, k = third.length := ⟨_, rfl⟩
  rw [← hmd] at C1
  rw [← ho] at C2
  rw [← ht] at C3
  rw [← hmd, ← ho, ← ht]
  clear hmd ho ht hdl hol htl
  have hwd : IntKind.i64.wrap d = d := IntWalk.i64_in _ (by omega)
  have hwm : IntKind.i64.wrap m = m := IntWalk.i64_in _ (by omega)
  go_enter Try.func9, Try.ntmps9
  go_wp2_with fail
  refine C1.out.mono ?_
  rintro e w1 ⟨LA, lc, los, last, AA, ac, am, rfl, hl10, hmade, hal, hall, hLo, hAm, hb1⟩
  have hL1 : Losses w1 0 LA los := hLo.low (Nat.zero_le _)
  have hA1 : Ints w1 0 AA am := hAm.low (Nat.zero_le _)
  have hal' : am.length ≤ 10 := by omega
  have HCE := Lib.hid (chkE_made hmade (by omega) hal hall)
  clear hmade hall hLo hAm C1 hal
  go_wp2_with fail
  refine (C2.out _ (hO.below hb1)).mono ?_
  rintro e w2 ⟨N, G, gc, lz, rfl, hN1, hN2, hl1, hl3, hlall, hG, hb2, hgc⟩
  have hG2 : Pairs w2 0 G (lz.take 1) := pairs_take (hG.low (Nat.zero_le _)) 1
  have hb02 := hb1.trans (hb2.mono hb1.size)
  obtain ⟨ls, hls⟩ : ∃ k, k = lz.take 1 := ⟨_, rfl⟩
  have hlen1 : ls.length = 1 := by rw [hls, List.length_take]; omega
  have hall1 : ls.all okLay = true := by
    rw [List.all_eq_true] at hlall ⊢
    intro x hx; rw [hls] at hx; exact hlall x (List.mem_of_mem_take hx)
  rw [← hls] at hG2
  have HRE := Lib.hid (rec_ok (t := 0) (ls := ls) (by omega) hall1 (by omega)).1
  obtain ⟨y, hy, _⟩ := drop_cons (xs := lz) (i := 0) (by omega)
  obtain ⟨bg, og, rfl, _, _, _⟩ := hG.at_ hy
  obtain ⟨nz, hnz⟩ : ∃ k, k = lz.length := ⟨_, rfl⟩
  rw [← hnz] at hgc hl1 ⊢
  have hgc1 : (1 : Int) ≤ (gc : Int) := by omega
  have hgc2 : 1 ≤ gc := by omega
  clear hlall hG C2 hall1 hls hy hnz hl3
  have hL2 := hL1.below hb2
  have hA2 := hA1.below hb2
  go_wp2_with fail
  refine (C3.out _ (hT.below hb02)).mono ?_
  rintro e w3 ⟨rfl, hdk, hb3, hs3⟩
  clear hs3 C3
  go_wp2_with fail
  refine (mwindows_any _ N _ hN1 (by omega) hdk).mono ?_
  rintro e w4 ⟨v, xs, rfl, hx5, hxE, hown, hdk4, hg4⟩
  have hb24 : Below w2.heap.size w2 w4 := below_of_only hb3 hg4 (Nat.le_refl _)
  have hb04 := hb02.trans (hb24.mono hb02.size)
  obtain ⟨X, xc, rfl, hxc⟩ := own_shape hown
  have hX : Wins w4 0 X xs := (wins_of_ownE hown rfl).low (Nat.zero_le _)
  have hL4 := hL2.below hb24
  have hA4 := hA2.below hb24
  have hG4 := hG2.below hb24
  have h87 : N ≤ 8784 := by omega
  have HBA := Lib.hid (best_all HCE.out HRE.out hN1 h87)
  have HLE := Lib.hid (eval_le HCE.out HRE.out hxE)
  have HEV := Lib.hid (ev_parts HCE.out HRE.out hxE)
  have HS1 := Lib.hid (evR_small HCE.out HRE.out hxE (by omega))
  have HS2 : Hid ((∀ r ∈ bestR los am N ls, 0 ≤ r ∧ r ≤ 17592186044416) ∧ sumI (bestR los am N ls) ≤ 17592186044416) := by
    show _ ∧ _
    rw [bestR_ev HCE.out HRE.out hN1 h87]
    exact evR_small HCE.out HRE.out (best_valid HCE.out hN1 h87) (by omega)
  have hR1 : (evR los am xs N ls).length ≤ 5 := by rw [evR_valid HCE.out HRE.out hxE, List.length_map]; exact hx5
  have hR2 : (bestR los am N ls).length ≤ 10 := by rw [HBA.out.2.2.2.1, List.length_map]; exact Nat.le_trans best_len hl10
  have hle : sumI (evR los am xs N ls) ≤ sumI (bestR los am N ls) := by rw [HBA.out.2.2.2.2.1]; exact HLE.out
  have E1 : Hid (∀ W, Below w4.heap.size w4 W → _) := fun W h => evaluate_any LA lc los AA ac am X xc xs N (some ⟨bg, og, none⟩) gc ls W (by omega) (by omega) (by omega) hxc (by omega) (hL4.below h) (hA4.below h) (hX.below h) (hG4.below h)
  have E2 : Hid (∀ W, Below w4.heap.size w4 W → _) := fun W h => wbest_any LA lc los AA ac am N (some ⟨bg, og, none⟩) gc ls W (by omega) (by omega) (by omega) (hL4.below h) (hA4.below h) (hG4.below h)
  rw [HEV.out, hlen1] at E1
  rw [HBA.out.1, hlen1] at E2
  obtain ⟨r1, hr1⟩ : ∃ k, k = evR los am xs N ls := ⟨_, rfl⟩
  obtain ⟨r2, hr2⟩ : ∃ k, k = bestR los am N ls := ⟨_, rfl⟩
  rw [← hr1] at E1 HS1 hle hR1
  rw [← hr2] at E2 HS2 hle hR2
  have A1 : Hid (∀ (Y : Option Addr) (yc : Nat) W, Ints W 0 Y r1 → _) := fun Y yc W h => apply_any Y yc r1 d m W (by omega) HS1.out.1 HS1.out.2 hd0 hd1 hm0 hm1 h
  have A2 : Hid (∀ (Y : Option Addr) (yc : Nat) W, Ints W 0 Y r2 → _) := fun Y yc W h => apply_any Y yc r2 d m W (by omega) HS2.out.1 HS2.out.2 hd0 hd1 hm0 hm1 h
  have HPM : Hid (paidF (sumI r1) d m ≤ paidF (sumI r2) d m) := paidF_mono hle d m
  obtain ⟨k1, hk1⟩ : ∃ k, k = r1.length := ⟨_, rfl⟩
  obtain ⟨k2, hk2⟩ : ∃ k, k = r2.length := ⟨_, rfl⟩
  rw [← hk1] at E1 A1 hR1
  rw [← hk2] at E2 A2 hR2
  have HK1 := Lib.hid hk1
  have HK2 := Lib.hid hk2
  obtain ⟨fw, hfw⟩ : ∃ k, k = (evW los am xs N ls).length := ⟨_, rfl⟩
  obtain ⟨ft, hft⟩ : ∃ k, k = (evT los am xs N ls).length := ⟨_, rfl⟩
  obtain ⟨fs, hfs⟩ : ∃ k, k = sumI r1 := ⟨_, rfl⟩
  obtain ⟨gw, hgw⟩ : ∃ k, k = (bestW los am N ls).length := ⟨_, rfl⟩
  obtain ⟨gt, hgt⟩ : ∃ k, k = (bestT los am N ls).length := ⟨_, rfl⟩
  obtain ⟨gs, hgs⟩ : ∃ k, k = sumI r2 := ⟨_, rfl⟩
  rw [← hfw, ← hft, ← hfs] at E1
  rw [← hgw, ← hgt, ← hgs] at E2
  obtain ⟨nl, hnl⟩ : ∃ k, k = los.length := ⟨_, rfl⟩
  obtain ⟨na, hna⟩ : ∃ k, k = am.length := ⟨_, rfl⟩
  obtain ⟨nx, hnx⟩ : ∃ k, k = xs.length := ⟨_, rfl⟩
  rw [← hnl, ← hna] at E1 E2
  rw [← hnx] at E1
  rw [← hnl, ← hna, ← hnx]
  clear hk1 hk2 hr1 hr2 hfw hft hfs hgw hgt hgs hle HBA HLE HEV HS1 HS2 hnl hna hnx hl10 hal' hl1 hxc hL4 hA4 hG4 hX hx5 hxE hown hdk4 hg4 hdk hb3 hb2 hb1 hb24 hL1 hA1 hG2 hL2 hA2 hlen1 HCE HRE
  go_wp2_with fail
  refine (E1.out _ (Below.refl _ _)).mono ?_
  rintro e w5 ⟨W1, wc1, T1, tc1, R1, rc1, rfl, _, _, hI1, hb5, _⟩
  obtain ⟨v5, hv5⟩ : ∃ x : World, x = w5.alloc (.cells #[.slice W1 fw wc1, .slice T1 ft tc1, .slice R1 k1 rc1, .int .i64 fs] 46) := ⟨_, rfl⟩
  obtain ⟨p1, hp1⟩ : ∃ x : Nat, x = w5.heap.size := ⟨_, rfl⟩
  have hB1 : v5.heap[p1]? = some (.cells #[.slice W1 fw wc1, .slice T1 ft tc1, .slice R1 k1 rc1, .int .i64 fs] 46 (0, 0)) := by rw [hv5, hp1]; exact heap_alloc_new _ _
  have hX1 : Below w5.heap.size w5 v5 := by rw [hv5]; exact below_alloc _ _
  have hd5 : Below w4.heap.size w4 v5 := hb5.trans (hX1.mono hb5.size)
  have hI5 : Ints v5 0 R1 r1 := (hI1.below hX1).low (Nat.zero_le _)
  clear hI1 hb5 hX1
  go_upto_region 5 with fail
  rw [← hv5, ← hp1]
  clear hv5 hp1
  go_wp2_with fail
  refine (E2.out _ hd5).mono ?_
  rintro e w6 ⟨W2, wc2, T2, tc2, R2, rc2, rfl, _, _, hI2, hb6, _⟩
  obtain ⟨v6, hv6⟩ : ∃ x : World, x = w6.alloc (.cells #[.slice W2 gw wc2, .slice T2 gt tc2, .slice R2 k2 rc2, .int .i64 gs] 46) := ⟨_, rfl⟩
  obtain ⟨p2, hp2⟩ : ∃ x : Nat, x = w6.heap.size := ⟨_, rfl⟩
  have hB2 : v6.heap[p2]? = some (.cells #[.slice W2 gw wc2, .slice T2 gt tc2, .slice R2 k2 rc2, .int .i64 gs] 46 (0, 0)) := by rw [hv6, hp2]; exact heap_alloc_new _ _
  have hX2 : Below w6.heap.size w6 v6 := by rw [hv6]; exact below_alloc _ _
  have y56 := hb6.trans (hX2.mono hb6.size)
  have hd6 : Below w4.heap.size w4 v6 := hd5.trans (y56.mono hd5.size)
  have hB1' := (y56.block _ (lt_of_heap0 hB1)).trans hB1
  have hI6 : Ints v6 0 R2 r2 := (hI2.below hX2).low (Nat.zero_le _)
  have hI56 := hI5.below y56
  have c1 : v6.cell? ⟨p1, 2, none⟩ = some (.slice R1 k1 rc1) := by simp [World.cell?, hB1']
  have D1 := Lib.hid (A1.out R1 rc1 v6 hI56)
  clear hI2 hX2 hb6 E1 E2 A1 hd5 hB1 hI5 hI56 hB1' y56
  go_upto_region 6 with fail
  rw [← hv6, ← hp2]
  clear hv6 hp2
  go_wp2_with fail
  refine D1.out.mono ?_
  rintro e w7 ⟨G1, rfl, hG1, hb7⟩
  have hB27 := (hb7.block p2 (lt_of_heap0 hB2)).trans hB2
  have c2 : w7.cell? ⟨p2, 2, none⟩ = some (.slice R2 k2 rc2) := by simp [World.cell?, hB27]
  have D2 := Lib.hid (A2.out R2 rc2 w7 (hI6.below hb7))
  clear D1 A2 c1 hB2 hB27 hI6
  go_wp2_with fail
  refine D2.out.mono ?_
  rintro e w8 ⟨G2, rfl, hG2, hb8⟩
  have hP1 : Ints w8 0 G1 (partsF r1 d m) := (hG1.below hb8).low (Nat.zero_le _)
  have hP2 : Ints w8 0 G2 (partsF r2 d m) := hG2.low (Nat.zero_le _)
  have hd7 := hd6.trans (hb7.mono hd6.size)
  have hd8 := hd7.trans (hb8.mono hd7.size)
  have hb08 := hb04.trans (hd8.mono hb04.size)
  clear D2 hG1 hG2 hb7 hb8 hd6 hd7 hd8 c2
  go_wp2_with fail
  go_loopw [23, 25, 96] (fun s23 _ ii wr => ∃ k : Nat, k ≤ k2 ∧ ii = .int .i64 k ∧ s23 = .int .i64 (paidF (sumI (r2.take k)) d m) ∧ wr = w8) (fun _ _ ii _ => k2 - (intOf ii).toNat)
  case atStart => exact ⟨0, Nat.zero_le _, rfl, by rw [List.take_zero, sumI, paidF_zero], rfl⟩
  case round =>
    obtain ⟨k, hk, rfl, rfl, rfl⟩ := hrel
    have hpk := paidF_bd (sumI (r2.take k)) d m
    by_cases hkn : k < k2
    case pos =>
      have hkl : k < r2.length := by rw [← HK2.out]; exact hkn
      have HST := Lib.hid (parts_step r2 d m k)
      have hpn := paidF_bd (sumI (r2.take (k + 1))) d m
      obtain ⟨b, ob, rfl, _, _, c0⟩ := hP2.at_ (parts_get (d := d) (m := m) hkl)
      obtain ⟨pa, hpa⟩ : ∃ x, x = paidF (sumI (r2.take k)) d m := ⟨_, rfl⟩
      obtain ⟨pt, hpt⟩ : ∃ x, x = partAt r2 d m k := ⟨_, rfl⟩
      rw [← hpa] at hpk HST ⊢
      rw [← hpt] at HST c0
      have hwr : IntKind.i64.wrap (pa + pt) = pa + pt := IntWalk.i64_in _ (by have := HST.out; omega)
      have hkn' : (k : Int) < (k2 : Int) := by omega
      clear hpa hpt hkl hpn
      go_wp2_with fail
      go_roundw
      case rel => exact ⟨k + 1, by omega, by go_num, by rw [HST.out], by first | rfl | trivial⟩
      case measure => simp [intOf]; omega
    obtain rfl : k = k2 := by omega
    have e2 : sumI (r2.take k) = sumI r2 := by rw [HK2.out, List.take_length]
    rw [e2] at hpk ⊢
    obtain ⟨Q2, hQ2⟩ : ∃ x, x = paidF (sumI r2) d m := ⟨_, rfl⟩
    have hpm := HPM.out
    rw [← hQ2] at hpk hpm ⊢
    clear e2 hQ2 HPM
    go_wp2_with fail
    go_loopw [23, 27, 106] (fun s23 _ ii wq => ∃ j : Nat, j ≤ k1 ∧ ii = .int .i64 j ∧ s23 = .int .i64 (Q2 - paidF (sumI (r1.take j)) d m) ∧ wq = wr) (fun _ _ ii _ => k1 - (intOf ii).toNat)
    case atStart => exact ⟨0, Nat.zero_le _, rfl, by rw [List.take_zero, sumI, paidF_zero, Int.sub_zero], rfl⟩
    case round =>
      obtain ⟨j, hj, rfl, rfl, hwq⟩ := hrel
      rw [hwq]
      clear hwq
      have hpj := paidF_bd (sumI (r1.take j)) d m
      by_cases hjn : j < k1
      case pos =>
        have hjl : j < r1.length := by rw [← HK1.out]; exact hjn
        have HST := Lib.hid (parts_step r1 d m j)
        have hpn := paidF_bd (sumI (r1.take (j + 1))) d m
        obtain ⟨b, ob, rfl, _, _, c0⟩ := hP1.at_ (parts_get (d := d) (m := m) hjl)
        obtain ⟨pa, hpa⟩ : ∃ x, x = paidF (sumI (r1.take j)) d m := ⟨_, rfl⟩
        obtain ⟨pt, hpt⟩ : ∃ x, x = partAt r1 d m j := ⟨_, rfl⟩
        rw [← hpa] at hpj HST ⊢
        rw [← hpt] at HST c0
        have hwr : IntKind.i64.wrap (Q2 - pa - pt) = Q2 - pa - pt := IntWalk.i64_in _ (by have := HST.out; omega)
        have hjn' : (j : Int) < (k1 : Int) := by omega
        clear hpa hpt hjl hpn
        go_wp2_with fail
        go_roundw
        case rel => exact ⟨j + 1, by omega, by go_num, by rw [← HST.out, Int.sub_sub], by first | rfl | trivial⟩
        case measure => simp [intOf]; omega
      obtain rfl : j = k1 := by omega
      have e1 : sumI (r1.take j) = sumI r1 := by rw [HK1.out, List.take_length]
      rw [e1] at hpj ⊢
      obtain ⟨Q1, hQ1⟩ : ∃ x, x = paidF (sumI r1) d m := ⟨_, rfl⟩
      rw [← hQ1] at hpj hpm ⊢
      have q : decide (0 ≤ Q2 - Q1) = true := by simp; omega
      have q' : decide (Q1 ≤ Q2) = true := by simpa using hpm
      clear e1 hQ1
      go_wp2_with (go_at_call 27; refine (awake26_any _).mono ?_; rintro e wE ⟨rfl, hbE⟩)
      go_ret
      exact ⟨rfl, hb08.trans (hbE.mono hb08.size)⟩

end Go.Proofs.Ytilkcailpkebdaa
