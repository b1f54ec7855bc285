/-
  restate.check, slices.Clone at []api.Share, restate.Diff: their contracts.
-/
import Derived.Test.YtpmiafnccjejnaaCollect
import Derived.Test.YtpmiafnccjejnaaGSrc
import Derived.Deep.Cut
namespace Go.Proofs.Ytpmiafnccjejnaa
open Go.RowKit
set_option linter.unusedVariables false

def chkErr (a b : List Sh) : Int := if colErr a ≠ 0 then colErr a else colErr b
def diffErr (a b : List Sh) : Int := if chkErr a b ≠ 0 then chkErr a b else colErr (b ++ a.map negS)
def diffR (a b : List Sh) : List Sh := if chkErr a b ≠ 0 then [] else colR (b ++ a.map negS)
theorem colErr_valid {l : List Sh} (h : colErr l = 0) : ∀ x ∈ l, validS x = true := by
  unfold colErr at h
  split at h
  · omega
  · split at h
    · omega
    · rename_i h1
      rw [Bool.not_eq_false, List.all_eq_true] at h1
      exact h1
theorem negS_ok {a : List Sh} (h : ∀ s ∈ a, s.ok) : ∀ s ∈ a.map negS, s.ok := by
  intro s hs
  obtain ⟨x, hx, rfl⟩ := List.mem_map.1 hs
  exact h x hx
theorem sh_one (y : Sh) : ∀ u ∈ Sh.cells y, u.oneCell' = true := by
  intro u hu
  simp [Sh.cells] at hu
  rcases hu with rfl | rfl | rfl | rfl | rfl <;> rfl

set_option maxHeartbeats 1000000 in
theorem check_any (A B : Option Addr) (c d : Nat) (a b : List Sh) (w : World) (ha : a.length ≤ 70000) (hb : b.length ≤ 70000) (hoa : ∀ s ∈ a, s.ok) (hob : ∀ s ∈ b, s.ok) (hA : Shs w 0 A a) (hB : Shs w 0 B b) :
    Calls Try.prog 23 #[.slice A a.length c, .slice B b.length d] w fun e w' => e = .returned (.int .i64 (chkErr a b)) ∧ Below w.heap.size w w' := by
  have C1 := Lib.hid (collect_any A c a w ha hoa hA)
  have C2 := Lib.hid (fun (w1 : World) (h : Below w.heap.size w w1) => collect_any B d b w1 hb hob (hB.below h))
  clear hoa hob
  obtain ⟨n, hn⟩ : ∃ n, n = a.length := ⟨_, rfl⟩
  obtain ⟨m, hm⟩ : ∃ m, m = b.length := ⟨_, rfl⟩
  rw [← hn] at C1 ha ⊢
  rw [← hm] at C2 hb ⊢
  clear hn hm
  obtain ⟨x, hx⟩ : ∃ x, x = colErr a := ⟨_, rfl⟩
  obtain ⟨y, hy⟩ : ∃ y, y = colErr b := ⟨_, rfl⟩
  have HR : Hid (chkErr a b = if x ≠ 0 then x else y) := by show _ = _; rw [hx, hy]; rfl
  rw [← hx] at C1
  rw [← hy] at C2
  clear hx hy
  go_enter Try.func23, Try.ntmps23
  go_wp2_with fail
  refine C1.out.mono ?_
  rintro e w1 ⟨X, xc, rfl, _, hb1⟩
  by_cases hx0 : x = 0
  · have q : (x != 0) = false := by simpa using hx0
    have HR2 : Hid (chkErr a b = y) := by show _ = _; rw [HR.out, if_neg (by simpa using hx0)]
    clear HR hx0
    go_wp2_with fail
    refine (C2.out w1 hb1).mono ?_
    rintro e w2 ⟨Y, yc, rfl, _, hb2⟩
    go_wp2_with fail
    go_ret
    exact ⟨ret_int HR2.out.symm, hb1.trans (hb2.mono hb1.size)⟩
  · have q : (x != 0) = true := by simpa using hx0
    have HR2 : Hid (chkErr a b = x) := by show _ = _; rw [HR.out, if_pos (by simpa using hx0)]
    clear HR hx0
    go_wp2_with fail
    go_ret
    exact ⟨ret_int HR2.out.symm, hb1⟩

set_option maxHeartbeats 1000000 in
theorem cloneS_any (A : Option Addr) (c : Nat) (l : List Sh) (w : World) (hl : l.length ≤ 50000) (hS : Shs w 0 A l) :
    Calls Try.prog 24 #[.slice A l.length c] w fun e w' => ∃ v, e = .returned v ∧ w'.ownsRow w.heap.size 41 5 v l.length (l.flatMap Sh.cells) ∧ Below w.heap.size w w' := by
  have hq := fun wx => Lib.run_eql_slice_nil (P := Try.prog) wx 22 41 A l.length c 0 0 Try.underlying22
  rcases A with _ | ad
  · have hw : l = [] := by
      cases l with
      | nil => rfl
      | cons x xs => obtain ⟨b, off, e, _⟩ := hS (by simp); cases e
    subst hw
    simp only [List.length_nil, Option.isNone_none] at hq ⊢
    go_enter Try.func24, Try.ntmps24
    go_wp2_with fail
    go_ret
    exact ⟨_, rfl, own_nil _ _ _ _, Below.refl _ _⟩
  · simp only [Option.isNone_some] at hq
    obtain ⟨i0, hi, hz0, hz1, hz2⟩ := info_parts Try.infoShare
    have hsrc : SrcG Sh.cells (w.alloc (.cells #[] 41)) (some ad) l := srcG_of_sl (enc := Sh.cells) (k := 5) (fun _ => rfl) (by omega) (hS.below ((Below.refl _ _).alloc (Nat.le_refl _) _))
    obtain ⟨n, hn⟩ : ∃ n, n = l.length := ⟨_, rfl⟩
    have HN := Lib.hid hn
    rw [← hn] at hl hq ⊢
    clear hn
    go_enter Try.func24, Try.ntmps24
    go_wp2_with (at_builtin; refine wpList_append_src Sh.cells rfl _ _ 22 rfl w.heap.size 41 i0 _ 5 40 Try.underlying22 hi hz0 hz1 hz2 rfl (by decide) (by decide) (fun _ => rfl) sh_one _ 0 [] rfl (own_void w 41 5) (some ad) n c l HN.out rfl hsrc ?c3 ?c4 ?_)
    case c3 => omega
    case c4 => simp
    intro v' w5 hown5 hg5
    have hb45 : Below w.heap.size w w5 := ((Below.refl w.heap.size w).alloc (Nat.le_refl _) _).grown hg5 (by simp) (fun g hg => by simp [Value.ownBlock] at hg; omega)
    clear hq hsrc
    go_wp2_with fail
    go_ret
    exact ⟨v', rfl, hown5, hb45⟩

theorem take_next {α : Type} {xs : List α} {k : Nat} {x : α} (h : xs[k]? = some x) : xs.take (k + 1) = xs.take k ++ [x] := by
  rw [List.take_add_one, h]; rfl

set_option maxRecDepth 100000 in
set_option maxHeartbeats 4000000 in
theorem diff_any (A B : Option Addr) (c d : Nat) (a b : List Sh) (w : World) (ha : a.length ≤ 30000) (hb : b.length ≤ 30000) (hoa : ∀ s ∈ a, s.ok) (hob : ∀ s ∈ b, s.ok) (hA : Shs w 0 A a) (hB : Shs w 0 B b) :
    Calls Try.prog 11 #[.slice A a.length c, .slice B b.length d] w fun e w' => ∃ (C : Option Addr) (k : Nat), e = .returned (.tuple #[.slice C (diffR a b).length k, .int .i64 (diffErr a b)]) ∧ Shs w' w.heap.size C (diffR a b) ∧ Below w.heap.size w w' := by
  have C1 := Lib.hid (check_any A B c d a b w (by omega) (by omega) hoa hob hA hB)
  have C2 := Lib.hid (fun (w1 : World) (h : Below w.heap.size w w1) => cloneS_any B d b w1 (by omega) (hB.below h))
  have HOK : Hid (∀ s ∈ b ++ a.map negS, s.ok) := fun s hs => (List.mem_append.1 hs).elim (hob s) (negS_ok hoa s)
  have HV := Lib.hid (fun (h : chkErr a b = 0) => colErr_valid (l := a) (by
    unfold chkErr at h
    split at h
    · rename_i h2; exact absurd h h2
    · rename_i h2; simpa using h2))
  clear hoa hob
  obtain ⟨n, hn⟩ : ∃ n, n = a.length := ⟨_, rfl⟩
  obtain ⟨m, hm⟩ : ∃ m, m = b.length := ⟨_, rfl⟩
  rw [← hn] at C1 ha ⊢
  rw [← hm] at C1 C2 hb ⊢
  have HN := Lib.hid hn
  have HM := Lib.hid hm
  clear hn hm
  obtain ⟨i0, hi, hz0, hz1, hz2⟩ := info_parts Try.infoShare
  obtain ⟨x, hx⟩ : ∃ x, x = chkErr a b := ⟨_, rfl⟩
  have HX := Lib.hid hx
  rw [← hx] at C1 HV
  clear hx
  by_cases hx0 : x = 0
  case neg =>
    have q : (x != 0) = true := by simpa using hx0
    have HR : Hid (diffR a b = [] ∧ diffErr a b = x) := by
      unfold diffR diffErr
      rw [← HX.out, if_pos hx0, if_pos hx0]; exact ⟨rfl, rfl⟩
    clear hx0 HX HV
    go_enter Try.func11, Try.ntmps11
    go_wp2_with fail
    refine C1.out.mono ?_
    rintro e w1 ⟨rfl, hb1⟩
    go_wp2_with fail
    go_ret2
    exact ⟨none, 0, by rw [HR.out.1, HR.out.2]; rfl, by rw [HR.out.1]; exact Sl.none_, hb1⟩
  have q : (x != 0) = false := by simpa using hx0
  have HR : Hid (diffR a b = colR (b ++ a.map negS) ∧ diffErr a b = colErr (b ++ a.map negS)) := by
    unfold diffR diffErr
    rw [← HX.out, if_neg (by simpa using hx0), if_neg (by simpa using hx0)]; exact ⟨rfl, rfl⟩
  have HVA := Lib.hid (HV.out hx0)
  clear hx0 HX HV
  go_enter Try.func11, Try.ntmps11
  go_wp2_with fail
  refine C1.out.mono ?_
  rintro e w1 ⟨rfl, hb1⟩
  go_wp2_with fail
  refine (C2.out w1 hb1).mono ?_
  rintro e w2 ⟨v, rfl, hown, hb2⟩
  go_wp2_with fail
  obtain ⟨bs, hbs⟩ : ∃ x, x = w1.heap.size := ⟨_, rfl⟩
  rw [← hbs] at hown
  have hb02 := hb1.trans (hb2.mono hb1.size)
  have hw1 : w.heap.size ≤ bs := by rw [hbs]; exact hb1.size
  have hbs2 : bs ≤ w2.heap.size := by rw [hbs]; exact hb2.size
  clear hbs C1 C2 hb1 hb2
  go_loopw [7, 9, 20] (fun v _ ii wr => ∃ (j : Nat), j ≤ n ∧ ii = .int .i64 j ∧ wr.ownsRow bs 41 5 v (m + j) ((b ++ (a.take j).map negS).flatMap Sh.cells) ∧ bs ≤ wr.heap.size ∧ Below w.heap.size w wr) (fun _ _ ii _ => n - (intOf ii).toNat)
  case atStart => exact ⟨0, Nat.zero_le _, rfl, by simpa using hown, hbs2, hb02⟩
  case round =>
    obtain ⟨j, hj, rfl, hown, hz, hbr⟩ := hrel
    clear hbs2 hb02
    by_cases hjn : j < n
    · obtain ⟨s, hs, _⟩ := drop_cons (xs := a) (i := j) (by rw [← HN.out]; exact hjn)
      obtain ⟨b1, off, rfl, _, hbl, c0, c1, c2, c3, c4⟩ := (hA.below hbr).at_ hs
      have hvi := (validS_iff s).1 (HVA.out s (List.mem_of_getElem? hs))
      have HT : Hid ((b ++ (a.take j).map negS).flatMap Sh.cells ++ [negS s].flatMap Sh.cells = (b ++ (a.take (j + 1)).map negS).flatMap Sh.cells) := by
        show _ = _
        rw [take_next hs, List.map_append, ← List.flatMap_append, List.append_assoc]; rfl
      clear hs
      have e1 : IntKind.i64.wrap (-s.amt) = -s.amt := IntWalk.i64_in _ (by omega)
      have e2 : IntKind.i64.wrap (-s.paid) = -s.paid := IntWalk.i64_in _ (by omega)
      obtain ⟨ws, hws⟩ : ∃ x : World, x = wr.alloc (.cells #[.int .i64 s.loss, .int .i64 s.treaty, .int .i64 s.party, .int .i64 (-s.amt), .int .i64 (-s.paid)] 41) := ⟨_, rfl⟩
      obtain ⟨g1, hg1⟩ : ∃ x, x = wr.heap.size := ⟨_, rfl⟩
      have hbb : Below wr.heap.size wr ws := by rw [hws]; exact (Below.refl _ _).alloc (Nat.le_refl _) _
      have hown2 := own_below hown hbb
      have hb2 := hbr.trans (hbb.mono hbr.size)
      have hz2' : bs ≤ ws.heap.size := Nat.le_trans hz hbb.size
      have p0 : ws.cell? ⟨g1, 0, none⟩ = some (.int .i64 s.loss) := by rw [hws, hg1]; simp
      have p1 : ws.cell? ⟨g1, 1, none⟩ = some (.int .i64 s.treaty) := by rw [hws, hg1]; simp
      have p2 : ws.cell? ⟨g1, 2, none⟩ = some (.int .i64 s.party) := by rw [hws, hg1]; simp
      have p3 : ws.cell? ⟨g1, 3, none⟩ = some (.int .i64 (-s.amt)) := by rw [hws, hg1]; simp
      have p4 : ws.cell? ⟨g1, 4, none⟩ = some (.int .i64 (-s.paid)) := by rw [hws, hg1]; simp
      go_upto_region 9 with fail
      rw [← hws, ← hg1]
      clear hws hg1 c0 c1 c2 c3 c4 hbb hown hz hbr
      go_wp2_with (at_builtin; refine wpList_append_own _ rfl (.tmp 32) (.tmp 34) 22 rfl bs 41 i0 _ 5 40 Try.underlying22 hi hz0 hz1 hz2 rfl (by decide) _ (m + j) _ rfl (own_below hown2 ((Below.refl _ _).alloc (Nat.le_refl _) _)) ⟨ws.heap.size, 0, none⟩ 1 1 (Sh.cells (negS s)) rfl rfl ?c1 ?c2 ?c3 ?c4 ?c5 ?_)
      case c1 => exact cell_new ws (Sh.cells (negS s)) 41
      case c2 => exact sh_one _
      case c3 => unfold maxLen; omega
      case c4 => omega
      case c5 => simp; omega
      intro v' w8 hown8 hg8 _
      have hb8 : Below w.heap.size w w8 := (hb2.alloc hb2.size _).grown hg8 (by have := hb2.size; simp; omega) (fun g' hg' => by have := own_low hown2 g' hg'; omega)
      have hz8 : bs ≤ w8.heap.size := by have := hg8.size; simp at this; omega
      have hown9 : w8.ownsRow bs 41 5 v' (m + (j + 1)) ((b ++ (a.take (j + 1)).map negS).flatMap Sh.cells) := by
        rw [← HT.out]; simpa [Nat.add_assoc] using hown8
      clear hown8 hg8 hown2
      go_wp2_with fail
      go_roundw
      case rel => exact ⟨j + 1, by omega, by go_num, hown9, hz8, hb8⟩
      case measure => simp [intOf]; omega
    · obtain rfl : j = n := by omega
      rw [List.take_of_length_le (by rw [← HN.out]; exact Nat.le_refl _)] at hown
      obtain ⟨L, hL⟩ : ∃ L, L = b ++ a.map negS := ⟨_, rfl⟩
      rw [← hL] at hown HR HOK
      have hlen : m + j = L.length := by rw [hL, List.length_append, List.length_map, ← HN.out, ← HM.out]
      rw [hlen] at hown
      obtain ⟨V, vc, rfl, hvc⟩ := own_shape hown
      have C3 := Lib.hid (collect_any V vc L wr (by omega) HOK.out ((shs_of_own hown).low (Nat.zero_le _)))
      clear hL hown
      obtain ⟨N, hN⟩ : ∃ N, N = L.length := ⟨_, rfl⟩
      rw [← hN] at C3 hlen hvc ⊢
      clear hN
      go_wp2_with fail
      refine C3.out.mono ?_
      rintro e w4 ⟨Y, yc, rfl, hY, hb4⟩
      go_wp2_with fail
      go_ret2
      exact ⟨Y, yc, by rw [HR.out.1, HR.out.2]; rfl, by rw [HR.out.1]; exact hY.low hbr.size, hbr.trans (hb4.mono hbr.size)⟩

end Go.Proofs.Ytpmiafnccjejnaa
