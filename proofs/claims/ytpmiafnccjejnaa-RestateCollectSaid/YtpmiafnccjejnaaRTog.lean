/-
  treatyref30.together, Diff, ApplyDiff: their contracts.
-/
import Derived.Test.YtpmiafnccjejnaaRCollect
import Derived.Test.YtpmiafnccjejnaaRApply
namespace Go.Proofs.Ytpmiafnccjejnaa
open Go.RowKit
set_option linter.unusedVariables false

def scS (sg : Int) (s : Sh) : Sh := ⟨s.loss, s.treaty, s.party, sg * s.amt, sg * s.paid⟩
theorem scS_neg (a : List Sh) : a.map (scS (-1)) = a.map negS := List.map_congr_left fun s _ => by unfold scS negS; rw [Int.neg_one_mul, Int.neg_one_mul]
theorem scS_one (a : List Sh) : a.map (scS 1) = a := by
  conv => rhs; rw [← List.map_id a]
  exact List.map_congr_left fun s _ => by unfold scS; rw [Int.one_mul, Int.one_mul]; rfl
def togErr (sg : Int) (a b : List Sh) : Int := if chkErr a b ≠ 0 then chkErr a b else colErr (a ++ b.map (scS sg))
def togR (sg : Int) (a b : List Sh) : List Sh := if chkErr a b ≠ 0 then [] else colR (a ++ b.map (scS sg))

set_option maxRecDepth 100000 in
set_option maxHeartbeats 4000000 in
theorem together_any (sg : Int) (hsg : sg = 1 ∨ sg = -1) (A B : Option Addr) (c d : Nat) (a b : List Sh) (w : World) (ha : a.length ≤ 30000) (hb : b.length ≤ 30000) (hA : Shs w 0 A a) (hB : Shs w 0 B b) :
    Calls Try.prog 25 #[.slice A a.length c, .slice B b.length d, .int .i64 sg] w fun e w' => ∃ (C : Option Addr) (k : Nat), e = .returned (.tuple #[.slice C (togR sg a b).length k, .int .i64 (togErr sg a b)]) ∧ Shs w' w.heap.size C (togR sg a b) ∧ Below w.heap.size w w' := by
  have C1 := Lib.hid (rcollect_any A c a w (by omega) hA)
  have C2 := Lib.hid (fun (w1 : World) (h : Below w.heap.size w w1) => rcollect_any B d b w1 (by omega) (hB.below h))
  have HV := Lib.hid (fun (h : colErr b = 0) => colErr_valid (l := b) h)
  obtain ⟨n, hn⟩ : ∃ n, n = a.length := ⟨_, rfl⟩
  obtain ⟨m, hm⟩ : ∃ m, m = b.length := ⟨_, rfl⟩
  rw [← hn] at C1 ha ⊢
  rw [← hm] at C2 hb ⊢
  have HN := Lib.hid hn
  have HM := Lib.hid hm
  clear hn hm
  obtain ⟨i0, hi, hz0, hz1, hz2⟩ := info_parts Try.infoShare
  obtain ⟨x, hx⟩ : ∃ x, x = colErr a := ⟨_, rfl⟩
  obtain ⟨y, hy⟩ : ∃ y, y = colErr b := ⟨_, rfl⟩
  have HC : Hid (chkErr a b = if x ≠ 0 then x else y) := by show _ = _; rw [hx, hy]; rfl
  rw [← hx] at C1
  rw [← hy] at C2 HV
  clear hx hy
  go_enter Try.func25, Try.ntmps25
  go_wp2_with fail
  refine C1.out.mono ?_
  rintro e w1 ⟨X1, xc1, rfl, _, hb1⟩
  by_cases hx0 : x = 0
  case neg =>
    have q : (x != 0) = true := by simpa using hx0
    have HCx : Hid (chkErr a b = x) := by show _ = _; rw [HC.out, if_pos hx0]
    have HR : Hid (togR sg a b = [] ∧ togErr sg a b = x) := by
      unfold togR togErr
      rw [HCx.out, if_pos hx0, if_pos hx0]; exact ⟨rfl, rfl⟩
    clear hx0
    go_wp2_with fail
    go_ret2
    exact ⟨none, 0, by rw [HR.out.1, HR.out.2]; rfl, by rw [HR.out.1]; exact Sl.none_, hb1⟩
  have q : (x != 0) = false := by simpa using hx0
  have HCy : Hid (chkErr a b = y) := by show _ = _; rw [HC.out, if_neg (by simpa using hx0)]
  clear hx0 HC
  go_wp2_with fail
  refine (C2.out w1 hb1).mono ?_
  rintro e w2 ⟨X2, xc2, rfl, _, hb2⟩
  have hb02 := hb1.trans (hb2.mono hb1.size)
  clear hb1 hb2 C1 C2
  by_cases hy0 : y = 0
  case neg =>
    have q2 : (y != 0) = true := by simpa using hy0
    have HR : Hid (togR sg a b = [] ∧ togErr sg a b = y) := by
      unfold togR togErr
      rw [HCy.out, if_pos hy0, if_pos hy0]; exact ⟨rfl, rfl⟩
    clear hy0
    go_wp2_with fail
    go_ret2
    exact ⟨none, 0, by rw [HR.out.1, HR.out.2]; rfl, by rw [HR.out.1]; exact Sl.none_, hb02⟩
  have q2 : (y != 0) = false := by simpa using hy0
  have HR : Hid (togR sg a b = colR (a ++ b.map (scS sg)) ∧ togErr sg a b = colErr (a ++ b.map (scS sg))) := by
    unfold togR togErr
    rw [HCy.out, if_neg (by simpa using hy0), if_neg (by simpa using hy0)]; exact ⟨rfl, rfl⟩
  have HVA := Lib.hid (HV.out hy0)
  clear hy0 HCy HV
  have hsrc : SrcG Sh.cells (w2.alloc (.cells #[] 41)) A a := srcG_of_sl (enc := Sh.cells) (k := 5) (fun _ => rfl) (by omega) ((hA.below hb02).below ((Below.refl _ _).alloc (Nat.le_refl _) _))
  go_wp2_with (at_builtin; refine wpList_append_src Sh.cells rfl _ _ 22 rfl w2.heap.size 41 i0 _ 5 40 Try.underlying22 hi hz0 hz1 hz2 rfl (by decide) (by decide) (fun _ => rfl) sh_one _ 0 [] rfl (own_void w2 41 5) A n c a HN.out rfl hsrc ?c3 ?c4 ?_)
  case c3 => omega
  case c4 => simp
  intro v w3 hown hg3
  have hb23 : Below w2.heap.size w2 w3 := ((Below.refl w2.heap.size w2).alloc (Nat.le_refl _) _).grown hg3 (by simp) (fun g hg => by simp [Value.ownBlock] at hg; omega)
  have hb03 := hb02.trans (hb23.mono hb02.size)
  obtain ⟨bs, hbs⟩ : ∃ x, x = w2.heap.size := ⟨_, rfl⟩
  rw [← hbs] at hown
  have hw1 : w.heap.size ≤ bs := by rw [hbs]; exact hb02.size
  have hbs3 : bs ≤ w3.heap.size := by rw [hbs]; exact hb23.size
  have hown0 : w3.ownsRow bs 41 5 v n (a.flatMap Sh.cells) := by simpa using hown
  clear hbs hsrc hg3 hb23 hb02 hown
  go_wp2_with fail
  go_loopw [12, 14, 36] (fun v _ ii wr => ∃ (j : Nat), j ≤ m ∧ ii = .int .i64 j ∧ wr.ownsRow bs 41 5 v (n + j) ((a ++ (b.take j).map (scS sg)).flatMap Sh.cells) ∧ bs ≤ wr.heap.size ∧ Below w.heap.size w wr) (fun _ _ ii _ => m - (intOf ii).toNat)
  case atStart => exact ⟨0, Nat.zero_le _, rfl, by simpa using hown0, hbs3, hb03⟩
  case round =>
    obtain ⟨j, hj, rfl, hown, hz, hbr⟩ := hrel
    clear hbs3 hb03 hown0
    by_cases hjn : j < m
    · obtain ⟨s, hs, _⟩ := drop_cons (xs := b) (i := j) (by rw [← HM.out]; exact hjn)
      obtain ⟨b1, off, rfl, _, hbl, c0, c1, c2, c3, c4⟩ := (hB.below hbr).at_ hs
      have hvi := (validS_iff s).1 (HVA.out s (List.mem_of_getElem? hs))
      have HT : Hid ((a ++ (b.take j).map (scS sg)).flatMap Sh.cells ++ [scS sg s].flatMap Sh.cells = (a ++ (b.take (j + 1)).map (scS sg)).flatMap Sh.cells) := by
        show _ = _
        rw [take_next hs, List.map_append, ← List.flatMap_append, List.append_assoc]; rfl
      clear hs
      have e1 : IntKind.i64.wrap (sg * s.amt) = sg * s.amt := by rcases hsg with rfl | rfl <;> exact IntWalk.i64_in _ (by omega)
      have e2 : IntKind.i64.wrap (sg * s.paid) = sg * s.paid := by rcases hsg with rfl | rfl <;> exact IntWalk.i64_in _ (by omega)
      obtain ⟨ws, hws⟩ : ∃ x : World, x = wr.alloc (.cells #[.int .i64 s.loss, .int .i64 s.treaty, .int .i64 s.party, .int .i64 (sg * s.amt), .int .i64 (sg * s.paid)] 41) := ⟨_, rfl⟩
      obtain ⟨g1, hg1⟩ : ∃ x, x = wr.heap.size := ⟨_, rfl⟩
      have hbb : Below wr.heap.size wr ws := by rw [hws]; exact (Below.refl _ _).alloc (Nat.le_refl _) _
      have hown2 := own_below hown hbb
      have hb2 := hbr.trans (hbb.mono hbr.size)
      have hz2' : bs ≤ ws.heap.size := Nat.le_trans hz hbb.size
      have p0 : ws.cell? ⟨g1, 0, none⟩ = some (.int .i64 s.loss) := by rw [hws, hg1]; simp
      have p1 : ws.cell? ⟨g1, 1, none⟩ = some (.int .i64 s.treaty) := by rw [hws, hg1]; simp
      have p2 : ws.cell? ⟨g1, 2, none⟩ = some (.int .i64 s.party) := by rw [hws, hg1]; simp
      have p3 : ws.cell? ⟨g1, 3, none⟩ = some (.int .i64 (sg * s.amt)) := by rw [hws, hg1]; simp
      have p4 : ws.cell? ⟨g1, 4, none⟩ = some (.int .i64 (sg * s.paid)) := by rw [hws, hg1]; simp
      go_upto_region 12 with fail
      rw [← hws, ← hg1]
      clear hws hg1 c0 c1 c2 c3 c4 hbb hown hz hbr
      go_wp2_with (at_builtin; refine wpList_append_own _ rfl (.tmp 50) (.tmp 52) 22 rfl bs 41 i0 _ 5 40 Try.underlying22 hi hz0 hz1 hz2 rfl (by decide) _ (n + j) _ rfl (own_below hown2 ((Below.refl _ _).alloc (Nat.le_refl _) _)) ⟨ws.heap.size, 0, none⟩ 1 1 (Sh.cells (scS sg s)) rfl rfl ?c1 ?c2 ?c3 ?c4 ?c5 ?_)
      case c1 => exact cell_new ws (Sh.cells (scS sg s)) 41
      case c2 => exact sh_one _
      case c3 => unfold maxLen; omega
      case c4 => omega
      case c5 => simp; omega
      intro v' w8 hown8 hg8 _
      have hb8 : Below w.heap.size w w8 := (hb2.alloc hb2.size _).grown hg8 (by have := hb2.size; simp; omega) (fun g' hg' => by have := own_low hown2 g' hg'; omega)
      have hz8 : bs ≤ w8.heap.size := by have := hg8.size; simp at this; omega
      have hown9 : w8.ownsRow bs 41 5 v' (n + (j + 1)) ((a ++ (b.take (j + 1)).map (scS sg)).flatMap Sh.cells) := by
        rw [← HT.out]; simpa [Nat.add_assoc] using hown8
      clear hown8 hg8 hown2
      go_wp2_with fail
      go_roundw
      case rel => exact ⟨j + 1, by omega, by go_num, hown9, hz8, hb8⟩
      case measure => simp [intOf]; omega
    · obtain rfl : j = m := by omega
      rw [List.take_of_length_le (by rw [← HM.out]; exact Nat.le_refl _)] at hown
      obtain ⟨L, hL⟩ : ∃ L, L = a ++ b.map (scS sg) := ⟨_, rfl⟩
      rw [← hL] at hown HR
      have hlen : n + j = L.length := by rw [hL, List.length_append, List.length_map, ← HN.out, ← HM.out]
      rw [hlen] at hown
      obtain ⟨V, vc, rfl, hvc⟩ := own_shape hown
      have C3 := Lib.hid (rcollect_any V vc L wr (by omega) ((shs_of_own hown).low (Nat.zero_le _)))
      clear hL hown
      obtain ⟨N, hN⟩ : ∃ N, N = L.length := ⟨_, rfl⟩
      rw [← hN] at C3 hlen hvc ⊢
      clear hN
      go_wp2_with fail
      refine C3.out.mono ?_
      rintro e w4 ⟨Y, yc, rfl, hY, hb4⟩
      go_wp2_with fail
      go_ret2
      exact ⟨Y, yc, by rw [HR.out.1, HR.out.2]; rfl, by rw [HR.out.1]; exact hY.low hbr.size, hbr.trans (hb4.mono hbr.size)⟩

set_option maxHeartbeats 1000000 in
theorem rapply_any (A B : Option Addr) (c d : Nat) (a b : List Sh) (w : World) (ha : a.length ≤ 30000) (hb : b.length ≤ 30000) (hA : Shs w 0 A a) (hB : Shs w 0 B b) :
    Calls Try.prog 14 #[.slice A a.length c, .slice B b.length d] w fun e w' => ∃ (C : Option Addr) (k : Nat), e = .returned (.tuple #[.slice C (applyR a b).length k, .int .i64 (applyErr a b)]) ∧ Shs w' w.heap.size C (applyR a b) ∧ Below w.heap.size w w' := by
  have C1 := Lib.hid (together_any 1 (.inl rfl) A B c d a b w ha hb hA hB)
  have e1 : togR 1 a b = applyR a b := by unfold togR applyR; rw [scS_one]
  have e2 : togErr 1 a b = applyErr a b := by unfold togErr applyErr; rw [scS_one]
  rw [e1, e2] at C1
  obtain ⟨n, hn⟩ : ∃ n, n = a.length := ⟨_, rfl⟩
  obtain ⟨m, hm⟩ : ∃ m, m = b.length := ⟨_, rfl⟩
  rw [← hn] at C1 ⊢
  rw [← hm] at C1 ⊢
  obtain ⟨R, hR⟩ : ∃ R, R = applyR a b := ⟨_, rfl⟩
  obtain ⟨E, hE⟩ : ∃ E, E = applyErr a b := ⟨_, rfl⟩
  rw [← hR, ← hE] at C1 ⊢
  clear hn hm ha hb e1 e2 hR hE
  go_enter Try.func14, Try.ntmps14
  go_wp2_with fail
  refine C1.out.mono ?_
  rintro e w1 ⟨Y, yc, rfl, hY, hb1⟩
  go_wp2_with fail
  go_ret2
  exact ⟨Y, yc, rfl, hY, hb1⟩

set_option maxHeartbeats 1000000 in
theorem rdiff_any (A B : Option Addr) (c d : Nat) (a b : List Sh) (w : World) (ha : a.length ≤ 30000) (hb : b.length ≤ 30000) (hA : Shs w 0 A a) (hB : Shs w 0 B b) :
    Calls Try.prog 12 #[.slice A a.length c, .slice B b.length d] w fun e w' => ∃ (C : Option Addr) (k : Nat), e = .returned (.tuple #[.slice C (diffR a b).length k, .int .i64 (diffErr a b)]) ∧ Shs w' w.heap.size C (diffR a b) ∧ Below w.heap.size w w' := by
  have C1 := Lib.hid (rcollect_any A c a w (by omega) hA)
  have C2 := Lib.hid (fun (w1 : World) (h : Below w.heap.size w w1) => together_any (-1) (.inr rfl) B A d c b a w1 hb ha (hB.below h) (hA.below h))
  have HE : Hid (colErr a = 0 → togR (-1) b a = diffR a b ∧ togErr (-1) b a = diffErr a b) := fun h => by
    have e : chkErr b a = chkErr a b := by unfold chkErr; rw [h]; by_cases h2 : colErr b = 0 <;> simp [h2]
    unfold togR diffR togErr diffErr
    rw [scS_neg, e]; exact ⟨rfl, rfl⟩
  have HN : Hid (colErr a ≠ 0 → diffR a b = [] ∧ diffErr a b = colErr a) := fun h => by
    have e : chkErr a b = colErr a := by unfold chkErr; rw [if_pos h]
    unfold diffR diffErr
    rw [e, if_pos h, if_pos h]; exact ⟨rfl, rfl⟩
  obtain ⟨n, hn⟩ : ∃ n, n = a.length := ⟨_, rfl⟩
  obtain ⟨m, hm⟩ : ∃ m, m = b.length := ⟨_, rfl⟩
  rw [← hn] at C1 C2 ⊢
  rw [← hm] at C2 ⊢
  obtain ⟨x, hx⟩ : ∃ x, x = colErr a := ⟨_, rfl⟩
  rw [← hx] at C1 HE HN
  obtain ⟨R, hR⟩ : ∃ R, R = diffR a b := ⟨_, rfl⟩
  obtain ⟨E, hE⟩ : ∃ E, E = diffErr a b := ⟨_, rfl⟩
  rw [← hR, ← hE] at HE HN ⊢
  clear hn hm ha hb hx hR hE
  go_enter Try.func12, Try.ntmps12
  go_wp2_with fail
  refine C1.out.mono ?_
  rintro e w1 ⟨X1, xc1, rfl, _, hb1⟩
  by_cases hx0 : x = 0
  · have q : (x != 0) = false := by simpa using hx0
    obtain ⟨e1, e2⟩ := HE.out hx0
    have D := C2.out w1 hb1
    rw [e1, e2] at D
    have HD := Lib.hid D
    clear D e1 e2 hx0 HE HN
    go_wp2_with fail
    refine HD.out.mono ?_
    rintro e w2 ⟨Y, yc, rfl, hY, hb2⟩
    go_wp2_with fail
    go_ret2
    exact ⟨Y, yc, rfl, hY.low hb1.size, hb1.trans (hb2.mono hb1.size)⟩
  · have q : (x != 0) = true := by simpa using hx0
    have HX := Lib.hid (HN.out hx0)
    clear hx0 HE HN
    go_wp2_with fail
    go_ret2
    exact ⟨none, 0, by rw [HX.out.1, HX.out.2]; rfl, by rw [HX.out.1]; exact Sl.none_, hb1⟩

end Go.Proofs.Ytpmiafnccjejnaa
