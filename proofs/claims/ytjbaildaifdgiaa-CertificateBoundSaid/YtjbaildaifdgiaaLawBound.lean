/-
  treatylaw27.CertificateBound: the law's walk.
-/
import Derived.Test.YtjbaildaifdgiaaAwake27
import Derived.Test.YtjbaildaifdgiaaFew27
import Derived.Test.YtjbaildaifdgiaaMadeChk
import Derived.Test.YtjbaildaifdgiaaRBound
import Derived.Test.YtjbaildaifdgiaaBits
namespace Go.Proofs.Ytjbaildaifdgiaa
open Go.RowKit
set_option linter.unusedVariables false

theorem own_empty (w : World) (e : TypeId) (size : Nat) : (w.alloc (.cells #[] e)).ownsRow w.heap.size e size (.slice (some ⟨w.heap.size, 0, none⟩) 0 0) 0 [] :=
  ⟨by simp, .inr ⟨w.heap.size, 0, #[], rfl, Nat.le_refl _, heap_alloc_new w _, Nat.le_refl _, Nat.zero_le _, by simp, by simp⟩⟩
theorem ints_cells {w : World} {lo : Nat} {b off : Nat} {xs : List Int} (h : Ints w lo (some ⟨b, off, none⟩) xs) : ∀ (j : Nat) (u : Value), (xs.flatMap V1)[j]? = some u → w.cell? (({ block := b, off := off } : Addr).add j) = some u := by
  intro j u hu
  have hl : j < xs.length := by
    have := (List.getElem?_eq_some_iff.1 hu).1
    rw [flat_len V1 1 (fun _ => rfl)] at this; omega
  obtain ⟨x, hx, _⟩ := drop_cons hl
  have hf := flat_get V1 1 (fun _ => rfl) xs j x hx 0 (by omega)
  rw [Nat.mul_one, Nat.add_zero, hu] at hf
  simp [V1] at hf
  obtain ⟨b', off', e, _, _, hc⟩ := h.at_ hx
  obtain ⟨rfl, rfl⟩ : b = b' ∧ off = off' := by simpa using e
  have ha : (({ block := b, off := off } : Addr).add j) = ⟨b, off + j, none⟩ := by
    unfold Addr.add; split
    · rename_i h0; rw [h0]; simp
    · rfl
  rw [ha, hc, hf]
theorem flat_set1 (K : Nat) (x : Int) : ∀ ps : List Int, K < ps.length → (ps.flatMap V1).set K (.int .i64 x) = (ps.set K x).flatMap V1 := by
  induction K with
  | zero =>
    intro ps h
    cases ps with
    | nil => simp at h
    | cons p ps => simp [V1]
  | succ K ih =>
    intro ps h
    cases ps with
    | nil => simp at h
    | cons p ps =>
      have := ih ps (by simpa using h)
      simp only [List.flatMap_cons, List.set_cons_succ, V1, List.cons_append, List.nil_append]
      congr 1

set_option maxRecDepth 100000 in
set_option maxHeartbeats 2000000 in
theorem lawBound (A : Option Addr) (c : Nat) (raw : List P2) (L : Int) (B : Option Addr) (d : Nat) (lay : List P2) (C : Option Addr) (cc : Nat) (vals : List Int) (D : Option Addr) (dc : Nat) (deck : List Int) (E : Option Addr) (ec : Nat) (other : List Int) (at_ by_ : Int) (w : World)
    (hA : Pairs w 0 A raw) (hB : Pairs w 0 B lay) (hC : Ints w 0 C vals) (hD : Ints w 0 D deck) (hE : Ints w 0 E other) (hal : raw.length ≤ 9223372036854775807) (hbl : lay.length ≤ 9223372036854775807) (hcl : vals.length ≤ 9223372036854775807) (hdl : deck.length ≤ 9223372036854775807) (hel : other.length ≤ 9223372036854775807) :
    Calls Try.prog 3 #[.slice A raw.length c, .int .i64 L, .slice B lay.length d, .slice C vals.length cc, .slice D deck.length dc, .slice E other.length ec, .int .i64 at_, .int .i64 by_] w fun e w' => e = .returned (.bool true) ∧ Below w.heap.size w w' := by
  have CN := Lib.hid (new_any D dc deck w hdl hD)
  have CT : Hid (∀ W, Ints W 0 E other → _) := fun W h => few27_any none 0 [] E ec other W Sl.none_ h (by simp) hel
  simp only [List.length_nil] at CT
  by_cases hlen : 40 < raw.length ∨ 20 < lay.length
  · clear CN CT
    obtain ⟨n, hn⟩ : ∃ n, n = raw.length := ⟨_, rfl⟩
    obtain ⟨k, hk⟩ : ∃ k, k = lay.length := ⟨_, rfl⟩
    obtain ⟨m, hm⟩ : ∃ m, m = deck.length := ⟨_, rfl⟩
    obtain ⟨o, ho⟩ : ∃ o, o = other.length := ⟨_, rfl⟩
    obtain ⟨z, hz⟩ : ∃ z, z = vals.length := ⟨_, rfl⟩
    rw [← hn, ← hk] at hlen
    rw [← hn, ← hk, ← hm, ← ho, ← hz]
    clear hn hk hm ho hz hal hbl hcl hdl hel hA hB hC hD hE
    by_cases h1 : 40 < n
    · clear hlen
      have q : decide (40 < (n : Int)) = true := by simp; omega
      go_enter Try.func3, Try.ntmps3
      go_wp2_with (go_at_call 11; refine (awake27_any _).mono ?_; rintro e w1 ⟨rfl, hb1⟩)
      go_ret
      exact ⟨rfl, hb1⟩
    · have h2 : 20 < k := by omega
      clear hlen
      have q : decide (40 < (n : Int)) = false := by simp; omega
      have q2 : decide (20 < (k : Int)) = true := by simp; omega
      go_enter Try.func3, Try.ntmps3
      go_wp2_with (go_at_call 11; refine (awake27_any _).mono ?_; rintro e w1 ⟨rfl, hb1⟩)
      go_ret
      exact ⟨rfl, hb1⟩
  have CB1 : Hid (∀ W, Pairs W 0 A raw → Pairs W 0 B lay → Ints W 0 C vals → _) := fun W h h' h'' => bound_any A c raw L B d lay C cc vals W (by omega) (by omega) hcl h h' h''
  have CB2 : Hid (∀ W, Pairs W 0 A raw → Pairs W 0 B lay → Ints W 0 C vals → _) := fun W h h' h'' => rbound_any A c raw L B d lay C cc vals W (by omega) (by omega) hcl h h' h''
  obtain ⟨n, hn⟩ : ∃ n, n = raw.length := ⟨_, rfl⟩
  obtain ⟨k, hk⟩ : ∃ k, k = lay.length := ⟨_, rfl⟩
  obtain ⟨m, hm⟩ : ∃ m, m = deck.length := ⟨_, rfl⟩
  obtain ⟨o, ho⟩ : ∃ o, o = other.length := ⟨_, rfl⟩
  obtain ⟨z, hz⟩ : ∃ z, z = vals.length := ⟨_, rfl⟩
  obtain ⟨bb, hbb⟩ : ∃ bb, bb = boundB raw L lay vals := ⟨_, rfl⟩
  rw [← hn, ← hk] at hlen
  rw [← hn, ← hk, ← hz, ← hbb] at CB1 CB2
  rw [← hm] at CN
  rw [← ho] at CT
  rw [← hn, ← hk, ← hm, ← ho, ← hz]
  clear hn hk hm ho hz hbb hal hbl hdl hel hcl
  have q1 : decide (40 < (n : Int)) = false := by simp; omega
  have q2 : decide (20 < (k : Int)) = false := by simp; omega
  clear hlen
  go_enter Try.func3, Try.ntmps3
  go_wp2_with fail
  refine CN.out.mono ?_
  rintro e w1 ⟨rfl, hdk, hb1, hs1⟩
  clear hs1
  go_wp2_with fail
  refine (points_any _ 12 _ (by omega) (by omega) hdk).mono ?_
  rintro e w2 ⟨v, ps, last, rfl, hpl, hlast, hmade, hown, hdk2, hg2⟩
  have hb2 : Below w.heap.size w w2 := below_of_only hb1 hg2 (Nat.le_refl _)
  obtain ⟨F, f, rfl, _⟩ := own_shape hown
  have hF : Pairs w2 0 F ps := (pairs_of_own hown).low (Nat.zero_le _)
  clear hown hdk2 hg2 hdk hb1
  go_wp2_with fail
  refine (CT.out _ (hE.below hb2)).mono ?_
  rintro e w3 ⟨LA, lc, los, last', AA, ac, am, N, G, g, ls, rfl, _, _, _, _, hN1, hN2, hl1, hl3, hall, _, _, hG, hb3⟩
  have hchk := chkErr_made hmade hlast (by omega) hN1 hN2 hl1 hl3 hall
  have HCHK := Lib.hid hchk
  have hb03 := hb2.trans (hb3.mono hb2.size)
  have hF3 := hF.below hb3
  have hG3 : Pairs w3 0 G ls := hG.low (Nat.zero_le _)
  have hpl' : ps.length ≤ 12 := by omega
  have CV : Hid (∀ W, Pairs W 0 F ps → Pairs W 0 G ls → _) := fun W h h' => rvalues_any F f ps N G g ls W (by omega) (by omega) h h'
  have hvf : valuesF ps N ls = valsF N ls ps := by unfold valuesF; rw [if_pos hchk]
  rw [hvf, hchk, valsF_length] at CV
  obtain ⟨np, hnp⟩ : ∃ np, np = ps.length := ⟨_, rfl⟩
  have HNP := Lib.hid hnp
  rw [← hnp] at CV hpl' ⊢
  clear hall hmade hchk hvf hnp hlast hF hG hb3 hpl
  go_wp2_with fail
  refine (CV.out _ hF3 hG3).mono ?_
  rintro e w4 ⟨H, h, rfl, hH, hb4⟩
  have hb04 := hb03.trans (hb4.mono hb03.size)
  have hb34 := hb4
  obtain ⟨i0, hi, hz0, hz1, hz2⟩ := info_parts Try.infoInt
  obtain ⟨hbk, hof, rfl, _, _, _⟩ := hH.at_ (valsF_get N ls ps 0 (Nat.zero_le _))
  have hH4 : Ints (w4.alloc (.cells #[] 3)) w3.heap.size (some ⟨hbk, hof, none⟩) (valsF N ls ps) := hH.below (below_alloc _ _)
  go_wp2_with (at_builtin; refine wpList_append_own _ rfl (.tmp 52) (.tmp 53) 24 rfl w4.heap.size 3 i0 _ 1 8 Try.underlying24 hi hz0 hz1 hz2 rfl (by decide) _ 0 [] rfl (own_empty w4 3 1) ⟨hbk, hof, none⟩ (np + 1) h ((valsF N ls ps).flatMap V1) rfl ?c0 ?c1 ?c2 ?c3 ?c4 ?c5 ?_)
  case c0 => rw [flat_len V1 1 (fun _ => rfl), valsF_length, ← HNP.out]
  case c1 => exact ints_cells hH4
  case c2 => intro u hu; obtain ⟨x, _, hx⟩ := List.mem_flatMap.1 hu; simp [V1] at hx; rw [hx]; rfl
  case c3 => unfold maxLen; omega
  case c4 => omega
  case c5 => simp
  intro v' w5 hown5 hg5 _
  have hb45 : Below w4.heap.size w4 w5 := (below_alloc w4 _).grown hg5 (by simp) (fun g hg => by simp [Value.ownBlock] at hg; omega)
  have hb05 := hb04.trans (hb45.mono hb04.size)
  rcases hown5.2 with ⟨_, h0⟩ | ⟨g5, f5, cur, rfl, hgb, _⟩
  · omega
  obtain ⟨K, hK⟩ := Int.eq_ofNat_of_zero_le (show 0 ≤ at_ % 32 from Int.emod_nonneg _ (by omega))
  have hs2 : bits .and .i64 at_ 31 = (K : Int) := by rw [bits_mask 5 31 (by omega) (by decide)]; exact hK
  clear hK
  obtain ⟨J, hJ, hJn⟩ : ∃ J : Nat, (K : Int) % ((np : Int) + 1) = (J : Int) ∧ J < np + 1 := ⟨K % (np + 1), by rw [Int.natCast_emod, Int.natCast_add]; rfl, Nat.mod_lt _ (by omega)⟩
  have hx := valsF_get N ls ps J (by rw [← HNP.out]; omega)
  have hvb := valAt_bd N ls ps J
  rw [← HNP.out] at hvb
  have c0 : w5.cell? ⟨g5, J, none⟩ = some (.int .i64 (valAt N ls ps J)) := by
    rw [hown5.cellAt J (by omega)]
    have hf := flat_get V1 1 (fun _ => rfl) _ J _ hx 0 (by omega)
    rw [Nat.mul_one, Nat.add_zero] at hf
    exact hf
  have f0 := hown5.frozenAt J
  obtain ⟨T, hT⟩ : ∃ T, by_.tmod 8 = T := ⟨_, rfl⟩
  have hT1 : -8 < T := by rw [← hT]; exact Int.lt_tmod_of_pos _ (by omega)
  have hT2 : T < 8 := by rw [← hT]; exact Int.tmod_lt_of_pos _ (by omega)
  have hst := (hown5.stored J (.int .i64 (valAt N ls ps J + (T - 2)))).1
  rw [flat_set1 J _ _ (by rw [valsF_length, ← HNP.out]; exact hJn)] at hst
  generalize hvs : (valsF N ls ps).set J (valAt N ls ps J + (T - 2)) = vs at hst
  have hvl : vs.length = np + 1 := by rw [← hvs, List.length_set, valsF_length, HNP.out]
  rw [← hvl] at hst
  clear hvs hx hown5 hg5 hH4 hH hb4 hb03 CV HCHK hi hz0 hz1 hz2
  go_wp2_with fail
  obtain ⟨w6, hw6⟩ : ∃ w6 : World, w6 = w5.setCell ⟨g5, J, none⟩ (.int .i64 (valAt N ls ps J + (T - 2))) := ⟨_, rfl⟩
  have hV : Ints w6 0 (some ⟨g5, 0, none⟩) vs := by rw [hw6]; exact (ints_of_own hst).low (Nat.zero_le _)
  have hb46 : Below w4.heap.size w4 w6 := by rw [hw6]; exact hb45.setCell hgb _
  have hb06 := hb04.trans (hb46.mono hb04.size)
  rw [← hw6]
  clear hw6 hst c0 f0 hb45 hb05
  have hF6 := (hF3.below hb34).below hb46
  have hG6 := (hG3.below hb34).below hb46
  obtain ⟨V, hVe⟩ : ∃ V : Option Addr, V = some ⟨g5, 0, none⟩ := ⟨_, rfl⟩
  rw [← hVe] at hV ⊢
  have CB3 : Hid (∀ W, Pairs W 0 F ps → Pairs W 0 G ls → Ints W 0 V vs → _) := fun W h h' h'' => bound_any F f ps N G g ls V f5 vs W (by rw [← HNP.out]; omega) (by omega) (by rw [hvl]; omega) h h' h''
  have CB4 : Hid (∀ W, Pairs W 0 F ps → Pairs W 0 G ls → Ints W 0 V vs → _) := fun W h h' h'' => rbound_any F f ps N G g ls V f5 vs W (by rw [← HNP.out]; omega) (by omega) (by rw [hvl]; omega) h h' h''
  obtain ⟨bb2, hbb2⟩ : ∃ bb2, bb2 = boundB ps N ls vs := ⟨_, rfl⟩
  rw [← hbb2, ← HNP.out, hvl] at CB3 CB4
  clear hbb2 hvl hVe hs2 hJ hT
  go_wp2_with fail
  refine (CB1.out _ (hA.below hb06) (hB.below hb06) (hC.below hb06)).mono ?_
  rintro e w7 ⟨rfl, hb7⟩
  have hb07 := hb06.trans (hb7.mono hb06.size)
  go_wp2_with fail
  refine (CB2.out _ (hA.below hb07) (hB.below hb07) (hC.below hb07)).mono ?_
  rintro e w8 ⟨rfl, hb8⟩
  have hb08 := hb07.trans (hb8.mono hb07.size)
  have hb68 := hb7.trans (hb8.mono hb7.size)
  go_wp2_with fail
  refine (CB3.out _ (hF6.below hb68) (hG6.below hb68) (hV.below hb68)).mono ?_
  rintro e w9 ⟨rfl, hb9⟩
  have hb09 := hb08.trans (hb9.mono hb08.size)
  have hb69 := hb68.trans (hb9.mono hb68.size)
  go_wp2_with fail
  refine (CB4.out _ (hF6.below hb69) (hG6.below hb69) (hV.below hb69)).mono ?_
  rintro e w10 ⟨rfl, hb10⟩
  have hb010 := hb09.trans (hb10.mono hb09.size)
  clear hb7 hb8 hb9 hb10 hb68 hb69 hb06 hb07 hb08 hb09
  go_wp2_with (go_at_call 11; refine (awake27_any _).mono ?_; rintro e w11 ⟨rfl, hb11⟩)
  go_ret
  exact ⟨rfl, hb010.trans (hb11.mono hb010.size)⟩

end Go.Proofs.Ytjbaildaifdgiaa
