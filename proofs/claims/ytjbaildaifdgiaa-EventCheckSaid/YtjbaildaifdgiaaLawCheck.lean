/-
  treatylaw25.EventCheck: the law's walk.
-/
import Derived.Test.YtjbaildaifdgiaaFew25
import Derived.Test.YtjbaildaifdgiaaAwake25
import Derived.Test.YtjbaildaifdgiaaChkE
import Derived.Test.YtjbaildaifdgiaaRChkE
import Derived.Test.YtjbaildaifdgiaaBits
import Derived.Deep.DeepCutAuto
namespace Go.Proofs.Ytjbaildaifdgiaa
open Go.RowKit
set_option linter.unusedVariables false

theorem losses_of_ownN {w : World} {base n c : Nat} {e : TypeId} {A : Option Addr} {xs : List Los} (h : w.ownsRow base e 10 (.slice A n c) n (xs.flatMap Los.cells)) (hn : n = xs.length) : Losses w base A xs := by
  subst hn; exact losses_of_own h
theorem ints_of_ownM {w : World} {base n c : Nat} {e : TypeId} {A : Option Addr} {xs : List Int} (h : w.ownsRow base e 1 (.slice A n c) n (xs.flatMap V1)) (hn : n = xs.length) : Ints w base A xs := by
  subst hn; exact ints_of_own h

def CkR (w : World) (nl nm : Nat) (LA AA : Option Addr) (W : World) : Prop :=
  ∃ (los : List Los) (am : List Int), Losses W 0 LA los ∧ Ints W 0 AA am ∧ los.length = nl ∧ am.length = nm ∧ Below w.heap.size w W

set_option maxRecDepth 100000 in
set_option maxHeartbeats 2000000 in
theorem lawCheck (A : Option Addr) (c : Nat) (losses : List Los) (B : Option Addr) (d : Nat) (amounts : List Int) (D : Option Addr) (dc : Nat) (deck : List Int) (at_ n : Int) (w : World)
    (hA : Losses w 0 A losses) (hB : Ints w 0 B amounts) (hD : Ints w 0 D deck) (hal : losses.length ≤ 9223372036854775807) (hbl : amounts.length ≤ 9223372036854775807) (hdl : deck.length ≤ 9223372036854775807) (hac : losses.length ≤ c) (han : A = none → c = 0) :
    Calls Try.prog 8 #[.slice A losses.length c, .slice B amounts.length d, .slice D deck.length dc, .int .i64 at_, .int .i64 n] w fun e w' => e = .returned (.bool true) ∧ Below w.heap.size w w' := by
  have C1 := Lib.hid (few25_any D dc deck w hD hdl)
  have C2 : Hid (∀ W, Losses W 0 A losses → Ints W 0 B amounts → _) := fun W h h' => checkE_any A c losses B d amounts W hal hbl h h'
  have C3 : Hid (∀ W, Losses W 0 A losses → Ints W 0 B amounts → _) := fun W h h' => rcheckE_any A c losses B d amounts W hal hbl h h'
  obtain ⟨na, hna⟩ : ∃ k, k = losses.length := ⟨_, rfl⟩
  obtain ⟨nb, hnb⟩ : ∃ k, k = amounts.length := ⟨_, rfl⟩
  obtain ⟨nd, hnd⟩ : ∃ k, k = deck.length := ⟨_, rfl⟩
  rw [← hna, ← hnb] at C2 C3
  rw [← hnd] at C1
  rw [← hna, ← hnb, ← hnd]
  rw [← hna] at hal
  rw [← hnb] at hbl
  clear hna hnb hnd hac han hdl
  by_cases hbig : 100 < na ∨ 100 < nb
  · have q1 : decide (100 < (na : Int)) = decide (100 < na) := by simp; omega
    by_cases ha : 100 < na
    · have q : decide (100 < (na : Int)) = true := by simp; omega
      clear q1
      go_enter Try.func8, Try.ntmps8
      go_wp2_with (go_at_call 33; refine (awake25_any _).mono ?_; rintro e w10 ⟨rfl, hb10⟩)
      go_ret
      exact ⟨rfl, hb10⟩
    · have q : decide (100 < (na : Int)) = false := by simp; omega
      have q2 : decide (100 < (nb : Int)) = true := by simp; omega
      clear q1 hbig
      go_enter Try.func8, Try.ntmps8
      go_wp2_with (go_at_call 33; refine (awake25_any _).mono ?_; rintro e w10 ⟨rfl, hb10⟩)
      go_ret
      exact ⟨rfl, hb10⟩
  have qa : decide (100 < (na : Int)) = false := by simp; omega
  have qb : decide (100 < (nb : Int)) = false := by simp; omega
  clear hbig
  obtain ⟨K, hK⟩ : ∃ K : Int, K = at_ % 4 := ⟨_, rfl⟩
  have hK4 : K = 0 ∨ K = 1 ∨ K = 2 ∨ K = 3 := by omega
  have hs3 : bits .and .i64 at_ 3 = K := by rw [hK]; exact bits_mask 2 3 (by omega) (by decide) at_
  have HK4 := Lib.hid hK4
  clear hK hK4
  go_enter Try.func8, Try.ntmps8
  go_wp2_with fail
  refine C1.out.mono ?_
  rintro e w1 ⟨u, v, los, last, am, rfl, hl12, hmade, hamn, hamb, hownL, hownA, hb1⟩
  clear hmade hamb C1
  obtain ⟨LA, lc, rfl, _⟩ := own_shape hownL
  obtain ⟨AA, ac, rfl, _⟩ := own_shape hownA
  obtain ⟨nl, hnl⟩ : ∃ k, k = los.length := ⟨_, rfl⟩
  obtain ⟨nm, hnm⟩ : ∃ k, k = am.length := ⟨_, rfl⟩
  rw [← hnl] at hl12 hownL ⊢
  rw [← hnm] at hownA ⊢
  have hnn : nm ≤ nl ∧ nl ≤ nm := by omega
  have HNL := Lib.hid hnl
  have HNM := Lib.hid hnm
  clear hnl hnm hamn
  have hfin : Hid (∀ (W : World), Losses W 0 LA los → Ints W 0 AA am → Below w.heap.size w W → CkR w nl nm LA AA W) := fun W h h' hb => ⟨los, am, h, h', HNL.out.symm, HNM.out.symm, hb⟩
  go_upto_if 30 with fail
  go_cut [13] (fun _ wc => CkR w nl nm LA AA wc)
  case first =>
    by_cases h0 : 0 < nl
    case neg =>
      have q0 : decide (0 < (nl : Int)) = false := by simp; omega
      go_wp2_with fail
      go_meet
      exact hfin.out _ ((losses_of_ownN hownL HNL.out).low (Nat.zero_le _)) ((ints_of_ownM hownA HNM.out).low (Nat.zero_le _)) hb1
    have q0 : decide (0 < (nl : Int)) = true := by simp; omega
    rcases hownL.2 with ⟨_, h00⟩ | ⟨g, cap, cur, hv, hgb, _⟩
    · omega
    obtain ⟨rfl, rfl⟩ : LA = some ⟨g, 0, none⟩ ∧ lc = cap := by injection hv with a1 a2 a3; exact ⟨a1, a3⟩
    rcases hownA.2 with ⟨_, h01⟩ | ⟨g2, cap2, cur2, hv2, hgb2, _⟩
    · omega
    obtain ⟨rfl, rfl⟩ : AA = some ⟨g2, 0, none⟩ ∧ ac = cap2 := by injection hv2 with a1 a2 a3; exact ⟨a1, a3⟩
    obtain ⟨x, hx, _⟩ := drop_cons (xs := los) (i := 0) (by rw [← HNL.out]; exact h0)
    obtain ⟨y, hy, _⟩ := drop_cons (xs := am) (i := 0) (by rw [← HNM.out]; omega)
    have fz := hownL.frozenAt
    have f3 := fz 3
    have f4 := fz 4
    have g0 := hownA.frozenAt 0
    have cL := flat_get Los.cells 10 (fun _ => rfl) los 0 x hx
    have c3 : w1.cell? ⟨g, 3, none⟩ = some (.int .i64 x.hour) := by rw [hownL.cellAt 3 (by omega)]; exact cL 3 (by omega)
    have c4 : w1.cell? ⟨g, 4, none⟩ = some (.int .i64 x.peril) := by rw [hownL.cellAt 4 (by omega)]; exact cL 4 (by omega)
    have d0 : w1.cell? ⟨g2, 0, none⟩ = some (.int .i64 y) := by rw [hownA.cellAt 0 (by omega)]; exact flat_get V1 1 (fun _ => rfl) am 0 y hy 0 (by omega)
    have HX := Lib.hid hx
    have HY := Lib.hid hy
    have HFL := Lib.hid (own_ty hownL hownA (by decide) g2 rfl)
    have HFA := Lib.hid (own_ty hownA hownL (by decide) g rfl)
    clear hx hy fz cL hv hv2
    rcases HK4.out with rfl | rfl | rfl | rfl
    · go_wp2_with fail
      go_meet
      have hs := (hownL.stored 3 (.int .i64 n)).1
      have e := flat_set1 Los.cells 10 (fun _ => rfl) 3 (by omega) (.int .i64 n) { x with hour := n } 0 los x HX.out rfl
      rw [Nat.zero_mul, Nat.zero_add] at e
      rw [e] at hs
      have hA' := hownA.kept (row := some g) (only_setCell (p := ⟨g, 3, none⟩) (only_refl _ _) (.inl rfl) (.int .i64 n)) HFA.out
      exact ⟨_, am, (losses_of_ownN hs (by rw [List.length_set]; exact HNL.out)).low (Nat.zero_le _), (ints_of_ownM hA' HNM.out).low (Nat.zero_le _), by rw [List.length_set]; exact HNL.out.symm, HNM.out.symm, hb1.setCell hgb _⟩
    · go_wp2_with fail
      go_meet
      have hs := (hownL.stored 4 (.int .i64 n)).1
      have e := flat_set1 Los.cells 10 (fun _ => rfl) 4 (by omega) (.int .i64 n) { x with peril := n } 0 los x HX.out rfl
      rw [Nat.zero_mul, Nat.zero_add] at e
      rw [e] at hs
      have hA' := hownA.kept (row := some g) (only_setCell (p := ⟨g, 4, none⟩) (only_refl _ _) (.inl rfl) (.int .i64 n)) HFA.out
      exact ⟨_, am, (losses_of_ownN hs (by rw [List.length_set]; exact HNL.out)).low (Nat.zero_le _), (ints_of_ownM hA' HNM.out).low (Nat.zero_le _), by rw [List.length_set]; exact HNL.out.symm, HNM.out.symm, hb1.setCell hgb _⟩
    · go_wp2_with fail
      go_meet
      have hs := (hownA.stored 0 (.int .i64 n)).1
      have e := flat_set1 V1 1 (fun _ => rfl) 0 (by omega) (.int .i64 n) n 0 am y HY.out rfl
      rw [Nat.zero_mul, Nat.zero_add] at e
      rw [e] at hs
      have hL' := hownL.kept (row := some g2) (only_setCell (p := ⟨g2, 0, none⟩) (only_refl _ _) (.inl rfl) (.int .i64 n)) HFL.out
      exact ⟨los, _, (losses_of_ownN hL' HNL.out).low (Nat.zero_le _), (ints_of_ownM hs (by rw [List.length_set]; exact HNM.out)).low (Nat.zero_le _), HNL.out.symm, by rw [List.length_set]; exact HNM.out.symm, hb1.setCell hgb2 _⟩
    · go_wp2_with fail
      go_meet
      exact hfin.out _ ((losses_of_ownN hownL HNL.out).low (Nat.zero_le _)) ((ints_of_ownM hownA HNM.out).low (Nat.zero_le _)) hb1
  case rest =>
    obtain ⟨los', am', hL, hM, hll, hml, hbc⟩ := hcut
    have D2 : Hid (∀ W, Losses W 0 LA los' → Ints W 0 AA am' → _) := fun W h h' => checkE_any LA lc los' AA ac am' W (by omega) (by omega) h h'
    have D3 : Hid (∀ W, Losses W 0 LA los' → Ints W 0 AA am' → _) := fun W h h' => rcheckE_any LA lc los' AA ac am' W (by omega) (by omega) h h'
    rw [hll, hml] at D2 D3
    clear hll hml hfin HNL HNM hownL hownA
    go_wp2_with fail
    refine (C2.out _ (hA.below hbc) (hB.below hbc)).mono ?_
    rintro e w2 ⟨rfl, hb2⟩
    have hb02 := hbc.trans (hb2.mono hbc.size)
    go_wp2_with fail
    refine (C3.out _ (hA.below hb02) (hB.below hb02)).mono ?_
    rintro e w3 ⟨rfl, hb3⟩
    have hb03 := hb02.trans (hb3.mono hb02.size)
    have hb23 := hb2.trans (hb3.mono hb2.size)
    clear hb2 hb3 hb02
    go_wp2_with fail
    refine (D2.out _ (hL.below hb23) (hM.below hb23)).mono ?_
    rintro e w4 ⟨rfl, hb4⟩
    have hb04 := hb03.trans (hb4.mono hb03.size)
    have hb24 := hb23.trans (hb4.mono hb23.size)
    clear hb23 hb4 hb03
    go_wp2_with fail
    refine (D3.out _ (hL.below hb24) (hM.below hb24)).mono ?_
    rintro e w5 ⟨rfl, hb5⟩
    have hb05 := hb04.trans (hb5.mono hb04.size)
    clear hb24 hb5 hb04
    go_wp2_with (go_at_call 33; refine (awake25_any _).mono ?_; rintro e w10 ⟨rfl, hb10⟩)
    go_ret
    exact ⟨rfl, hb05.trans (hb10.mono hb05.size)⟩

end Go.Proofs.Ytjbaildaifdgiaa
