/-
  treatylaw32.awake: it returns true. Shares that decks make.
-/
import Derived.Test.YtpmiafnccjejnaaRApply
import Derived.Test.YtpmiafnccjejnaaSame
namespace Go.Proofs.Ytpmiafnccjejnaa
open Go.RowKit
set_option linter.unusedVariables false

def exSa : List Sh := [⟨7, 1, 2, 50, 10⟩]
def exSb : List Sh := [⟨7, 1, 2, 60, 60⟩, ⟨8, 1, 2, 5, 0⟩]
def exSd : List Sh := [⟨7, 1, 2, 10, 50⟩, ⟨8, 1, 2, 5, 0⟩]
theorem exS1 : diffErr exSa exSb = 0 := by decide +kernel
theorem exS2 : diffR exSa exSb = exSd := by rfl
theorem exSok {l : List Sh} (h : l.all (fun s => decide (s.loss ≤ 100 ∧ 0 ≤ s.loss ∧ s.treaty ≤ 100 ∧ 0 ≤ s.treaty ∧ s.party ≤ 100 ∧ 0 ≤ s.party)) = true) : ∀ s ∈ l, s.ok := by
  intro s hs
  have := of_decide_eq_true (List.all_eq_true.1 h s hs)
  unfold Sh.ok I64; omega
theorem shs_new (w : World) (xs : List Sh) (t : TypeId) : Shs (w.alloc (.cells (xs.flatMap Sh.cells).toArray t)) w.heap.size (some ⟨w.heap.size, 0, none⟩) xs := sl_new (enc := Sh.cells) (fun _ => rfl) w xs t

set_option maxRecDepth 100000 in
set_option maxHeartbeats 1000000 in
theorem awake32_any (w : World) :
    Calls Try.prog 8 #[] w fun e w' => e = .returned (.bool true) ∧ Below w.heap.size w w' := by
  go_enter Try.func8, Try.ntmps8
  go_wp2_with fail
  obtain ⟨w1, hw1⟩ : ∃ w1 : World, w1 = w.alloc (.cells #[.int .i64 7, .int .i64 1, .int .i64 2, .int .i64 50, .int .i64 10] 41) := ⟨_, rfl⟩
  obtain ⟨w2, hw2⟩ : ∃ w2 : World, w2 = w1.alloc (.cells #[.int .i64 7, .int .i64 1, .int .i64 2, .int .i64 60, .int .i64 60, .int .i64 8, .int .i64 1, .int .i64 2, .int .i64 5, .int .i64 0] 41) := ⟨_, rfl⟩
  have hs1 : w1.heap.size = w.heap.size + 1 := by rw [hw1]; simp
  have ha : Shs w2 0 (some ⟨w.heap.size, 0, none⟩) exSa := by
    have h1 : Shs w1 w.heap.size (some ⟨w.heap.size, 0, none⟩) exSa := by rw [hw1]; exact shs_new w exSa _
    rw [hw2]; exact (h1.below (below_alloc _ _)).low (Nat.zero_le _)
  have hb : Shs w2 0 (some ⟨w.heap.size + 1, 0, none⟩) exSb := by
    rw [hw2, ← hs1]; exact (shs_new w1 exSb _).low (Nat.zero_le _)
  have hb2 : Below w.heap.size w w2 := by
    rw [hw2, hw1]; exact (below_alloc w _).alloc (by simp) _
  rw [← hw1, ← hw2]
  clear hw1 hw2 hs1
  have C1 := diff_any (some ⟨w.heap.size, 0, none⟩) (some ⟨w.heap.size + 1, 0, none⟩) 1 2 exSa exSb w2 (by decide) (by decide) (exSok (by decide)) (exSok (by decide)) ha hb
  rw [exS1, exS2] at C1
  refine C1.mono ?_
  rintro e w3 ⟨X, xc, rfl, hX, hb3⟩
  clear C1 ha hb
  have hb03 := hb2.trans (hb3.mono hb2.size)
  go_wp2_with fail
  have b4 := below_alloc w3 (.cells #[.int .i64 7, .int .i64 1, .int .i64 2, .int .i64 10, .int .i64 50, .int .i64 8, .int .i64 1, .int .i64 2, .int .i64 5, .int .i64 0] 41)
  have C2 := sameShares_self X (some ⟨w3.heap.size, 0, none⟩) xc 2 exSd _ (by decide) ((hX.below b4).low (Nat.zero_le _)) ((shs_new w3 exSd 41).low (Nat.zero_le _))
  refine C2.mono ?_
  rintro e w4 ⟨rfl, hb4⟩
  clear C2
  have hb34 := b4.trans (hb4.mono b4.size)
  have hb04 := hb03.trans (hb34.mono hb03.size)
  clear b4 hb4 hb3 hb34 hX
  go_wp2_with fail
  go_ret
  exact ⟨rfl, hb04⟩

/-- What New and Loose hand out. -/
theorem shOk_ok {xs : List Sh} (h : ∀ x ∈ xs, ShOk x) : ∀ x ∈ xs, x.ok := fun x hx => by
  have := h x hx
  unfold ShOk at this
  unfold Sh.ok I64; omega
theorem shOk_bd {xs : List Sh} (h : ∀ x ∈ xs, ShOk x) : ∀ x ∈ xs, BdS 100 x := fun x hx => by
  have := h x hx
  unfold ShOk at this
  unfold BdS; omega
theorem looseN_any (bd : Nat) (N : Int) (w w0 : World) (hN0 : 0 ≤ N) (hN : N ≤ 1000) (hd : Deck w bd) (hb : Below w0.heap.size w0 w) (hlt : w0.heap.size ≤ bd) :
    Calls Try.prog 9 #[.pointer (some ⟨bd, 0, none⟩), .int .i64 N] w fun e w' => ∃ (A : Option Addr) (c : Nat) (xs : List Sh), e = .returned (.slice A xs.length c) ∧ (xs.length : Int) ≤ N ∧ (∀ x ∈ xs, ShOk x) ∧ Shs w' 0 A xs ∧ Below w0.heap.size w0 w' := by
  refine (loose_any bd N w hN0 hN hd).mono ?_
  rintro e w' ⟨v, xs, rfl, hl, hok, hown, _, hg⟩
  obtain ⟨A, c, rfl, hc⟩ := own_shape hown
  exact ⟨A, c, xs, rfl, hl, hok, (shs_of_own hown).low (Nat.zero_le _), below_of_only hb hg hlt⟩

end Go.Proofs.Ytpmiafnccjejnaa
