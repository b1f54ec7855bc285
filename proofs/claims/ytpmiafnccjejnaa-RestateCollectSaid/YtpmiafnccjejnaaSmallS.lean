/-
  Small lists of shares: no error in differences and sums. Plain Lean.
-/
import Derived.Test.YtpmiafnccjejnaaAwake32
namespace Go.Proofs.Ytpmiafnccjejnaa
open Go.RowKit
set_option linter.unusedVariables false

theorem bd_more {M K : Int} {l : List Sh} (h : ∀ x ∈ l, BdS M x) (hk : M ≤ K) : ∀ x ∈ l, BdS K x := fun x hx => by
  have := h x hx
  unfold BdS at *; omega
theorem bd_neg {M : Int} {l : List Sh} (h : ∀ x ∈ l, BdS M x) : ∀ x ∈ l.map negS, BdS M x := fun x hx => by
  obtain ⟨y, hy, rfl⟩ := List.mem_map.1 hx
  have := h y hy
  unfold BdS negS at *; dsimp only; omega
theorem bd_app {M : Int} {l k : List Sh} (h : ∀ x ∈ l, BdS M x) (h' : ∀ x ∈ k, BdS M x) : ∀ x ∈ l ++ k, BdS M x := fun x hx => (List.mem_append.1 hx).elim (h x) (h' x)
theorem mul_bd {M : Int} {n : Nat} (h0 : 0 ≤ M) (hM : M ≤ 1000000) (hn : n ≤ 400) : M * n ≤ M * 400 ∧ M * 400 ≤ 400000000 := by
  have : M * (n : Int) ≤ M * 400 := Int.mul_le_mul_of_nonneg_left (by omega) h0
  omega
theorem col_small {M : Int} {l : List Sh} (h0 : 0 ≤ M) (hM : M ≤ 1000000) (h : ∀ x ∈ l, BdS M x) (hl : l.length ≤ 400) (hok : ∀ x ∈ l, x.ok) :
    colErr l = 0 ∧ colR l = colF l ∧ (∀ x ∈ colF l, BdS (M * 400) x) ∧ (∀ x ∈ colF l, x.ok) := by
  obtain ⟨h1, h2⟩ := mul_bd (n := l.length) h0 hM hl
  have e : colErr l = 0 := colErr_small h0 h (by omega) (by omega) (by omega)
  refine ⟨e, by unfold colR; rw [if_pos e], bd_more (col_bd h0 h) h1, fun x hx => ?_⟩
  obtain ⟨y, hy, s1, s2, s3⟩ := colF_head l x hx
  have := hok y hy
  unfold Sh.ok at *
  rw [← s1, ← s2, ← s3]; exact this
theorem diff_small {M : Int} {a b : List Sh} (h0 : 0 ≤ M) (hM : M ≤ 1000000) (ha : ∀ x ∈ a, BdS M x) (hb : ∀ x ∈ b, BdS M x) (la : a.length ≤ 200) (lb : b.length ≤ 200) (oa : ∀ x ∈ a, x.ok) (ob : ∀ x ∈ b, x.ok) :
    diffErr a b = 0 ∧ diffR a b = diffF a b ∧ (diffF a b).length ≤ a.length + b.length ∧ (∀ x ∈ diffF a b, BdS (M * 400) x) ∧ (∀ x ∈ diffF a b, x.ok) := by
  have e : chkErr a b = 0 := by
    unfold chkErr
    rw [(col_small h0 hM ha (by omega) oa).1, (col_small h0 hM hb (by omega) ob).1]; rfl
  have hl : (b ++ a.map negS).length ≤ a.length + b.length := by simp; omega
  obtain ⟨h1, h2, h3, h4⟩ := col_small h0 hM (bd_app hb (bd_neg ha)) (by omega) (fun s hs => (List.mem_append.1 hs).elim (ob s) (negS_ok oa s))
  unfold diffErr diffR
  rw [e, h1, h2]
  exact ⟨rfl, rfl, Nat.le_trans (colF_len _) hl, h3, h4⟩
theorem apply_small {M : Int} {a b : List Sh} (h0 : 0 ≤ M) (hM : M ≤ 1000000) (ha : ∀ x ∈ a, BdS M x) (hb : ∀ x ∈ b, BdS M x) (la : a.length ≤ 200) (lb : b.length ≤ 200) (oa : ∀ x ∈ a, x.ok) (ob : ∀ x ∈ b, x.ok) :
    applyErr a b = 0 ∧ applyR a b = applyF a b := by
  have e : chkErr a b = 0 := by
    unfold chkErr
    rw [(col_small h0 hM ha (by omega) oa).1, (col_small h0 hM hb (by omega) ob).1]; rfl
  obtain ⟨h1, h2, h3, h4⟩ := col_small h0 hM (bd_app ha hb) (by simp; omega) (fun s hs => (List.mem_append.1 hs).elim (oa s) (ob s))
  unfold applyErr applyR
  rw [e, h1, h2]
  exact ⟨rfl, rfl⟩

end Go.Proofs.Ytpmiafnccjejnaa
