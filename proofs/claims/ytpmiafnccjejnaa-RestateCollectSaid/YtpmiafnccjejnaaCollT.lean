/-
  Small facts for the last parts of restate.Collect.
-/
import Derived.Test.YtpmiafnccjejnaaInvK
import Derived.Test.YtpmiafnccjejnaaCollE
import Derived.Test.YtpmiafnccjejnaaShMem
namespace Go.Proofs.Ytpmiafnccjejnaa
open Go.RowKit Go.Maps
set_option linter.unusedVariables false

def mk2 (c : Int × Int) : Value := .agg #[.int .i64 c.1, .int .i64 c.2]
theorem inv2 (v : Value) (y : DataW Unit × List MemPlace) (h : R2 v = some y) : ∃ c, v = mk2 c := by
  obtain ⟨a, p, rfl, _⟩ := R2_inv h
  exact ⟨(a, p), rfl⟩
theorem invKH (key : Value) (kl : Lit) (h : keyOf Try.prog 50 key = some kl) : ∃ x, key = mkH x := by
  obtain ⟨x, e, _⟩ := invH h
  exact ⟨x, e⟩
theorem next_facts {l : List Sh} {D : DataW Unit} {x : H3} {c : Int × Int} {kl : Lit} {y : DataW Unit × List MemPlace} (hk : keyOf Try.prog 50 (mkH x) = some kl) (hv : R2 (mk2 c) = some y) (hat : ∀ zd, D.atKey kl zd = y.1) (hD : MapS l D) :
    x.ok ∧ kl = kL x ∧ c.1 = amtH l (sOf x) ∧ c.2 = paidH l (sOf x) := by
  obtain ⟨x', e, ho⟩ := invH hk
  obtain rfl : x = x' := by
    obtain ⟨a, b, c⟩ := x
    obtain ⟨d, e', f⟩ := x'
    unfold mkH at e
    simp at e
    simp [e]
  have hk2 := keyH x ho
  have : kl = kL x := by
    unfold mkH at hk
    rw [hk] at hk2
    injection hk2
  subst this
  have h1 := hat (D2 0 0)
  rw [hD.2 x ho] at h1
  obtain ⟨a, p, e1, e2⟩ := R2_inv hv
  unfold mk2 at e1
  simp at e1
  rw [e2] at h1
  obtain ⟨h2, h3⟩ := D2_inj (b := a) (q := p) h1
  exact ⟨ho, rfl, by omega, by omega⟩
theorem own_ne_map {H : Type} {P : Program} {t : TypeId} {R : Value → Option (DataW H × List MemPlace)} {w : World} {base b m n size : Nat} {e : TypeId} {v : Value} {xs : List Value} {D : DataW H} (h : w.ownsRow base e size v n xs) (hm : w.ownsMap P t R b m D) : some b ≠ v.ownBlock := by
  rcases h.2 with ⟨rfl, _⟩ | ⟨g, cap, cur, rfl, _, hh, _⟩
  · simp [Value.ownBlock]
  · obtain ⟨es, clock, hb, _⟩ := hm
    simp only [Value.ownBlock]
    intro e
    injection e with e
    subst e
    rw [hb] at hh; cases hh
theorem own_ne_iter {H : Type} {P : Program} {t : TypeId} {R : Value → Option (DataW H × List MemPlace)} {w : World} {base b r m n size cnt : Nat} {e : TypeId} {v : Value} {xs : List Value} {D : DataW H} {left : Lit → Bool} (h : w.ownsRow base e size v n xs) (hm : w.ranges P t R b r m D left cnt) : some r ≠ v.ownBlock := by
  rcases h.2 with ⟨rfl, _⟩ | ⟨g, cap, cur, rfl, _, hh, _⟩
  · simp [Value.ownBlock]
  · obtain ⟨es, clock, since, seen, c0, _, _, _, _, hb, _⟩ := hm
    simp only [Value.ownBlock]
    intro e
    injection e with e
    subst e
    rw [hb] at hh; cases hh
theorem flat_snoc3 {w : World} {base n : Nat} {e : TypeId} {v : Value} {ps : List H3} {x : H3} (h : w.ownsRow base e 3 v n (ps.flatMap H3.cells ++ H3.cells x)) : w.ownsRow base e 3 v n ((ps ++ [x]).flatMap H3.cells) := by
  have e1 : (ps ++ [x]).flatMap H3.cells = ps.flatMap H3.cells ++ H3.cells x := by simp
  rw [e1]; exact h
theorem shAt_next {l : List Sh} {qs : List H3} {j : Nat} {x : H3} (h : qs[j]? = some x) : ((qs.map (shAt l)).take j).flatMap Sh.cells ++ Sh.cells (shAt l x) = ((qs.map (shAt l)).take (j + 1)).flatMap Sh.cells := by
  rw [List.take_add_one, List.getElem?_map, h]; simp
theorem valid_shAt {l : List Sh} {x : H3} {c : Int × Int} (h1 : c.1 = amtH l (sOf x)) (h2 : c.2 = paidH l (sOf x)) : validS (shAt l x) = ((decide (-17592186044416 ≤ c.1) && decide (c.1 ≤ 17592186044416)) && (decide (-17592186044416 ≤ c.2) && decide (c.2 ≤ 17592186044416))) := by
  unfold validS shAt
  dsimp only
  rw [h1, h2]
  simp only [Bool.and_assoc]
theorem Try.infoH : (Try.prog.info? 50).map (fun i => (i.zero, i.size, i.bytes)) = some (some (.agg #[.int .i64 0, .int .i64 0, .int .i64 0]), 3, 24) := by kernel_rfl

end Go.Proofs.Ytpmiafnccjejnaa
