/-
  slices.Clone at []api.Window, treatyref25.SameWindows: their contracts.
-/
import Derived.Test.YtjbaildaifdgiaaTot
import Derived.Test.YtjbaildaifdgiaaEq2
import Derived.Test.YtjbaildaifdgiaaSame
import Derived.Lib.SliceRun
namespace Go.Proofs.Ytjbaildaifdgiaa
open Go.RowKit
set_option linter.unusedVariables false

theorem Try.infoWindow : (Try.prog.info? 69).map (fun i => (i.zero, i.size, i.bytes)) = some (some (.agg #[.int .i64 0, .int .i64 0, .int .i64 0]), 3, 24) := by kernel_rfl

theorem own_void (w : World) (e : TypeId) (size : Nat) : (w.alloc (.cells #[] e)).ownsRow w.heap.size e size (.slice (some ⟨w.heap.size, 0, none⟩) 0 0) 0 [] :=
  ⟨by simp, .inr ⟨w.heap.size, 0, #[], rfl, Nat.le_refl _, heap_alloc_new w _, Nat.le_refl _, Nat.zero_le _, by simp, by simp⟩⟩
/-- The cells of a slice that reads as a list, flat. -/
theorem sl_cells {α : Type} {enc : α → List Value} {k : Nat} (hk : ∀ x, (enc x).length = k) (hk0 : 0 < k) {w : World} {lo b off : Nat} {xs : List α} (h : Sl w lo k (some ⟨b, off, none⟩) (xs.map enc)) : ∀ (j : Nat) (u : Value), (xs.flatMap enc)[j]? = some u → w.cell? (({ block := b, off := off } : Addr).add j) = some u := by
  intro j u hu
  have hl : j < xs.length * k := by
    have := (List.getElem?_eq_some_iff.1 hu).1
    rwa [flat_len enc k hk] at this
  have hi : j / k < xs.length := Nat.div_lt_of_lt_mul (by rw [Nat.mul_comm]; exact hl)
  obtain ⟨x, hx, _⟩ := drop_cons hi
  have hf := flat_get enc k hk xs (j / k) x hx (j % k) (Nat.mod_lt _ hk0)
  have hj : j / k * k + j % k = j := Nat.div_add_mod' j k
  rw [hj, hu] at hf
  obtain ⟨b', off', e, _, _, hc⟩ := h.at_ (i := j / k) (x := enc x) (by simp [hx])
  obtain ⟨rfl, rfl⟩ : b = b' ∧ off = off' := by simpa using e
  have hcc := hc (j % k) u hf.symm
  rw [Nat.add_assoc, hj] at hcc
  have ha : (({ block := b, off := off } : Addr).add j) = ⟨b, off + j, none⟩ := by
    unfold Addr.add; split
    · rename_i h0; rw [h0]; simp
    · rfl
  rw [ha]; exact hcc

set_option maxHeartbeats 1000000 in
theorem clone_any (A : Option Addr) (c : Nat) (ws : List Win) (w : World) (hl : ws.length ≤ 1000) (hW : Wins w 0 A ws) :
    Calls Try.prog 52 #[.slice A ws.length c] w fun e w' => ∃ v, e = .returned v ∧ w'.ownsRow w.heap.size 69 3 v ws.length (ws.flatMap Win.cells) ∧ Below w.heap.size w w' := by
  have hq := fun wx => Lib.run_eql_slice_nil (P := Try.prog) wx 54 69 A ws.length c 0 0 Try.underlying54
  rcases A with _ | ad
  · have hw : ws = [] := by
      cases ws with
      | nil => rfl
      | cons x xs => obtain ⟨b, off, e, _⟩ := hW (by simp); cases e
    subst hw
    simp only [List.length_nil, Option.isNone_none] at hq ⊢
    go_enter Try.func52, Try.ntmps52
    go_wp2_with fail
    go_ret
    exact ⟨_, rfl, own_nil _ _ _ _, Below.refl _ _⟩
  · simp only [Option.isNone_some] at hq
    obtain ⟨i0, hi, hz0, hz1, hz2⟩ := info_parts Try.infoWindow
    have hnews : ∀ (j : Nat) (u : Value), (ws.flatMap Win.cells)[j]? = some u → (w.alloc (.cells #[] 69)).cell? (ad.add j) = some u := by
      intro j u hu
      have h0 : 0 < (ws.map Win.cells).length := by
        have := (List.getElem?_eq_some_iff.1 hu).1
        rw [flat_len Win.cells 3 (fun _ => rfl)] at this
        simp; omega
      obtain ⟨b, off, e, _⟩ := hW h0
      obtain rfl : ad = ⟨b, off, none⟩ := Option.some.inj e
      have hs : Sl (w.alloc (.cells #[] 69)) 0 3 (some ⟨b, off, none⟩) (ws.map Win.cells) := Wins.below hW (below_alloc1 _ _)
      exact sl_cells (enc := Win.cells) (k := 3) (fun _ => rfl) (by omega) hs j u hu
    obtain ⟨n, hn⟩ : ∃ n, n = ws.length := ⟨_, rfl⟩
    have HN := Lib.hid hn
    rw [← hn] at hl hq ⊢
    clear hn
    go_enter Try.func52, Try.ntmps52
    go_wp2_with (at_builtin; refine wpList_append_own _ rfl (.tmp 5) (.tmp 6) 54 rfl w.heap.size 69 i0 _ 3 24 Try.underlying54 hi hz0 hz1 hz2 rfl (by decide) _ 0 [] rfl (own_void w 69 3) ad n c (ws.flatMap Win.cells) rfl ?c0 hnews ?c2 ?c3 ?c4 ?c5 ?_)
    case c0 => rw [flat_len Win.cells 3 (fun _ => rfl), ← HN.out]
    case c2 =>
      intro u hu
      obtain ⟨x, _, hx⟩ := List.mem_flatMap.1 hu
      simp [Win.cells] at hx
      rcases hx with rfl | rfl | rfl <;> rfl
    case c3 => unfold maxLen; omega
    case c4 => omega
    case c5 => simp
    intro v' w5 hown5 hg5 _
    have hb45 : Below w.heap.size w w5 := (below_alloc1 w _).grown hg5 (by simp) (fun g hg => by simp [Value.ownBlock] at hg; omega)
    clear hq hnews
    go_wp2_with fail
    go_ret
    exact ⟨v', rfl, hown5, hb45⟩

set_option maxHeartbeats 1000000 in
theorem sameWindows_self (A B : Option Addr) (c d : Nat) (ws : List Win) (w : World) (hl : ws.length ≤ 9223372036854775807) (hA : Wins w 0 A ws) (hB : Wins w 0 B ws) :
    Calls Try.prog 54 #[.slice A ws.length c, .slice B ws.length d] w fun e w' => e = .returned (.bool true) ∧ Below w.heap.size w w' := by
  obtain ⟨n, hn⟩ : ∃ n, n = ws.length := ⟨_, rfl⟩
  rw [← hn] at hl ⊢
  have HN := Lib.hid hn
  clear hn
  go_enter Try.func54, Try.ntmps54
  go_wp2_with fail
  go_loopw [5, 13] (fun _ ii wr => ∃ i : Nat, ii = .int .i64 i ∧ i ≤ n ∧ Below w.heap.size w wr) (fun _ ii _ => n - (intOf ii).toNat)
  case atStart => exact ⟨0, rfl, Nat.zero_le _, Below.refl _ _⟩
  case round =>
    obtain ⟨i, rfl, hi, hb⟩ := hrel
    by_cases hin : i < n
    · obtain ⟨x, hx, _⟩ := drop_cons (xs := ws) (i := i) (by rw [← HN.out]; exact hin)
      obtain ⟨b1, o1, rfl, _, _, c0, c1, c2⟩ := (hA.below hb).at_ hx
      obtain ⟨b2, o2, rfl, _, _, e0, e1, e2⟩ := (hB.below hb).at_ hx
      clear hx
      go_wp2_with fail
      go_quiet (fail)
      go_wp2_with fail
      go_roundw
      case rel => exact ⟨i + 1, by go_num, by omega, below_drewN hb _⟩
      case measure => simp [intOf]; omega
    · go_wp2_with fail
      go_ret
      exact ⟨rfl, hb⟩

end Go.Proofs.Ytjbaildaifdgiaa
