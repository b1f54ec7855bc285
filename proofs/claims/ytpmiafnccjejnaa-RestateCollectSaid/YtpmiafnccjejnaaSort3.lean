/-
  slices.SortFunc at headings: a permutation in order, in the same row.
-/
import Derived.Test.YtpmiafnccjejnaaCmp3
namespace Go.Proofs.Ytpmiafnccjejnaa
open Go.RowKit Go.Sort
set_option linter.unusedVariables false

theorem isAggH (w : World) : (isAgg 50).run Try.prog w = .ok true w := by kernel_rfl
theorem sizeH (w : World) : (Go.sizeOf 50).run Try.prog w = .ok 3 w := by kernel_rfl
theorem sortH (g cap base n : Nat) (ds : List H3) (w : World) (hown : w.ownsRow base 50 3 (.slice (some ⟨g, 0, none⟩) n cap) n (ds.flatMap H3.cells)) (hdl : n = ds.length) (hl : n ≤ 70000) :
    Calls Try.prog 28 #[.slice (some ⟨g, 0, none⟩) n cap, .func (.func 29) #[] #[]] w fun e w' => e = .returned (.tuple #[]) ∧
      ∃ qs : List H3, qs.Perm ds ∧ qs.Pairwise (fun a b => ¬ h3Lt b a) ∧ w'.ownsRow base 50 3 (.slice (some ⟨g, 0, none⟩) n cap) n (qs.flatMap H3.cells) ∧ w.grownBy w' (some g) := by
  have eg : ∀ args w, (callFunc 29 args).run Try.prog w = .ok (.enter 29 args) w := enters_of Try.func29 (by kernel_rfl) rfl
  have hH : HoldsK H3.cells 3 w g 0 ds.toArray := holdsK_of_own (enc := H3.cells) (k := 3) (fun _ => rfl) (by omega) hown hdl
  have hcon := AnyQ.slices_SortFunc Try.sort3int 3 isAggH sizeH H3.cells (fun _ => rfl) (fun x v hv => by simp [H3.cells] at hv; rcases hv with rfl | rfl | rfl <;> rfl) cmpH swoH 29 #[] g 0 cap ds.toArray w eg (cmpLaysH g 0 ds.toArray.size w) hH (own_lt hown g rfl) (by simp only [List.size_toArray]; omega)
  change Calls Try.prog 28 _ _ _ at hcon
  have hsz : ds.toArray.size = n := by simp [hdl]
  rw [hsz] at hcon
  refine hcon.mono ?_
  rintro e w' ⟨rfl, d', q, os, hpm, hst, rfl⟩
  rw [← hsz] at hpm hst
  obtain ⟨h1, h2⟩ := sorted_list hpm hst
  refine ⟨rfl, d'.toList, h1, ?_, ?_, ?_⟩
  · refine h2.imp ?_
    intro a b hab
    unfold ltOf at hab
    have := of_decide_eq_false hab
    rw [cmpH_neg] at this
    exact this
  · have hlen : d'.toList.length = n := by rw [h1.length_eq]; exact hdl.symm
    have o := own_sortK (enc := H3.cells) (k := 3) (fun _ => rfl) (by omega) (q := q) hown d'.toList hlen
    exact o.kept (grown_grow _ os) (by simp [Value.ownBlock])
  · exact only_grown (grown_putRow id w q g 0 _) (grown_grow _ os) (fun g' h => by cases h)

end Go.Proofs.Ytpmiafnccjejnaa
