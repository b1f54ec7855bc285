/-
  restate.Affected: its contract.
-/
import Derived.Test.YtpmiafnccjejnaaShMem
import Derived.Test.YtpmiafnccjejnaaSortW
import Derived.Test.YtpmiafnccjejnaaShelf
import Derived.Lib.SlicesCompact
namespace Go.Proofs.Ytpmiafnccjejnaa
open Go.RowKit
set_option linter.unusedVariables false

theorem Try.infoIntC : (Try.prog.info? 3).map (fun i => (i.zero, i.size, i.bytes)) = some (some (.int .i64 0), 1, 8) := by kernel_rfl
def affL (los : List Sh) : List Int := los.map Sh.loss
def affF (los : List Sh) : List Int := Lib.compact ((affL los).mergeSort fun x y => decide (x ≤ y))
theorem compact_len (zs : List Int) : (Lib.compact zs).length ≤ zs.length := by
  unfold Lib.compact Lib.compactUpTo
  rw [List.length_map]
  refine Nat.le_trans (List.length_filter_le _ _) ?_
  simp
theorem aff_next {los : List Sh} {k : Nat} {x : Sh} (h : los[k]? = some x) : (affL (los.take k)).flatMap V1 ++ V1 x.loss = (affL (los.take (k + 1))).flatMap V1 := by
  rw [List.take_add_one, h]; simp [affL]

set_option maxRecDepth 100000 in
set_option maxHeartbeats 1000000 in
theorem affected_any (A : Option Addr) (c : Nat) (los : List Sh) (w : World) (hll : los.length ≤ 1000) (hL : Shs w 0 A los) :
    Calls Try.prog 19 #[.slice A los.length c] w fun e w' => ∃ v, e = .returned v ∧ w'.ownsRow w.heap.size 3 1 v (affF los).length ((affF los).flatMap V1) ∧ Below w.heap.size w w' := by
  obtain ⟨n, hn⟩ : ∃ n, n = los.length := ⟨_, rfl⟩
  rw [← hn] at hll ⊢
  have HN := Lib.hid hn
  obtain ⟨i0, hi, hz0, hz1, hz2⟩ := info_parts Try.infoIntC
  obtain ⟨w0, hmk, hown0, hg0⟩ := run_make_own (P := Try.prog) w w.heap.size 23 3 i0 _ 1 Try.underlying23 hi hz0 hz1 .i64 .i64 n (by rw [hz2]; omega) (by unfold maxLen; omega) (Nat.le_refl _)
  have hb0 : Below w.heap.size w w0 := (Below.refl _ _).grown hg0 (Nat.le_refl _) (fun g h => by cases h)
  clear hn hg0
  go_enter Try.func19, Try.ntmps19
  go_wp2_with fail
  go_loopw [3, 5, 11] (fun v _ ii wr => ∃ (k g cap : Nat), k ≤ n ∧ ii = .int .i64 k ∧ v = .slice (some ⟨g, 0, none⟩) k cap ∧ wr.ownsRow w.heap.size 3 1 v k ((affL (los.take k)).flatMap V1) ∧ Below w.heap.size w wr) (fun _ _ ii _ => n - (intOf ii).toNat)
  case atStart => exact ⟨0, _, _, Nat.zero_le _, rfl, rfl, hown0, hb0⟩
  case round =>
    obtain ⟨k, g, cap, hk, rfl, rfl, hown, hb⟩ := hrel
    clear hmk hown0 hb0
    by_cases hkn : k < n
    · obtain ⟨x, hx, _⟩ := drop_cons (xs := los) (i := k) (by rw [← HN.out]; exact hkn)
      obtain ⟨b, off, rfl, _, hbl, c0, c1, c2, c3, c4⟩ := (hL.below hb).at_ hx
      have HX := Lib.hid hx
      clear hx
      obtain ⟨wb, hwb⟩ : ∃ wb : World, wb = wr.alloc (.cells #[.int .i64 x.loss, .int .i64 x.treaty, .int .i64 x.party, .int .i64 x.amt, .int .i64 x.paid] 41) := ⟨_, rfl⟩
      have hbb : Below wr.heap.size wr wb := by rw [hwb]; exact (Below.refl _ _).alloc (Nat.le_refl _) _
      have hownb := own_below hown hbb
      have hb0b := hb.trans (hbb.mono hb.size)
      have p4 : wb.cell? ⟨wr.heap.size, 0, none⟩ = some (.int .i64 x.loss) := by rw [hwb]; simp
      go_upto_region 5 with fail
      rw [← hwb]
      clear hwb c0 c1 c2 c3 c4 hown hbb
      go_wp2_with (at_builtin; refine wpList_append_own _ rfl (.tmp 15) (.tmp 18) 23 rfl w.heap.size 3 i0 _ 1 8 Try.underlying23 hi hz0 hz1 hz2 rfl (by decide) _ k _ rfl (own_below hownb ((Below.refl _ _).alloc (Nat.le_refl _) _)) ⟨wb.heap.size, 0, none⟩ 1 1 (V1 x.loss) rfl rfl ?c1 ?c2 ?c3 ?c4 ?c5 ?_)
      case c1 => exact cell_new wb (V1 x.loss) 3
      case c2 => intro u hu; simp [V1] at hu; rw [hu]; rfl
      case c3 => unfold maxLen; omega
      case c4 => omega
      case c5 => have := hb0b.size; simp; omega
      intro v' w8 hown8 hg8 _
      rw [aff_next HX.out] at hown8
      have hb08 : Below w.heap.size w w8 := ((hb0b.alloc hb0b.size _)).grown hg8 (by have := hb0b.size; simp; omega) (fun g' hg' => own_low hownb g' hg')
      rcases hown8.2 with ⟨_, h00⟩ | ⟨g8, cap8, cur8, rfl, _⟩
      · omega
      go_wp2_with fail
      go_roundw
      case rel => exact ⟨k + 1, g8, cap8, by omega, by go_num, rfl, hown8, hb08⟩
      case measure => simp [intOf]; omega
    · obtain rfl : k = n := by omega
      have hpl : Hid ((affL los).length = k) := by show (affL los).length = k; unfold affL; rw [List.length_map]; exact HN.out.symm
      rw [List.take_of_length_le (by rw [← HN.out]; exact Nat.le_refl _)] at hown
      have hms : Hid (((affL los).mergeSort fun x y => decide (x ≤ y)).length = k) := by show _ = k; rw [List.length_mergeSort]; exact hpl.out
      by_cases hk0 : k = 0
      · obtain rfl : k = 0 := hk0
        have hpf : Hid (affF los = []) := by
          have h0 : affL los = [] := List.eq_nil_of_length_eq_zero hpl.out
          show affF los = []
          refine List.eq_nil_of_length_eq_zero (Nat.le_zero.1 ?_)
          unfold affF
          refine Nat.le_trans (compact_len _) ?_
          rw [List.length_mergeSort, h0]; exact Nat.le_refl _
        go_wp2_with fail
        refine (Try.slices_Sort_int_none _ _ _).mono ?_
        rintro e w' ⟨rfl, rfl⟩
        go_wp2_with fail
        refine (Try.slices_Compact_int_empty _ _ _).mono ?_
        rintro e w' ⟨rfl, rfl⟩
        go_wp2_with fail
        go_ret
        refine ⟨_, rfl, ?_, hb⟩
        rw [hpf.out]
        rw [List.eq_nil_of_length_eq_zero hpl.out] at hown
        exact hown
      · have hglt := own_lt hown g rfl
        have hgw := own_low hown g rfl
        have CS := Lib.hid (Try.slices_Sort_int g 0 cap (affL los) wr (holds_of_own hown hpl.out.symm) hglt (by rw [hpl.out]; omega))
        have hncap : k ≤ cap := by
          obtain ⟨A', c', hv, hle⟩ := own_shape hown
          injection hv with _ _ h3; omega
        rw [hpl.out] at CS
        go_wp2_with fail
        refine CS.out.mono ?_
        rintro e w' ⟨rfl, q, os, hw'⟩
        have k1 := grown_putRow (Value.int .i64) wr q g 0 ((affL los).mergeSort fun x y => decide (x ≤ y)).toArray
        have o1 := own_putRow (q := q) hown ((affL los).mergeSort fun x y => decide (x ≤ y)) hms.out
        have k2 := grown_grow (Sort.putRow (Value.int .i64) (Sort.ahead wr q) g 0 ((affL los).mergeSort fun x y => decide (x ≤ y)).toArray) os
        rw [← hw'] at k2
        have o2 := o1.kept k2 (by simp [Value.ownBlock])
        have hb1 : Below w.heap.size w w' := (hb.grown k1 hb.size (fun g' hg' => by injection hg' with hg'; omega)).grown k2 (Nat.le_trans hb.size k1.size) (fun g' hg' => by cases hg')
        have CC := Lib.hid (Try.slices_Compact_int g 0 cap ((affL los).mergeSort fun x y => decide (x ≤ y)) w' (holds_of_own o2 hms.out.symm) (by rw [hms.out]; omega) (by rw [hms.out]; exact hncap))
        have hcl := Lib.hid (compact_len ((affL los).mergeSort fun x y => decide (x ≤ y)))
        rw [hms.out] at CC hcl
        clear hw' k1 o1 k2 hown CS
        go_wp2_with fail
        refine CC.out.mono ?_
        rintro e w3 ⟨rfl, q3, hw3⟩
        have k3 := grown_putRow (Value.int .i64) w' q3 g 0 (Lib.compact ((affL los).mergeSort fun x y => decide (x ≤ y)) ++ List.replicate (k - (Lib.compact ((affL los).mergeSort fun x y => decide (x ≤ y))).length) 0).toArray
        have o3 := own_putRow (q := q3) o2 (Lib.compact ((affL los).mergeSort fun x y => decide (x ≤ y)) ++ List.replicate (k - (Lib.compact ((affL los).mergeSort fun x y => decide (x ≤ y))).length) 0) (by rw [List.length_append, List.length_replicate]; have := hcl.out; omega)
        rw [← hw3] at k3 o3
        have o4 := own_cut o3 rfl hcl.out
        have hb3 : Below w.heap.size w w3 := hb1.grown k3 hb1.size (fun g' hg' => by injection hg' with hg'; omega)
        clear hw3 k3 o3 o2 CC
        go_wp2_with fail
        go_ret
        exact ⟨_, rfl, o4, hb3⟩

end Go.Proofs.Ytpmiafnccjejnaa
