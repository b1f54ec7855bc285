/-
  treatyref30.Affected: its contract.
-/
import Derived.Test.YtpmiafnccjejnaaAffected
import Derived.Test.YtpmiafnccjejnaaSrcI
import Derived.Test.YtpmiafnccjejnaaRDiff
import Derived.Deep.DeepCutAuto
import Derived.Outline
namespace Go.Proofs.Ytpmiafnccjejnaa
open Go.RowKit
set_option linter.unusedVariables false

theorem affF_eq (los : List Sh) : affF los = insAll (affL los) := compact_sorted _
theorem aff_ins {los : List Sh} {i : Nat} {s : Sh} (h : los[i]? = some s) : insAll (affL (los.take (i + 1))) = insI (insAll (affL (los.take i))) s.loss := by
  unfold affL insAll
  rw [take_next h, List.map_append, List.foldl_append]; rfl
theorem val_slice {A : Option Addr} {n n' c : Nat} (h : n = n') : Value.slice A n c = .slice A n' c := by rw [h]

set_option maxRecDepth 100000 in
set_option maxHeartbeats 4000000 in
theorem raffected_any (A : Option Addr) (c0 : Nat) (los : List Sh) (w : World) (hll : los.length ≤ 1000) (hL : Shs w 0 A los) :
    Calls Try.prog 20 #[.slice A los.length c0] w fun e w' => ∃ (B : Option Addr) (d : Nat), e = .returned (.slice B (affF los).length d) ∧ Ints w' 0 B (affF los) ∧ Below w.heap.size w w' := by
  obtain ⟨n, hn⟩ : ∃ n, n = los.length := ⟨_, rfl⟩
  rw [← hn] at hll ⊢
  have HN := Lib.hid hn
  clear hn
  obtain ⟨i0, hi, hz0, hz1, hz2⟩ := info_parts Try.infoIntC
  go_enter Try.func20, Try.ntmps20
  go_wp2_with fail
  go_loopw [3, 4, 5, 8] (fun v _ _ ii wr => ∃ (i : Nat) (V : Option Addr) (m d : Nat), i ≤ n ∧ ii = .int .i64 i ∧ v = .slice V m d ∧ Hid (m = (insAll (affL (los.take i))).length) ∧ m ≤ d ∧ d ≤ 9223372036854775807 ∧ (V = none → d = 0) ∧ Flat V ∧ Ints wr 0 V (insAll (affL (los.take i))) ∧ Below w.heap.size w wr ∧ m ≤ i) (fun _ _ _ ii _ => n - (intOf ii).toNat)
  case atStart => exact ⟨0, none, 0, 0, Nat.zero_le _, rfl, rfl, rfl, Nat.le_refl _, by omega, fun _ => rfl, .inl rfl, Sl.none_, Below.refl _ _, Nat.le_refl _⟩
  case round =>
    obtain ⟨i, V, m, c, hi', rfl, rfl, HM, hlc, hcm, hAn, hAf, hX, hb, hmi⟩ := hrel
    by_cases hin : i < n
    case neg =>
      obtain rfl : i = n := by omega
      rw [List.take_of_length_le (by rw [← HN.out]; exact Nat.le_refl _), ← affF_eq] at HM hX
      go_wp2_with fail
      go_ret
      exact ⟨V, c, by rw [← HM.out]; rfl, hX, hb⟩
    obtain ⟨s, hs, _⟩ := drop_cons (xs := los) (i := i) (by rw [← HN.out]; exact hin)
    have HNX := Lib.hid (aff_ins hs)
    have HS := Lib.hid hs
    clear hs
    obtain ⟨xs, hxs⟩ : ∃ x, x = insAll (affL (los.take i)) := ⟨_, rfl⟩
    rw [← hxs] at HM hX HNX
    clear hxs
    obtain ⟨wo, hwo⟩ : ∃ x : World, x = wr := ⟨_, rfl⟩
    rw [← hwo] at hX hb ⊢
    clear hwo
    have hl2 : m ≤ 1000 := by omega
    go_wp2_with fail
    go_loopw [5] (fun kk wr => ∃ k : Nat, kk = .int .i64 k ∧ k ≤ m ∧ Hid (insI xs s.loss = xs.take k ++ insI (xs.drop k) s.loss) ∧ Below wo.heap.size wo wr) (fun kk _ => m - (intOf kk).toNat)
    case atStart => exact ⟨0, rfl, Nat.zero_le _, (by show _ = _; simp), Below.refl _ _⟩
    case round =>
      obtain ⟨k, rfl, hk, HI, hbk⟩ := hrel
      have hb0r := hb.trans (hbk.mono hb.size)
      obtain ⟨b9, off9, rfl, _, hbl9, l0, _, _, _, _⟩ := (hL.below hb0r).at_ HS.out
      by_cases hkm : k < m
      · obtain ⟨x, hx, hd⟩ := drop_cons (xs := xs) (i := k) (by rw [← HM.out]; exact hkm)
        obtain ⟨b, off, rfl, _, hbl, x0⟩ := (hX.below hbk).at_ hx
        have HXX := Lib.hid hx
        have HD := Lib.hid hd
        clear hx hd
        have q3 : ((k : Int) == (m : Int)) = false := by simp; omega
        have q4 : (k == m) = false := by simp; omega
        by_cases hlt : x < s.loss
        · have q1 : decide (x < s.loss) = true := by simpa using hlt
          have q0 : decide ((k : Int) < (m : Int)) = true := by simp; omega
          have HI2 := Lib.hid (insI_skip HD.out HXX.out hlt _ HI.out)
          clear hlt
          go_wp2_with fail
          go_quiet (fail)
          go_wp2_with fail
          go_roundw
          case rel => exact ⟨k + 1, by go_num, by omega, HI2, below_drewN hbk _⟩
          case measure => simp [intOf]; omega
        · have q1 : decide (x < s.loss) = false := by simpa using hlt
          by_cases heq : x = s.loss
          · have q2 : (x != s.loss) = false := by simpa using heq
            have HI2 := Lib.hid (insI_stop HD.out hlt _ HI.out)
            have HI3 : Hid (insI xs s.loss = xs) := by show insI xs s.loss = xs; rw [HI2.out, if_pos heq]
            clear hlt heq
            go_wp2_with fail
            go_quiet (fail)
            go_wp2_with fail
            go_quiet (fail)
            go_wp2_with fail
            go_roundw
            case rel => exact ⟨i + 1, _, m, c, by omega, by go_num, rfl, (by rw [HNX.out, HI3.out]; exact HM), hlc, hcm, hAn, hAf, (by rw [HNX.out, HI3.out]; exact (hX.below hbk).drewN (_ + _)), below_drewN hb0r _, by omega⟩
            case measure => simp [intOf]; omega
          · have q2 : (x != s.loss) = true := by simpa using heq
            have HI2 := Lib.hid (insI_stop HD.out hlt _ HI.out)
            have HIF : Hid (insI xs s.loss = xs.take k ++ (s.loss :: xs.drop k)) := by show _ = _; rw [HI2.out, if_neg heq]
            have HIL : Hid ((insI xs s.loss).length = m + 1) := by show _ = _; rw [HIF.out, List.length_append, List.length_cons, List.length_take, List.length_drop, ← HM.out]; omega
            clear hlt heq
            have hkc : k ≤ c := by omega
            go_wp2_with fail
            go_quiet (fail)
            obtain ⟨wq, hwq⟩ : ∃ x : World, x = wr.drewN nq := ⟨_, rfl⟩
            have hbq : Below wo.heap.size wo wq := by rw [hwq]; exact below_drewN hbk _
            have l1 : wq.cell? ⟨b9, off9 + i * 5, none⟩ = some (.int .i64 s.loss) := by rw [hwq]; exact l0
            have hbl8 : b9 < wq.heap.size := by rw [hwq]; exact hbl9
            have x1 : wq.cell? ⟨b, off + k, none⟩ = some (.int .i64 x) := by rw [hwq]; exact x0
            rw [← hwq]
            clear hwq l0 x0 hbk hb0r
            go_wp2_with fail
            go_quiet (fail)
            obtain ⟨wx, hwx⟩ : ∃ x : World, x = wq.drewN nq := ⟨_, rfl⟩
            have hbx : Below wo.heap.size wo wx := by rw [hwx]; exact below_drewN hbq _
            have l2 : wx.cell? ⟨b9, off9 + i * 5, none⟩ = some (.int .i64 s.loss) := by rw [hwx]; exact l1
            have hbl7 : b9 < wx.heap.size := by rw [hwx]; exact hbl8
            have hb0x := hb.trans (hbx.mono hb.size)
            have hXx := hX.below hbx
            rw [← hwx]
            clear hwx l1 x1 hbq
            have HT : Hid (∀ W, Below wx.heap.size wx W → Src W (some ⟨b, off, none⟩) k c (xs.take k)) := fun W h => src_take (hXx.below h) (by rw [← HM.out]; omega)
            have HDR : Hid (∀ W, Below wx.heap.size wx W → Src W (if c = k then some ⟨b, off, none⟩ else some ⟨b, off + k, none⟩) (m - k) (c - k) (xs.drop k)) := fun W h => src_drop (hXx.below h) HM.out (by omega) hlc
            go_wp2_with fail
            go_region_law (first
              | (refine step_append_src rfl (.tmp 45) (.tmp 48) 23 rfl wx.heap.size 3 i0 _ Try.underlying23 hi hz0 hz1 hz2 rfl (.slice (some ⟨wx.heap.size, 0, none⟩) 0 0) 0 [] (by first | rfl | (simp [Act.eval]; done)) (own_e1 _ _) (some ⟨b, off, none⟩) k c (xs.take k) (by first | rfl | (simp [Act.eval]; done)) (HT.out _ (by repeat (first | exact Below.refl _ _ | refine Below.drew ?_ | refine Below.alloc ?_ (by simp) _))) (by omega) (by first | (simp; done) | (simp; omega)) ?_; intro v1 w1 hown1 hg1; have hb1 : Below wx.heap.size wx w1 := below_own (by repeat (first | exact Below.refl _ _ | refine Below.drew ?_ | refine Below.alloc ?_ (by simp) _)) (own_e1 _ _) hg1; have l3 : w1.cell? ⟨b9, off9 + i * 5, none⟩ = some (.int .i64 s.loss) := (hb1.cell (p := ⟨b9, off9 + i * 5, none⟩) hbl7).trans l2; obtain ⟨V1', c1', rfl, _⟩ := own_shape hown1; simp only [Nat.zero_add, List.nil_append] at hown1 ⊢)
              | (refine step_append_src rfl (.tmp 45) (.tmp 48) 23 rfl wx.heap.size 3 i0 _ Try.underlying23 hi hz0 hz1 hz2 rfl (.slice (some ⟨wx.heap.size, 0, none⟩) 0 0) 0 [] (by first | rfl | (simp [Act.eval]; done)) (own_e2 _ _ _) (some ⟨b, off, none⟩) k c (xs.take k) (by first | rfl | (simp [Act.eval]; done)) (HT.out _ (by repeat (first | exact Below.refl _ _ | refine Below.drew ?_ | refine Below.alloc ?_ (by simp) _))) (by omega) (by first | (simp; done) | (simp; omega)) ?_; intro v1 w1 hown1 hg1; have hb1 : Below wx.heap.size wx w1 := below_own (by repeat (first | exact Below.refl _ _ | refine Below.drew ?_ | refine Below.alloc ?_ (by simp) _)) (own_e2 _ _ _) hg1; have l3 : w1.cell? ⟨b9, off9 + i * 5, none⟩ = some (.int .i64 s.loss) := (hb1.cell (p := ⟨b9, off9 + i * 5, none⟩) hbl7).trans l2; have hone : w1.heap[wx.heap.size + 1]? = some (.cells #[.int .i64 s.loss] 3 (0, 0)) := (hg1.block _ (by simp) (by simp [Value.ownBlock])).trans (heap_2nd _ _ _); obtain ⟨V1', c1', rfl, _⟩ := own_shape hown1; simp only [Nat.zero_add, List.nil_append] at hown1 ⊢)
              | (refine step_append_src rfl (.tmp 45) (.tmp 48) 23 rfl wx.heap.size 3 i0 _ Try.underlying23 hi hz0 hz1 hz2 rfl (.slice (some ⟨wx.heap.size + 1, 0, none⟩) 0 0) 0 [] (by first | rfl | (simp [Act.eval]; done)) (own_e3 _ _ _) (some ⟨b, off, none⟩) k c (xs.take k) (by first | rfl | (simp [Act.eval]; done)) (HT.out _ (by repeat (first | exact Below.refl _ _ | refine Below.drew ?_ | refine Below.alloc ?_ (by simp) _))) (by omega) (by first | (simp; done) | (simp; omega)) ?_; intro v1 w1 hown1 hg1; have hb1 : Below wx.heap.size wx w1 := below_own (by repeat (first | exact Below.refl _ _ | refine Below.drew ?_ | refine Below.alloc ?_ (by simp) _)) (own_e3 _ _ _) hg1; have l3 : w1.cell? ⟨b9, off9 + i * 5, none⟩ = some (.int .i64 s.loss) := (hb1.cell (p := ⟨b9, off9 + i * 5, none⟩) hbl7).trans l2; have hone : w1.heap[wx.heap.size]? = some (.cells #[.int .i64 s.loss] 3 (0, 0)) := (hg1.block _ (by simp; omega) (by simp [Value.ownBlock])).trans ((Below.heap_alloc _ _ _ (by simp)).trans (heap_alloc_new _ _)); obtain ⟨V1', c1', rfl, _⟩ := own_shape hown1; simp only [Nat.zero_add, List.nil_append] at hown1 ⊢)
              | (refine step_append_src rfl (.tmp 49) (.tmp 55) 23 rfl wx.heap.size 3 i0 _ Try.underlying23 hi hz0 hz1 hz2 rfl (.slice V1' k c1') k _ (by first | rfl | (simp [Act.eval]; done)) (own_below hown1 ((Below.refl _ _).alloc (Nat.le_refl _) _)) (some ⟨w1.heap.size, 0, none⟩) 1 1 [s.loss] (by first | rfl | (simp [Act.eval]; done)) (src_one (heap_alloc_new _ _)) (by omega) (by have := hb1.size; simp; omega) ?_; intro v2 w2 hown2 hg2; have hb2 : Below wx.heap.size wx w2 := below_own (hb1.alloc hb1.size _) (own_below hown1 ((Below.refl _ _).alloc (Nat.le_refl _) _)) hg2; obtain ⟨V2', c2', rfl, _⟩ := own_shape hown2)
              | (refine step_append_src rfl (.tmp 49) (.tmp 55) 23 rfl wx.heap.size 3 i0 _ Try.underlying23 hi hz0 hz1 hz2 rfl (.slice V1' k c1') k _ (by first | rfl | (simp [Act.eval]; done)) (hown1) (some ⟨wx.heap.size + 1, 0, none⟩) 1 1 [s.loss] (by first | rfl | (simp [Act.eval]; done)) (src_one hone) (by omega) (hb1.size) ?_; intro v2 w2 hown2 hg2; have hb2 : Below wx.heap.size wx w2 := below_own (hb1) (hown1) hg2; obtain ⟨V2', c2', rfl, _⟩ := own_shape hown2)
              | (refine step_append_src rfl (.tmp 49) (.tmp 55) 23 rfl wx.heap.size 3 i0 _ Try.underlying23 hi hz0 hz1 hz2 rfl (.slice V1' k c1') k _ (by first | rfl | (simp [Act.eval]; done)) (hown1) (some ⟨wx.heap.size, 0, none⟩) 1 1 [s.loss] (by first | rfl | (simp [Act.eval]; done)) (src_one hone) (by omega) (hb1.size) ?_; intro v2 w2 hown2 hg2; have hb2 : Below wx.heap.size wx w2 := below_own (hb1) (hown1) hg2; obtain ⟨V2', c2', rfl, _⟩ := own_shape hown2)
              | (refine step_append_src rfl (.tmp 56) (.tmp 59) 23 rfl wx.heap.size 3 i0 _ Try.underlying23 hi hz0 hz1 hz2 rfl (.slice V2' (k + 1) c2') (k + 1) _ (by first | rfl | (simp [Act.eval]; done)) hown2 (if c = k then some ⟨b, off, none⟩ else some ⟨b, off + k, none⟩) (m - k) (c - k) (xs.drop k) (by first | rfl | (simp [Act.eval]; done)) (HDR.out _ hb2) (by omega) hb2.size ?_; intro v3 w3 hown3 hg3; have hb3 : Below wx.heap.size wx w3 := below_own hb2 hown2 hg3; obtain ⟨V3', c3', rfl, hc3'⟩ := own_shape hown3))
            all_goals go_wp2_with fail
            all_goals go_roundw
            all_goals first | (have hcm3 := own_cap hown3; unfold maxLen at hcm3; exact ⟨i + 1, V3', m + 1, c3', by omega, by go_num, by first | rfl | exact val_slice (by omega), (by show _ = _; rw [HNX.out, HIL.out]), by omega, by omega, (fun h => by subst h; exact own_nocap hown3), own_flat hown3, (by rw [HNX.out, HIF.out]; exact (ints_of_ownS hown3 (by simp)).low (Nat.zero_le _)), hb0x.trans (hb3.mono hb0x.size), by omega⟩) | (simp [intOf]; omega)
      · obtain rfl : k = m := by omega
        have q3 : ((k : Int) == (k : Int)) = true := by simp
        have q4 : (k == k) = true := by simp
        have HIF := Lib.hid (insI_end HM.out _ HI.out)
        have HIL : Hid ((insI xs s.loss).length = k + 1) := by show _ = _; rw [HIF.out, List.length_append, List.length_cons, List.length_take, List.length_drop, ← HM.out]; omega
        rcases hAf with rfl | ⟨b, off, rfl⟩
        · obtain rfl : c = 0 := hAn rfl
          obtain rfl : k = 0 := by omega
          clear hAn
          go_wp2_with fail
          go_quiet (fail)
          obtain ⟨wq, hwq⟩ : ∃ x : World, x = wr.drewN nq := ⟨_, rfl⟩
          have hbq : Below wo.heap.size wo wq := by rw [hwq]; exact below_drewN hbk _
          have l1 : wq.cell? ⟨b9, off9 + i * 5, none⟩ = some (.int .i64 s.loss) := by rw [hwq]; exact l0
          have hbl8 : b9 < wq.heap.size := by rw [hwq]; exact hbl9
          rw [← hwq]
          clear hwq l0 hbk hb0r
          go_wp2_with fail
          go_quiet (fail)
          obtain ⟨wx, hwx⟩ : ∃ x : World, x = wq.drewN nq := ⟨_, rfl⟩
          have hbx : Below wo.heap.size wo wx := by rw [hwx]; exact below_drewN hbq _
          have l2 : wx.cell? ⟨b9, off9 + i * 5, none⟩ = some (.int .i64 s.loss) := by rw [hwx]; exact l1
          have hbl7 : b9 < wx.heap.size := by rw [hwx]; exact hbl8
          have hb0x := hb.trans (hbx.mono hb.size)
          have hXx := hX.below hbx
          rw [← hwx]
          clear hwx l1 hbq
          have HT : Hid (∀ W, Below wx.heap.size wx W → Src W none 0 0 (xs.take 0)) := fun W h => .inl ⟨rfl, rfl, rfl, by simp⟩
          have HDR : Hid (∀ W, Below wx.heap.size wx W → Src W none 0 0 (xs.drop 0)) := fun W h => .inl ⟨rfl, rfl, rfl, by simp; exact List.eq_nil_of_length_eq_zero HM.out.symm⟩
          go_wp2_with fail
          go_region_law (first
            | (refine step_append_src rfl (.tmp 45) (.tmp 48) 23 rfl wx.heap.size 3 i0 _ Try.underlying23 hi hz0 hz1 hz2 rfl (.slice (some ⟨wx.heap.size, 0, none⟩) 0 0) 0 [] (by first | rfl | (simp [Act.eval]; done)) (own_e1 _ _) none 0 0 (xs.take 0) (by first | rfl | (simp [Act.eval]; done)) (HT.out _ (by repeat (first | exact Below.refl _ _ | refine Below.drew ?_ | refine Below.alloc ?_ (by simp) _))) (by omega) (by first | (simp; done) | (simp; omega)) ?_; intro v1 w1 hown1 hg1; have hb1 : Below wx.heap.size wx w1 := below_own (by repeat (first | exact Below.refl _ _ | refine Below.drew ?_ | refine Below.alloc ?_ (by simp) _)) (own_e1 _ _) hg1; have l3 : w1.cell? ⟨b9, off9 + i * 5, none⟩ = some (.int .i64 s.loss) := (hb1.cell (p := ⟨b9, off9 + i * 5, none⟩) hbl7).trans l2; obtain ⟨V1', c1', rfl, _⟩ := own_shape hown1; simp only [Nat.zero_add, List.nil_append] at hown1 ⊢)
            | (refine step_append_src rfl (.tmp 45) (.tmp 48) 23 rfl wx.heap.size 3 i0 _ Try.underlying23 hi hz0 hz1 hz2 rfl (.slice (some ⟨wx.heap.size, 0, none⟩) 0 0) 0 [] (by first | rfl | (simp [Act.eval]; done)) (own_e2 _ _ _) none 0 0 (xs.take 0) (by first | rfl | (simp [Act.eval]; done)) (HT.out _ (by repeat (first | exact Below.refl _ _ | refine Below.drew ?_ | refine Below.alloc ?_ (by simp) _))) (by omega) (by first | (simp; done) | (simp; omega)) ?_; intro v1 w1 hown1 hg1; have hb1 : Below wx.heap.size wx w1 := below_own (by repeat (first | exact Below.refl _ _ | refine Below.drew ?_ | refine Below.alloc ?_ (by simp) _)) (own_e2 _ _ _) hg1; have l3 : w1.cell? ⟨b9, off9 + i * 5, none⟩ = some (.int .i64 s.loss) := (hb1.cell (p := ⟨b9, off9 + i * 5, none⟩) hbl7).trans l2; have hone : w1.heap[wx.heap.size + 1]? = some (.cells #[.int .i64 s.loss] 3 (0, 0)) := (hg1.block _ (by simp) (by simp [Value.ownBlock])).trans (heap_2nd _ _ _); obtain ⟨V1', c1', rfl, _⟩ := own_shape hown1; simp only [Nat.zero_add, List.nil_append] at hown1 ⊢)
            | (refine step_append_src rfl (.tmp 45) (.tmp 48) 23 rfl wx.heap.size 3 i0 _ Try.underlying23 hi hz0 hz1 hz2 rfl (.slice (some ⟨wx.heap.size + 1, 0, none⟩) 0 0) 0 [] (by first | rfl | (simp [Act.eval]; done)) (own_e3 _ _ _) none 0 0 (xs.take 0) (by first | rfl | (simp [Act.eval]; done)) (HT.out _ (by repeat (first | exact Below.refl _ _ | refine Below.drew ?_ | refine Below.alloc ?_ (by simp) _))) (by omega) (by first | (simp; done) | (simp; omega)) ?_; intro v1 w1 hown1 hg1; have hb1 : Below wx.heap.size wx w1 := below_own (by repeat (first | exact Below.refl _ _ | refine Below.drew ?_ | refine Below.alloc ?_ (by simp) _)) (own_e3 _ _ _) hg1; have l3 : w1.cell? ⟨b9, off9 + i * 5, none⟩ = some (.int .i64 s.loss) := (hb1.cell (p := ⟨b9, off9 + i * 5, none⟩) hbl7).trans l2; have hone : w1.heap[wx.heap.size]? = some (.cells #[.int .i64 s.loss] 3 (0, 0)) := (hg1.block _ (by simp; omega) (by simp [Value.ownBlock])).trans ((Below.heap_alloc _ _ _ (by simp)).trans (heap_alloc_new _ _)); obtain ⟨V1', c1', rfl, _⟩ := own_shape hown1; simp only [Nat.zero_add, List.nil_append] at hown1 ⊢)
            | (refine step_append_src rfl (.tmp 49) (.tmp 55) 23 rfl wx.heap.size 3 i0 _ Try.underlying23 hi hz0 hz1 hz2 rfl (.slice V1' 0 c1') 0 _ (by first | rfl | (simp [Act.eval]; done)) (own_below hown1 ((Below.refl _ _).alloc (Nat.le_refl _) _)) (some ⟨w1.heap.size, 0, none⟩) 1 1 [s.loss] (by first | rfl | (simp [Act.eval]; done)) (src_one (heap_alloc_new _ _)) (by omega) (by have := hb1.size; simp; omega) ?_; intro v2 w2 hown2 hg2; have hb2 : Below wx.heap.size wx w2 := below_own (hb1.alloc hb1.size _) (own_below hown1 ((Below.refl _ _).alloc (Nat.le_refl _) _)) hg2; obtain ⟨V2', c2', rfl, _⟩ := own_shape hown2)
            | (refine step_append_src rfl (.tmp 49) (.tmp 55) 23 rfl wx.heap.size 3 i0 _ Try.underlying23 hi hz0 hz1 hz2 rfl (.slice V1' 0 c1') 0 _ (by first | rfl | (simp [Act.eval]; done)) (hown1) (some ⟨wx.heap.size + 1, 0, none⟩) 1 1 [s.loss] (by first | rfl | (simp [Act.eval]; done)) (src_one hone) (by omega) (hb1.size) ?_; intro v2 w2 hown2 hg2; have hb2 : Below wx.heap.size wx w2 := below_own (hb1) (hown1) hg2; obtain ⟨V2', c2', rfl, _⟩ := own_shape hown2)
            | (refine step_append_src rfl (.tmp 49) (.tmp 55) 23 rfl wx.heap.size 3 i0 _ Try.underlying23 hi hz0 hz1 hz2 rfl (.slice V1' 0 c1') 0 _ (by first | rfl | (simp [Act.eval]; done)) (hown1) (some ⟨wx.heap.size, 0, none⟩) 1 1 [s.loss] (by first | rfl | (simp [Act.eval]; done)) (src_one hone) (by omega) (hb1.size) ?_; intro v2 w2 hown2 hg2; have hb2 : Below wx.heap.size wx w2 := below_own (hb1) (hown1) hg2; obtain ⟨V2', c2', rfl, _⟩ := own_shape hown2)
            | (refine step_append_src rfl (.tmp 56) (.tmp 59) 23 rfl wx.heap.size 3 i0 _ Try.underlying23 hi hz0 hz1 hz2 rfl (.slice V2' 1 c2') 1 _ (by first | rfl | (simp [Act.eval]; done)) hown2 none 0 0 (xs.drop 0) (by first | rfl | (simp [Act.eval]; done)) (HDR.out _ hb2) (by omega) hb2.size ?_; intro v3 w3 hown3 hg3; have hb3 : Below wx.heap.size wx w3 := below_own hb2 hown2 hg3; obtain ⟨V3', c3', rfl, hc3'⟩ := own_shape hown3))
          all_goals go_wp2_with fail
          all_goals go_roundw
          all_goals first | (have hcm3 := own_cap hown3; unfold maxLen at hcm3; exact ⟨i + 1, V3', 0 + 1, c3', by omega, by go_num, by first | rfl | exact val_slice (by omega), (by show _ = _; rw [HNX.out, HIL.out]), by omega, by omega, (fun h => by subst h; exact own_nocap hown3), own_flat hown3, (by rw [HNX.out, HIF.out]; exact (ints_of_ownS hown3 (by simp)).low (Nat.zero_le _)), hb0x.trans (hb3.mono hb0x.size), by omega⟩) | (simp [intOf]; omega)
        · clear hAn
          have hkc : k ≤ c := by omega
          go_wp2_with fail
          go_quiet (fail)
          obtain ⟨wq, hwq⟩ : ∃ x : World, x = wr.drewN nq := ⟨_, rfl⟩
          have hbq : Below wo.heap.size wo wq := by rw [hwq]; exact below_drewN hbk _
          have l1 : wq.cell? ⟨b9, off9 + i * 5, none⟩ = some (.int .i64 s.loss) := by rw [hwq]; exact l0
          have hbl8 : b9 < wq.heap.size := by rw [hwq]; exact hbl9
          rw [← hwq]
          clear hwq l0 hbk hb0r
          go_wp2_with fail
          go_quiet (fail)
          obtain ⟨wx, hwx⟩ : ∃ x : World, x = wq.drewN nq := ⟨_, rfl⟩
          have hbx : Below wo.heap.size wo wx := by rw [hwx]; exact below_drewN hbq _
          have l2 : wx.cell? ⟨b9, off9 + i * 5, none⟩ = some (.int .i64 s.loss) := by rw [hwx]; exact l1
          have hbl7 : b9 < wx.heap.size := by rw [hwx]; exact hbl8
          have hb0x := hb.trans (hbx.mono hb.size)
          have hXx := hX.below hbx
          rw [← hwx]
          clear hwx l1 hbq
          have HT : Hid (∀ W, Below wx.heap.size wx W → Src W (some ⟨b, off, none⟩) k c (xs.take k)) := fun W h => src_take (hXx.below h) (by rw [← HM.out]; omega)
          have HDR : Hid (∀ W, Below wx.heap.size wx W → Src W (if c = k then some ⟨b, off, none⟩ else some ⟨b, off + k, none⟩) (k - k) (c - k) (xs.drop k)) := fun W h => src_drop (hXx.below h) HM.out (by omega) hlc
          go_wp2_with fail
          go_region_law (first
            | (refine step_append_src rfl (.tmp 45) (.tmp 48) 23 rfl wx.heap.size 3 i0 _ Try.underlying23 hi hz0 hz1 hz2 rfl (.slice (some ⟨wx.heap.size, 0, none⟩) 0 0) 0 [] (by first | rfl | (simp [Act.eval]; done)) (own_e1 _ _) (some ⟨b, off, none⟩) k c (xs.take k) (by first | rfl | (simp [Act.eval]; done)) (HT.out _ (by repeat (first | exact Below.refl _ _ | refine Below.drew ?_ | refine Below.alloc ?_ (by simp) _))) (by omega) (by first | (simp; done) | (simp; omega)) ?_; intro v1 w1 hown1 hg1; have hb1 : Below wx.heap.size wx w1 := below_own (by repeat (first | exact Below.refl _ _ | refine Below.drew ?_ | refine Below.alloc ?_ (by simp) _)) (own_e1 _ _) hg1; have l3 : w1.cell? ⟨b9, off9 + i * 5, none⟩ = some (.int .i64 s.loss) := (hb1.cell (p := ⟨b9, off9 + i * 5, none⟩) hbl7).trans l2; obtain ⟨V1', c1', rfl, _⟩ := own_shape hown1; simp only [Nat.zero_add, List.nil_append] at hown1 ⊢)
            | (refine step_append_src rfl (.tmp 45) (.tmp 48) 23 rfl wx.heap.size 3 i0 _ Try.underlying23 hi hz0 hz1 hz2 rfl (.slice (some ⟨wx.heap.size, 0, none⟩) 0 0) 0 [] (by first | rfl | (simp [Act.eval]; done)) (own_e2 _ _ _) (some ⟨b, off, none⟩) k c (xs.take k) (by first | rfl | (simp [Act.eval]; done)) (HT.out _ (by repeat (first | exact Below.refl _ _ | refine Below.drew ?_ | refine Below.alloc ?_ (by simp) _))) (by omega) (by first | (simp; done) | (simp; omega)) ?_; intro v1 w1 hown1 hg1; have hb1 : Below wx.heap.size wx w1 := below_own (by repeat (first | exact Below.refl _ _ | refine Below.drew ?_ | refine Below.alloc ?_ (by simp) _)) (own_e2 _ _ _) hg1; have l3 : w1.cell? ⟨b9, off9 + i * 5, none⟩ = some (.int .i64 s.loss) := (hb1.cell (p := ⟨b9, off9 + i * 5, none⟩) hbl7).trans l2; have hone : w1.heap[wx.heap.size + 1]? = some (.cells #[.int .i64 s.loss] 3 (0, 0)) := (hg1.block _ (by simp) (by simp [Value.ownBlock])).trans (heap_2nd _ _ _); obtain ⟨V1', c1', rfl, _⟩ := own_shape hown1; simp only [Nat.zero_add, List.nil_append] at hown1 ⊢)
            | (refine step_append_src rfl (.tmp 45) (.tmp 48) 23 rfl wx.heap.size 3 i0 _ Try.underlying23 hi hz0 hz1 hz2 rfl (.slice (some ⟨wx.heap.size + 1, 0, none⟩) 0 0) 0 [] (by first | rfl | (simp [Act.eval]; done)) (own_e3 _ _ _) (some ⟨b, off, none⟩) k c (xs.take k) (by first | rfl | (simp [Act.eval]; done)) (HT.out _ (by repeat (first | exact Below.refl _ _ | refine Below.drew ?_ | refine Below.alloc ?_ (by simp) _))) (by omega) (by first | (simp; done) | (simp; omega)) ?_; intro v1 w1 hown1 hg1; have hb1 : Below wx.heap.size wx w1 := below_own (by repeat (first | exact Below.refl _ _ | refine Below.drew ?_ | refine Below.alloc ?_ (by simp) _)) (own_e3 _ _ _) hg1; have l3 : w1.cell? ⟨b9, off9 + i * 5, none⟩ = some (.int .i64 s.loss) := (hb1.cell (p := ⟨b9, off9 + i * 5, none⟩) hbl7).trans l2; have hone : w1.heap[wx.heap.size]? = some (.cells #[.int .i64 s.loss] 3 (0, 0)) := (hg1.block _ (by simp; omega) (by simp [Value.ownBlock])).trans ((Below.heap_alloc _ _ _ (by simp)).trans (heap_alloc_new _ _)); obtain ⟨V1', c1', rfl, _⟩ := own_shape hown1; simp only [Nat.zero_add, List.nil_append] at hown1 ⊢)
            | (refine step_append_src rfl (.tmp 49) (.tmp 55) 23 rfl wx.heap.size 3 i0 _ Try.underlying23 hi hz0 hz1 hz2 rfl (.slice V1' k c1') k _ (by first | rfl | (simp [Act.eval]; done)) (own_below hown1 ((Below.refl _ _).alloc (Nat.le_refl _) _)) (some ⟨w1.heap.size, 0, none⟩) 1 1 [s.loss] (by first | rfl | (simp [Act.eval]; done)) (src_one (heap_alloc_new _ _)) (by omega) (by have := hb1.size; simp; omega) ?_; intro v2 w2 hown2 hg2; have hb2 : Below wx.heap.size wx w2 := below_own (hb1.alloc hb1.size _) (own_below hown1 ((Below.refl _ _).alloc (Nat.le_refl _) _)) hg2; obtain ⟨V2', c2', rfl, _⟩ := own_shape hown2)
            | (refine step_append_src rfl (.tmp 49) (.tmp 55) 23 rfl wx.heap.size 3 i0 _ Try.underlying23 hi hz0 hz1 hz2 rfl (.slice V1' k c1') k _ (by first | rfl | (simp [Act.eval]; done)) (hown1) (some ⟨wx.heap.size + 1, 0, none⟩) 1 1 [s.loss] (by first | rfl | (simp [Act.eval]; done)) (src_one hone) (by omega) (hb1.size) ?_; intro v2 w2 hown2 hg2; have hb2 : Below wx.heap.size wx w2 := below_own (hb1) (hown1) hg2; obtain ⟨V2', c2', rfl, _⟩ := own_shape hown2)
            | (refine step_append_src rfl (.tmp 49) (.tmp 55) 23 rfl wx.heap.size 3 i0 _ Try.underlying23 hi hz0 hz1 hz2 rfl (.slice V1' k c1') k _ (by first | rfl | (simp [Act.eval]; done)) (hown1) (some ⟨wx.heap.size, 0, none⟩) 1 1 [s.loss] (by first | rfl | (simp [Act.eval]; done)) (src_one hone) (by omega) (hb1.size) ?_; intro v2 w2 hown2 hg2; have hb2 : Below wx.heap.size wx w2 := below_own (hb1) (hown1) hg2; obtain ⟨V2', c2', rfl, _⟩ := own_shape hown2)
            | (refine step_append_src rfl (.tmp 56) (.tmp 59) 23 rfl wx.heap.size 3 i0 _ Try.underlying23 hi hz0 hz1 hz2 rfl (.slice V2' (k + 1) c2') (k + 1) _ (by first | rfl | (simp [Act.eval]; done)) hown2 (if c = k then some ⟨b, off, none⟩ else some ⟨b, off + k, none⟩) (k - k) (c - k) (xs.drop k) (by first | rfl | (simp [Act.eval]; done)) (HDR.out _ hb2) (by omega) hb2.size ?_; intro v3 w3 hown3 hg3; have hb3 : Below wx.heap.size wx w3 := below_own hb2 hown2 hg3; obtain ⟨V3', c3', rfl, hc3'⟩ := own_shape hown3))
          all_goals go_wp2_with fail
          all_goals go_roundw
          all_goals first | (have hcm3 := own_cap hown3; unfold maxLen at hcm3; exact ⟨i + 1, V3', k + 1, c3', by omega, by go_num, by first | rfl | exact val_slice (by omega), (by show _ = _; rw [HNX.out, HIL.out]), by omega, by omega, (fun h => by subst h; exact own_nocap hown3), own_flat hown3, (by rw [HNX.out, HIF.out]; exact (ints_of_ownS hown3 (by simp)).low (Nat.zero_le _)), hb0x.trans (hb3.mono hb0x.size), by omega⟩) | (simp [intOf]; omega)

end Go.Proofs.Ytpmiafnccjejnaa
