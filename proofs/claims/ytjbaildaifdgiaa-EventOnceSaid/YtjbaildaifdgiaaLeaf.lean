/-
  The contracts of the small functions on numbers: amount.Valid, excess.Layer, treatyref20.Layer and the like.
-/
import Derived.Test.YtjbaildaifdgiaaProg
import Derived.Test.YtjbaildaifdgiaaWords
namespace Go.Proofs.Ytjbaildaifdgiaa
open Go.RowKit

def validB (a : Int) : Bool := decide (-17592186044416 ≤ a) && decide (a ≤ 17592186044416)

set_option maxHeartbeats 400000 in
theorem valid_any (a : Int) (w : World) :
    Calls Try.prog 48 #[.int .i64 a] w fun e w' => e = .returned (.bool (validB a)) ∧ w = w' := by
  unfold validB
  go_enter Try.func48, Try.ntmps48
  go_wp2
  all_goals go_ret
  all_goals refine ⟨ret_bool ?_, rfl⟩
  all_goals simp [*]
  all_goals omega

set_option maxHeartbeats 400000 in
theorem least_one (a x : Int) (b : Nat) (w : World) (hc : w.cell? ⟨b, 0, none⟩ = some (.int .i64 x)) :
    Calls Try.prog 61 #[.int .i64 a, .slice (some ⟨b, 0, none⟩) 1 1] w fun e w' => e = .returned (.int .i64 (imin a x)) ∧ w = w' := by
  go_enter Try.func61, Try.ntmps61
  go_wp2
  go_loop [0, 9] (fun f i => (f = .int .i64 a ∧ i = .int .i64 0) ∨ (f = .int .i64 (imin a x) ∧ i = .int .i64 1)) (fun _ i => (1 - intOf i).toNat)
  case atStart => exact Or.inl ⟨rfl, rfl⟩
  case round =>
    rcases hrel with ⟨rfl, rfl⟩ | ⟨rfl, rfl⟩
    · go_wp2
      · refine ⟨Or.inr ⟨?_, rfl⟩, by decide⟩
        rw [imin, if_pos (by assumption)]
      · refine ⟨Or.inr ⟨?_, rfl⟩, by decide⟩
        rw [imin, if_neg (by omega)]
    · go_wp2
      go_ret
      exact ⟨rfl, rfl⟩

set_option maxHeartbeats 400000 in
theorem greatest_one (a x : Int) (b : Nat) (w : World) (hc : w.cell? ⟨b, 0, none⟩ = some (.int .i64 x)) :
    Calls Try.prog 63 #[.int .i64 a, .slice (some ⟨b, 0, none⟩) 1 1] w fun e w' => e = .returned (.int .i64 (imax a x)) ∧ w = w' := by
  go_enter Try.func63, Try.ntmps63
  go_wp2
  go_loop [0, 9] (fun f i => (f = .int .i64 a ∧ i = .int .i64 0) ∨ (f = .int .i64 (imax a x) ∧ i = .int .i64 1)) (fun _ i => (1 - intOf i).toNat)
  case atStart => exact Or.inl ⟨rfl, rfl⟩
  case round =>
    rcases hrel with ⟨rfl, rfl⟩ | ⟨rfl, rfl⟩
    · go_wp2
      · refine ⟨Or.inr ⟨?_, rfl⟩, by decide⟩
        rw [imax, if_pos (by assumption)]
      · refine ⟨Or.inr ⟨?_, rfl⟩, by decide⟩
        rw [imax, if_neg (by omega)]
    · go_wp2
      go_ret
      exact ⟨rfl, rfl⟩

def limited (n : Int) : Int := imax 0 (imin n 17592186044416)

set_option maxHeartbeats 400000 in
theorem limited_any (n : Int) (w : World) :
    Calls Try.prog 62 #[.int .i64 n] w fun e w' => e = .returned (.int .i64 (limited n)) ∧ Below w.heap.size w w' := by
  go_enter Try.func62, Try.ntmps62
  go_wp2_with (first | (go_at_call 61; refine (least_one _ 17592186044416 w.heap.size _ (by simp)).mono ?_; rintro e w' ⟨rfl, rfl⟩) | (go_at_call 63; refine (greatest_one _ (imin n 17592186044416) (w.heap.size + 1) _ (by simp)).mono ?_; rintro e w' ⟨rfl, rfl⟩))
  go_ret
  exact ⟨rfl, ((Below.refl _ _).alloc (Nat.le_refl _) _).alloc (by simp) _⟩

theorem limited_bd (n : Int) : 0 ≤ limited n ∧ limited n ≤ 17592186044416 := by
  unfold limited imax imin; split <;> split <;> omega

def layerF (a r l : Int) : Int := imin (limited l) (imax 0 (limited a - limited r))
theorem layerF_bd (a r l : Int) : 0 ≤ layerF a r l ∧ layerF a r l ≤ 17592186044416 := by
  have := limited_bd l
  unfold layerF imax imin; split <;> split <;> omega

set_option maxHeartbeats 400000 in
theorem layer_any (a r l : Int) (w : World) :
    Calls Try.prog 49 #[.int .i64 a, .int .i64 r, .int .i64 l] w fun e w' => e = .returned (.int .i64 (layerF a r l)) ∧ Below w.heap.size w w' := by
  have ba := limited_bd a
  have br := limited_bd r
  go_enter Try.func49, Try.ntmps49
  go_wp2_with fail
  refine (limited_any _ _).mono ?_
  rintro e w1 ⟨rfl, b1⟩
  go_wp2_with fail
  refine (limited_any _ _).mono ?_
  rintro e w2 ⟨rfl, b2⟩
  go_wp2_with fail
  refine (limited_any _ _).mono ?_
  rintro e w3 ⟨rfl, b3⟩
  go_wp2_with (first | (go_at_call 63; refine (greatest_one _ (limited a - limited r) w3.heap.size _ (by simp)).mono ?_; rintro e w' ⟨rfl, rfl⟩) | (go_at_call 61; refine (least_one _ (imax 0 (limited a - limited r)) (w3.heap.size + 1) _ (by simp)).mono ?_; rintro e w' ⟨rfl, rfl⟩))
  go_ret
  refine ⟨rfl, ?_⟩
  have hb : Below w.heap.size w w3 := b1.trans ((b2.mono b1.size).trans (b3.mono (Nat.le_trans b1.size b2.size)))
  exact (hb.alloc hb.size _).alloc (Nat.le_trans hb.size (by simp)) _

/-! ### The reference's layer -/
def clampF (x : Int) : Int := imin (imax x 0) 17592186044416
theorem clampF_bd (n : Int) : 0 ≤ clampF n ∧ clampF n ≤ 17592186044416 := by
  unfold clampF imax imin; split <;> split <;> omega
theorem clampF_eq (n : Int) : clampF n = limited n := by
  unfold clampF limited imax imin; split <;> split <;> (try split) <;> (try split) <;> omega

set_option maxHeartbeats 400000 in
theorem rlayer_any (a r l : Int) (w : World) :
    Calls Try.prog 50 #[.int .i64 a, .int .i64 r, .int .i64 l] w fun e w' => e = .returned (.int .i64 (layerF a r l)) ∧ w = w' := by
  have hmx := @run_imax Try.prog
  have hmn := @run_imin Try.prog
  have ba := clampF_bd a
  have br := clampF_bd r
  unfold clampF at ba br
  go_enter Try.func50, Try.ntmps50
  go_wp2_with fail
  go_ret
  refine ⟨ret_int ?_, rfl⟩
  show imin (imax (clampF a - clampF r) 0) (clampF l) = _
  rw [clampF_eq, clampF_eq, clampF_eq]
  unfold layerF imax imin; repeat' split
  all_goals omega

def inHoursB (h : Int) : Bool := decide (0 ≤ h) && decide (h ≤ 876599)
set_option maxHeartbeats 400000 in
theorem inHours_any (a : Int) (w : World) :
    Calls Try.prog 57 #[.int .i64 a] w fun e w' => e = .returned (.bool (inHoursB a)) ∧ w = w' := by
  unfold inHoursB
  go_enter Try.func57, Try.ntmps57
  go_wp2
  all_goals go_ret
  all_goals refine ⟨ret_bool ?_, rfl⟩
  all_goals simp [*]
  all_goals omega

end Go.Proofs.Ytjbaildaifdgiaa
