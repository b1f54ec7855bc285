/-
  '& (2^k - 1)' and '>> k' on ints: remainders and quotients. To be laid ahead of a walk.
-/
import Derived.WalkKit
import Derived.Laws.BitsLemmas
namespace Go.Proofs.Ytilkcailpkebdaa
open Go.RowKit
set_option linter.unusedVariables false

theorem bits_mask (k : Nat) (m : Int) (hk : k ≤ 32) (hm : (BitVec.ofInt 64 m).toNat = 2 ^ k - 1) (n : Int) : bits .and .i64 n m = n % ((2 ^ k : Nat) : Int) := by
  have key : (BitVec.ofInt 64 n &&& BitVec.ofInt 64 m).toNat = (n % ((2 ^ 64 : Nat) : Int)).toNat % 2 ^ k := by
    rw [BitVec.toNat_and, BitVec.toNat_ofInt, hm, Nat.and_two_pow_sub_one_eq_mod]
  show IntKind.i64.wrap ((BitVec.ofInt 64 n &&& BitVec.ofInt 64 m).toNat : Nat) = _
  have hlt : (n % ((2 ^ 64 : Nat) : Int)).toNat % 2 ^ k < 2 ^ k := Nat.mod_lt _ (Nat.two_pow_pos k)
  have hle : (2 : Nat) ^ k ≤ 2 ^ 32 := Nat.pow_le_pow_right (by omega) hk
  have h1 : (((n % ((2 ^ 64 : Nat) : Int)).toNat % 2 ^ k : Nat) : Int) = n % ((2 ^ k : Nat) : Int) := by
    rw [Int.natCast_emod, Int.toNat_of_nonneg (Int.emod_nonneg _ (by decide))]
    exact Int.emod_emod_of_dvd n (by exact_mod_cast Nat.pow_dvd_pow 2 (by omega))
  rw [key]
  have h2 : 0 ≤ n % ((2 ^ k : Nat) : Int) := by rw [← h1]; exact Int.natCast_nonneg _
  rw [h1]
  rw [IntKind.wrap_i64]
  omega
section
variable {P : Program} (t : TypeId)
theorem run_and (m : Int) (x : Int) (w : World) : (binOp .and t (.int .i64 x) (.int .i64 m)).run P w = .ok (.int .i64 (bits .and .i64 x m)) w := by
  rw [binOp_and]; rfl
theorem run_and1 (x : Int) (w : World) : (binOp .and t (.int .i64 x) (.int .i64 1)).run P w = .ok (.int .i64 (x % 2)) w := by
  rw [run_and, bits_mask 1 1 (by omega) (by decide)]; rfl
theorem run_and3 (x : Int) (w : World) : (binOp .and t (.int .i64 x) (.int .i64 3)).run P w = .ok (.int .i64 (x % 4)) w := by
  rw [run_and, bits_mask 2 3 (by omega) (by decide)]; rfl
theorem run_and7 (x : Int) (w : World) : (binOp .and t (.int .i64 x) (.int .i64 7)).run P w = .ok (.int .i64 (x % 8)) w := by
  rw [run_and, bits_mask 3 7 (by omega) (by decide)]; rfl
theorem run_and15 (x : Int) (w : World) : (binOp .and t (.int .i64 x) (.int .i64 15)).run P w = .ok (.int .i64 (x % 16)) w := by
  rw [run_and, bits_mask 4 15 (by omega) (by decide)]; rfl
theorem run_and31 (x : Int) (w : World) : (binOp .and t (.int .i64 x) (.int .i64 31)).run P w = .ok (.int .i64 (x % 32)) w := by
  rw [run_and, bits_mask 5 31 (by omega) (by decide)]; rfl
theorem run_shr (n : Nat) (hn : n ≤ 63) (x : Int) (w : World) : (binOp .shr t (.int .i64 x) (.int .u64 n)).run P w = .ok (.int .i64 (x / 2 ^ n)) w := by
  rw [binOp_shr, shift_shr .i64 .u64 x (n : Int) (by omega) (by show (n : Int) ≤ 64; omega)]; rfl
theorem run_shr1 (x : Int) (w : World) : (binOp .shr t (.int .i64 x) (.int .u64 1)).run P w = .ok (.int .i64 (x / 2)) w := run_shr t 1 (by omega) x w
theorem run_shr2 (x : Int) (w : World) : (binOp .shr t (.int .i64 x) (.int .u64 2)).run P w = .ok (.int .i64 (x / 4)) w := run_shr t 2 (by omega) x w
theorem run_shr3 (x : Int) (w : World) : (binOp .shr t (.int .i64 x) (.int .u64 3)).run P w = .ok (.int .i64 (x / 8)) w := run_shr t 3 (by omega) x w
theorem run_shr4 (x : Int) (w : World) : (binOp .shr t (.int .i64 x) (.int .u64 4)).run P w = .ok (.int .i64 (x / 16)) w := run_shr t 4 (by omega) x w
theorem run_shr5 (x : Int) (w : World) : (binOp .shr t (.int .i64 x) (.int .u64 5)).run P w = .ok (.int .i64 (x / 32)) w := run_shr t 5 (by omega) x w
end
end Go.Proofs.Ytilkcailpkebdaa
