/- Masks of whole numbers of 64 bits. Of no program. -/
import Derived.Test.YtgchepijbpcckaaDoorGm
import Derived.Laws.BitsLemmas
namespace Go.Gm
theorem and_mask (i : Nat) (hi : i ≤ 62) (x : Int) : bits BinOp.and IntKind.i64 x (2 ^ i - 1) = x % 2 ^ i := by
  have h2 : ((2 : Int) ^ i - 1) = ((2 ^ i - 1 : Nat) : Int) := by
    have : 1 ≤ 2 ^ i := Nat.one_le_two_pow
    rw [Int.ofNat_sub this]; simp
  have hle : (2 : Nat) ^ i ≤ 2 ^ 62 := Nat.pow_le_pow_right (by omega) hi
  have hp : 0 < (2 : Nat) ^ i := Nat.two_pow_pos i
  have key : (BitVec.ofInt 64 x &&& BitVec.ofInt 64 ((2 : Int) ^ i - 1)).toNat = (x % 2 ^ i).toNat := by
    rw [h2, BitVec.toNat_and, BitVec.toNat_ofInt, BitVec.toNat_ofInt]
    have e1 : (((2 ^ i - 1 : Nat) : Int) % ((2 ^ 64 : Nat) : Int)).toNat = 2 ^ i - 1 := by
      rw [Int.emod_eq_of_lt (by omega) (by have : (2:Nat)^62 < 2^64 := by decide
                                           omega)]
      simp
    rw [e1, Nat.and_two_pow_sub_one_eq_mod]
    have hd : ((2 ^ i : Nat) : Int) ∣ ((2 ^ 64 : Nat) : Int) := Int.ofNat_dvd.2 (Nat.pow_dvd_pow 2 (by omega))
    have e2 : x % 2 ^ i = (x % ((2 ^ 64 : Nat) : Int)) % ((2 ^ i : Nat) : Int) := by rw [Int.emod_emod_of_dvd _ hd]; simp
    rw [e2]
    have h0 : 0 ≤ x % ((2 ^ 64 : Nat) : Int) := Int.emod_nonneg _ (by decide)
    obtain ⟨m, hm⟩ := Int.eq_ofNat_of_zero_le h0
    rw [hm, ← Int.natCast_emod, Int.toNat_natCast, Int.toNat_natCast]
  show IntKind.i64.wrap (((BitVec.ofInt 64 x) &&& (BitVec.ofInt 64 ((2:Int) ^ i - 1))).toNat : Int) = _
  rw [key]
  have h0 : 0 ≤ x % 2 ^ i := Int.emod_nonneg _ (by have := Int.pow_pos (n := 2) (m := i) (by omega); omega)
  have h1 : x % 2 ^ i < 2 ^ i := Int.emod_lt_of_pos _ (Int.pow_pos (by omega))
  have h3 : ((2 : Int) ^ i) ≤ 2 ^ 62 := by exact_mod_cast hle
  rw [Int.toNat_of_nonneg h0, IntKind.wrap_i64]
  omega
theorem and_1 (x : Int) : bits BinOp.and IntKind.i64 x 1 = x % 2 := and_mask 1 (by decide) x
theorem and_3 (x : Int) : bits BinOp.and IntKind.i64 x 3 = x % 4 := and_mask 2 (by decide) x
theorem and_7 (x : Int) : bits BinOp.and IntKind.i64 x 7 = x % 8 := and_mask 3 (by decide) x
theorem and_511 (x : Int) : bits BinOp.and IntKind.i64 x 511 = x % 512 := and_mask 9 (by decide) x
theorem and_1023 (x : Int) : bits BinOp.and IntKind.i64 x 1023 = x % 1024 := and_mask 10 (by decide) x
end Go.Gm
