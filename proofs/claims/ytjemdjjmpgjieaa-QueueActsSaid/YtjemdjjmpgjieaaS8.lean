import Derived.Test.YtjemdjjmpgjieaaS7
set_option linter.unusedVariables false
set_option linter.unusedSimpArgs false
/- Bits of whole numbers. -/
namespace Go.Sep
open Go
theorem wrap_u64 {a : Int} (h : 0 ≤ a) (h2 : a ≤ 18446744073709551615) : IntKind.u64.wrap a = a := wrap_in h h2
theorem wrap_i64 {a : Int} (h : -9223372036854775808 ≤ a) (h2 : a ≤ 9223372036854775807) : IntKind.i64.wrap a = a := wrap_in h h2
theorem toNat_ofInt64 {a : Int} (h : 0 ≤ a) (h2 : a ≤ 18446744073709551615) : (BitVec.ofInt 64 a).toNat = a.toNat := by
  rw [BitVec.toNat_ofInt]
  have : a % ((2 ^ 64 : Nat) : Int) = a := Int.emod_eq_of_lt h (by omega)
  rw [this]
theorem andI_u64 {a b : Int} (h : 0 ≤ a) (h2 : a ≤ 18446744073709551615) (hb : 0 ≤ b) (hb2 : b ≤ 18446744073709551615) : andI .u64 a b = ((a.toNat &&& b.toNat : Nat) : Int) := by
  unfold andI
  show IntKind.u64.wrap ((BitVec.ofInt 64 a &&& BitVec.ofInt 64 b).toNat : Int) = _
  rw [BitVec.toNat_and, toNat_ofInt64 h h2, toNat_ofInt64 hb hb2]
  refine wrap_u64 (by omega) ?_
  have : a.toNat &&& b.toNat ≤ a.toNat := Nat.and_le_left
  omega
theorem andI_i64 {a b : Int} (h : 0 ≤ a) (h2 : a ≤ 9223372036854775807) (hb : 0 ≤ b) (hb2 : b ≤ 9223372036854775807) : andI .i64 a b = ((a.toNat &&& b.toNat : Nat) : Int) := by
  unfold andI
  show IntKind.i64.wrap ((BitVec.ofInt 64 a &&& BitVec.ofInt 64 b).toNat : Int) = _
  rw [BitVec.toNat_and, toNat_ofInt64 h (by omega), toNat_ofInt64 hb (by omega)]
  have : a.toNat &&& b.toNat ≤ a.toNat := Nat.and_le_left
  exact wrap_i64 (by omega) (by omega)
theorem orI_u64 {a b : Int} (h : 0 ≤ a) (h2 : a ≤ 18446744073709551615) (hb : 0 ≤ b) (hb2 : b ≤ 18446744073709551615) : orI .u64 a b = ((a.toNat ||| b.toNat : Nat) : Int) := by
  unfold orI
  show IntKind.u64.wrap ((BitVec.ofInt 64 a ||| BitVec.ofInt 64 b).toNat : Int) = _
  rw [BitVec.toNat_or, toNat_ofInt64 h h2, toNat_ofInt64 hb hb2]
  refine wrap_u64 (by omega) ?_
  have : a.toNat ||| b.toNat < 2 ^ 64 := Nat.or_lt_two_pow (by omega) (by omega)
  omega
theorem and1_u64 {a : Int} (h : 0 ≤ a) (h2 : a ≤ 18446744073709551615) : andI .u64 a 1 = a % 2 := by
  rw [andI_u64 h h2 (by decide) (by decide)]
  show ((a.toNat &&& 1 : Nat) : Int) = _
  rw [Nat.and_one_is_mod]
  omega
theorem and1_i64 {a : Int} (h : 0 ≤ a) (h2 : a ≤ 9223372036854775807) : andI .i64 a 1 = a % 2 := by
  rw [andI_i64 h h2 (by decide) (by decide)]
  show ((a.toNat &&& 1 : Nat) : Int) = _
  rw [Nat.and_one_is_mod]
  omega
end Go.Sep
