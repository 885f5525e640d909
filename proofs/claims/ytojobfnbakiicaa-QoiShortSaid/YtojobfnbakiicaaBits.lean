/- int's bits: and with a mask, or of parts that do not meet. -/
import Derived.Test.YtojobfnbakiicaaWords
import Derived.Laws.BitsAllLaws
import Derived.Laws.BitsLemmas
namespace Go.Proofs.Ytojobfnbakiicaa
open Go.RowKit
set_option linter.unusedVariables false

theorem ofInt64_nat (a : Nat) (ha : a < 9223372036854775808) : (BitVec.ofInt 64 (a : Int)).toNat = a := by
  rw [BitVec.ofInt_natCast, BitVec.toNat_ofNat]; exact Nat.mod_eq_of_lt (by omega)
theorem and64 (a b : Nat) (ha : a < 9223372036854775808) (hb : b < 9223372036854775808) : bits .and .i64 (a : Int) (b : Int) = ((a &&& b : Nat) : Int) := by
  have hx : a &&& b < 2 ^ 63 := Nat.and_lt_two_pow _ (by omega)
  show IntKind.i64.wrap ((BitVec.ofInt 64 (a : Int) &&& BitVec.ofInt 64 (b : Int)).toNat : Int) = _
  rw [BitVec.toNat_and, ofInt64_nat a ha, ofInt64_nat b hb, IntKind.wrap_i64]
  omega
theorem or64 (a b : Nat) (ha : a < 9223372036854775808) (hb : b < 9223372036854775808) : bits .or .i64 (a : Int) (b : Int) = ((a ||| b : Nat) : Int) := by
  have hx : a ||| b < 2 ^ 63 := Nat.or_lt_two_pow (by omega) (by omega)
  show IntKind.i64.wrap ((BitVec.ofInt 64 (a : Int) ||| BitVec.ofInt 64 (b : Int)).toNat : Int) = _
  rw [BitVec.toNat_or, ofInt64_nat a ha, ofInt64_nat b hb, IntKind.wrap_i64]
  omega
theorem and_mask (x k : Nat) (hx : x < 9223372036854775808) (hk : k ≤ 62) : bits .and .i64 (x : Int) (((2 ^ k - 1 : Nat)) : Int) = ((x % 2 ^ k : Nat) : Int) := by
  have h : 2 ^ k ≤ 2 ^ 62 := Nat.pow_le_pow_right (by omega) hk
  rw [and64 x _ hx (by omega), Nat.and_two_pow_sub_one_eq_mod]
theorem or_shift (a b k : Nat) (ha : a < 2 ^ k) (hb : 2 ^ k * b + a < 9223372036854775808) : bits .or .i64 (a : Int) ((2 ^ k * b : Nat) : Int) = ((2 ^ k * b + a : Nat) : Int) := by
  rw [or64 a _ (by omega) (by omega), Nat.or_comm, Nat.two_pow_add_eq_or_of_lt ha]
theorem and31 (x : Nat) (hx : x < 9223372036854775808) : bits .and .i64 (x : Int) 31 = ((x % 32 : Nat) : Int) := and_mask x 5 hx (by omega)
theorem or8 (a b : Nat) (ha : a < 256) (hb : b < 256) : bits .or .i64 (a : Int) ((b : Int) * 256) = ((a + 256 * b : Nat) : Int) := by
  have e : ((b : Int) * 256) = ((2 ^ 8 * b : Nat) : Int) := by omega
  rw [e, or_shift a b 8 (by omega) (by omega)]
  omega
theorem wrap64_id (n : Int) (h1 : -9223372036854775808 ≤ n) (h2 : n ≤ 9223372036854775807) : wrap64 n = n := by
  unfold wrap64; omega
end Go.Proofs.Ytojobfnbakiicaa
