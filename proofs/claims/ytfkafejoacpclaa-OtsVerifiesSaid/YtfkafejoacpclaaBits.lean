/- Bits of whole numbers, as the walk spells them. No conditions. -/
import Derived.Test.YtfkafejoacpclaaWords
import Derived.Laws.BitsAllLaws
namespace Go.Proofs.Ytfkafejoacpclaa
open Go.RowKit
theorem ofInt64 (a : Nat) (ha : a < 9223372036854775808) : (BitVec.ofInt 64 (a : Int)).toNat = a := by
  rw [BitVec.ofInt_natCast, BitVec.toNat_ofNat]; exact Nat.mod_eq_of_lt (by omega)
theorem or64 (a b : Nat) (ha : a < 9223372036854775808) (hb : b < 9223372036854775808) : bits .or .i64 (a : Int) (b : Int) = ((a ||| b : Nat) : Int) := by
  have hx : a ||| b < 2 ^ 63 := Nat.or_lt_two_pow (by omega) (by omega)
  show IntKind.i64.wrap ((BitVec.ofInt 64 (a : Int) ||| BitVec.ofInt 64 (b : Int)).toNat : Int) = _
  rw [BitVec.toNat_or, ofInt64 a ha, ofInt64 b hb, IntKind.wrap_i64]
  omega
/-- A number shifted by a byte, with a byte put in. -/
theorem or_byte (a : Int) (c : UInt8) (h0 : 0 ≤ a) (h1 : a < 36028797018963968) : bits .or .i64 (wrap64 (a * 256)) (wrap64 (c.toNat : Int)) = a * 256 + c.toNat := by
  have hc := c.toNat_lt
  obtain ⟨n, rfl⟩ := Int.eq_ofNat_of_zero_le h0
  have e1 : wrap64 ((n : Int) * 256) = ((256 * n : Nat) : Int) := by unfold wrap64; omega
  have e2 : wrap64 (c.toNat : Int) = ((c.toNat : Nat) : Int) := by unfold wrap64; omega
  rw [e1, e2, or64 _ _ (by omega) (by omega)]
  have := Nat.two_pow_add_eq_or_of_lt (i := 8) (b := c.toNat) (by omega) n
  rw [show 2 ^ 8 = 256 from rfl] at this
  rw [← this]
  omega
end Go.Proofs.Ytfkafejoacpclaa
