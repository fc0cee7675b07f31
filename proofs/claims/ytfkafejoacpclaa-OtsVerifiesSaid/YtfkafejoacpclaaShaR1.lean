/- The reference's turning right. No conditions. -/
import Derived.Test.YtfkafejoacpclaaShaSpec
import Derived.Test.YtfkafejoacpclaaSteps
namespace Go.Proofs.Ytfkafejoacpclaa
open Go.RowKit
set_option linter.unusedVariables false
set_option linter.unusedSimpArgs false
set_option maxRecDepth 100000 in
theorem right01_calls (x n : Nat) (hx : x < 4294967296) (hn : n < 32) (w : World) :
    Calls Try.prog 117 #[.int .u64 x, .int .u64 n] w fun e w' => e = .returned (.int .u64 (rr n x)) ∧ w' = w := by
  have hm : x * 4294967296 + x < 18446744073709551616 := by omega
  go_enter Try.func117, Try.ntmps117
  go_wp2
  go_returns
  refine ⟨?_, rfl⟩
  have e : (((x : Int) * 4294967296 + x) / 2 ^ n).tmod 4294967296 = ((rr n x : Nat) : Int) := by
    have e1 : ((x : Int) * 4294967296 + x) / 2 ^ n = (((x * 4294967296 + x) / 2 ^ n : Nat) : Int) := by simp
    rw [e1, Int.tmod_eq_emod_of_nonneg (Int.natCast_nonneg _)]
    unfold rr
    omega
  rw [e]
  rfl
end Go.Proofs.Ytfkafejoacpclaa
