/- The reference's tables. No conditions. -/
import Derived.Test.YtfkafejoacpclaaShaSpec
import Derived.Test.YtfkafejoacpclaaSteps
namespace Go.Proofs.Ytfkafejoacpclaa
open Go.RowKit
set_option linter.unusedVariables false
set_option linter.unusedSimpArgs false
def K64 : List Nat := [0x428a2f98, 0x71374491, 0xb5c0fbcf, 0xe9b5dba5, 0x3956c25b, 0x59f111f1, 0x923f82a4, 0xab1c5ed5, 0xd807aa98, 0x12835b01, 0x243185be, 0x550c7dc3, 0x72be5d74, 0x80deb1fe, 0x9bdc06a7, 0xc19bf174, 0xe49b69c1, 0xefbe4786, 0x0fc19dc6, 0x240ca1cc, 0x2de92c6f, 0x4a7484aa, 0x5cb0a9dc, 0x76f988da, 0x983e5152, 0xa831c66d, 0xb00327c8, 0xbf597fc7, 0xc6e00bf3, 0xd5a79147, 0x06ca6351, 0x14292967, 0x27b70a85, 0x2e1b2138, 0x4d2c6dfc, 0x53380d13, 0x650a7354, 0x766a0abb, 0x81c2c92e, 0x92722c85, 0xa2bfe8a1, 0xa81a664b, 0xc24b8b70, 0xc76c51a3, 0xd192e819, 0xd6990624, 0xf40e3585, 0x106aa070, 0x19a4c116, 0x1e376c08, 0x2748774c, 0x34b0bcb5, 0x391c0cb3, 0x4ed8aa4a, 0x5b9cca4f, 0x682e6ff3, 0x748f82ee, 0x78a5636f, 0x84c87814, 0x8cc70208, 0x90befffa, 0xa4506ceb, 0xbef9a3f7, 0xc67178f2]
theorem K64_length : K64.length = 64 := rfl
theorem K64_lt : ∀ x ∈ K64, x < 4294967296 := by decide
def H8 : V8 := ⟨0x6a09e667, 0xbb67ae85, 0x3c6ef372, 0xa54ff53a, 0x510e527f, 0x9b05688c, 0x1f83d9ab, 0x5be0cd19⟩
theorem H8_ok : H8.ok := by refine ⟨?_, ?_, ?_, ?_, ?_, ?_, ?_, ?_⟩ <;> decide
set_option maxRecDepth 100000 in
theorem H01_calls (w : World) : Calls Try.prog 110 #[] w fun e w' => e = .returned (.agg (arr .u64 H8.L)) ∧ Below w.heap.size w w' := by
  have h1 := Whole.new w 152 (arr .u64 H8.L)
  have hB : Below w.heap.size w (w.alloc (.cells (arr .u64 H8.L) 152)) := by go_grown
  go_enter Try.func110, Try.ntmps110
  go_wp2
  refine bodyPost_ret (results_cell_row rfl _ _ _ _ _ _ _ (by rfl) h1 Try.underlying152 rfl (by kernel_rfl)) rfl ?_
  go_light
  exact ⟨rfl, hB⟩
set_option maxRecDepth 100000 in
theorem K01_calls (w : World) : Calls Try.prog 109 #[] w fun e w' => e = .returned (.agg (arr .u64 K64)) ∧ Below w.heap.size w w' := by
  have h1 := Whole.new w 150 #[.int .u64 0, .int .u64 0, .int .u64 0, .int .u64 0, .int .u64 0, .int .u64 0, .int .u64 0, .int .u64 0, .int .u64 0, .int .u64 0, .int .u64 0, .int .u64 0, .int .u64 0, .int .u64 0, .int .u64 0, .int .u64 0, .int .u64 0, .int .u64 0, .int .u64 0, .int .u64 0, .int .u64 0, .int .u64 0, .int .u64 0, .int .u64 0, .int .u64 0, .int .u64 0, .int .u64 0, .int .u64 0, .int .u64 0, .int .u64 0, .int .u64 0, .int .u64 0, .int .u64 0, .int .u64 0, .int .u64 0, .int .u64 0, .int .u64 0, .int .u64 0, .int .u64 0, .int .u64 0, .int .u64 0, .int .u64 0, .int .u64 0, .int .u64 0, .int .u64 0, .int .u64 0, .int .u64 0, .int .u64 0, .int .u64 0, .int .u64 0, .int .u64 0, .int .u64 0, .int .u64 0, .int .u64 0, .int .u64 0, .int .u64 0, .int .u64 0, .int .u64 0, .int .u64 0, .int .u64 0, .int .u64 0, .int .u64 0, .int .u64 0, .int .u64 0]
  have hB : Below w.heap.size w (w.alloc (.cells #[.int .u64 0, .int .u64 0, .int .u64 0, .int .u64 0, .int .u64 0, .int .u64 0, .int .u64 0, .int .u64 0, .int .u64 0, .int .u64 0, .int .u64 0, .int .u64 0, .int .u64 0, .int .u64 0, .int .u64 0, .int .u64 0, .int .u64 0, .int .u64 0, .int .u64 0, .int .u64 0, .int .u64 0, .int .u64 0, .int .u64 0, .int .u64 0, .int .u64 0, .int .u64 0, .int .u64 0, .int .u64 0, .int .u64 0, .int .u64 0, .int .u64 0, .int .u64 0, .int .u64 0, .int .u64 0, .int .u64 0, .int .u64 0, .int .u64 0, .int .u64 0, .int .u64 0, .int .u64 0, .int .u64 0, .int .u64 0, .int .u64 0, .int .u64 0, .int .u64 0, .int .u64 0, .int .u64 0, .int .u64 0, .int .u64 0, .int .u64 0, .int .u64 0, .int .u64 0, .int .u64 0, .int .u64 0, .int .u64 0, .int .u64 0, .int .u64 0, .int .u64 0, .int .u64 0, .int .u64 0, .int .u64 0, .int .u64 0, .int .u64 0, .int .u64 0] 150)) := by go_grown
  go_enter Try.func109, Try.ntmps109
  go_wp2_with (first | (refine wpList_build rfl _ _ rfl (by kernel_rfl) ?_) | ((with_reducible apply wl_storeW (ty := 150) h1); rfl; rfl; rfl; kernel_rfl; kernel_rfl; kernel_rfl; intro w5 hs5 hg5 hz5))
  generalize hc : (Program.built _ _ _).getD #[] = cs at hs5 ⊢
  have hcs : cs = arr .u64 K64 := by rw [← hc]; kernel_rfl
  clear hc
  subst hcs
  refine bodyPost_ret (results_cell_row rfl _ _ _ _ _ _ _ (by rfl) hs5 Try.underlying150 rfl (by kernel_rfl)) rfl ?_
  go_light
  exact ⟨rfl, below_only' hB hg5 (Nat.le_refl _)⟩
end Go.Proofs.Ytfkafejoacpclaa
