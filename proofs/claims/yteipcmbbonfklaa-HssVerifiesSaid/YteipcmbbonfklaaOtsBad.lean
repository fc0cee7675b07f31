/- Keys that there aren't: the program's Sign. No conditions. -/
import Derived.Test.YteipcmbbonfklaaOts2
namespace Go.Proofs.Yteipcmbbonfklaa
open Go.RowKit
set_option linter.unusedVariables false
set_option linter.unusedSimpArgs false
set_option maxHeartbeats 1000000 in
set_option maxRecDepth 100000 in
theorem sign_bad (q : Int) (h : q < 0 ∨ 8 ≤ q) (seed msg : ByteArray) (w : World) :
    Calls Try.prog 75 #[.agg (arr .u32 (K64 ++ H8.L)), .string seed, .int .i64 q, .string msg] w fun e w' => e = .returned (.tuple #[.string ⟨#[]⟩, .int .i64 4]) ∧ Below w.heap.size w w' := by
  generalize arr .u32 (K64 ++ H8.L) = tb at *
  have hB1 : Below w.heap.size w (w.alloc (.cells tb 31)) := by go_grown
  by_cases h1 : q < 0
  · have q1 : (q < 0) = True := eq_true h1
    go_enter Try.func75, Try.ntmps75
    go_wp2_with (fail)
    go_returns
    go_light
    exact ⟨rfl, hB1⟩
  · have q1 : (q < 0) = False := eq_false h1
    have q2 : (8 ≤ q) = True := eq_true (by omega)
    go_enter Try.func75, Try.ntmps75
    go_wp2_with (fail)
    go_returns
    go_light
    exact ⟨rfl, hB1⟩
end Go.Proofs.Yteipcmbbonfklaa
