/- wire.Right. No conditions. -/
import Derived.Test.YtknjbkbbhgjnlaaWireSpec
namespace Go.Proofs.Ytknjbkbbhgjnlaa
open Go.RowKit
set_option linter.unusedVariables false
set_option linter.unusedSimpArgs false
theorem right_calls (c s : Int) (l k v : ByteArray) (w : World) :
    Calls Try.prog 76 #[.agg #[.int .i64 c, .int .i64 s, .string l, .string k, .string v]] w fun e w' => e = .returned (.bool (Rq.right ⟨c, s, l, k, v⟩)) ∧ Below w.heap.size w w' := by
  go_enter Try.func76, Try.ntmps76
  go_wp2
  all_goals go_returns
  all_goals go_light
  all_goals refine ⟨ret_bool ?_, by go_grown⟩
  all_goals (try simp only [nilL] at *)
  all_goals simp [Rq.right, emptyL, *]
  all_goals (first | done | (intros; omega) | skip)
end Go.Proofs.Ytknjbkbbhgjnlaa
