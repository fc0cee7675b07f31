/- One byte as a text. No conditions. -/
import Derived.Test.YtknjbkbbhgjnlaaToolA
import Derived.Laws.BytesArg
namespace Go.Proofs.Ytknjbkbbhgjnlaa
open Go.RowKit
set_option linter.unusedVariables false
set_option maxRecDepth 100000 in
theorem conv1 (a : Int) (W : World) (B : Nat) (hB : W.heap.size = B) : (convert 46 9 (.slice (some ⟨B, 0, none⟩) 1 1)).run Try.prog (W.alloc (.cells #[.int .u8 a] 5)) =
    .ok (.string (strOfNums [a])) (W.alloc (.cells #[.int .u8 a] 5)) := by
  subst hB
  refine run_convert_bytes_arg _ _ 5 rfl rfl _ 0 1 1 [a] rfl (fun i hi => ?_) _ rfl
  have hw := (Whole.new W 5 #[.int .u8 a]).cell
  rw [hw]
  match i, hi with
  | 0, _ => rfl
end Go.Proofs.Ytknjbkbbhgjnlaa
