/- A text's bytes in a row, and back. No conditions. -/
import Derived.Test.YtknjbkbbhgjnlaaPNum
import Derived.Test.YtknjbkbbhgjnlaaToolA
import Derived.Lib.ConvBytes
import Derived.Lib.AtoiErrMem
import Derived.Laws.BitsAllLaws
namespace Go.Proofs.Ytknjbkbbhgjnlaa
open Go.RowKit
set_option linter.unusedVariables false
set_option linter.unusedSimpArgs false
theorem bytes_fresh (w : World) (e : TypeId) (s : ByteArray) (j : Nat) (hj : j < s.size) : (Lib.bytesWorld w e s).frozen? ⟨w.heap.size, j, none⟩ = false := by
  unfold World.frozen?
  rw [Lib.bytesWorld_at_new]
  have : s.size ≤ (Lib.bytesCells w e s).size := by unfold Lib.bytesCells; simp
  simp
  omega
set_option maxRecDepth 100000 in
theorem conv_row {W : World} {G cap n : Nat} {L : List Nat} (hl : L.length = n) (h : ∀ j, j < n → W.cell? ⟨G, j, none⟩ = some (.int .u8 ((L.getD j 0 : Nat) : Int))) :
    (convert 46 9 (.slice (some ⟨G, 0, none⟩) n cap)).run Try.prog W = .ok (.string (outB L)) W := by
  rw [← outB_nums]
  refine run_convert_bytes_arg _ _ 5 rfl rfl _ 0 n cap (L.map fun (n : Nat) => (n : Int)) (by simp [hl]) (fun j hj => ?_) _ rfl
  rw [Nat.zero_add, h j hj]
  simp [List.getD_eq_getElem?_getD, List.getElem?_eq_getElem (show j < L.length by omega)]
end Go.Proofs.Ytknjbkbbhgjnlaa
