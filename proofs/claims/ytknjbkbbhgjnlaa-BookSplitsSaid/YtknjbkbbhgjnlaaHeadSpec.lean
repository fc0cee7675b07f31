/- A head, as plain data. No conditions. -/
import Derived.Test.YtknjbkbbhgjnlaaToolA
namespace Go.Proofs.Ytknjbkbbhgjnlaa
open Go.RowKit
set_option linter.unusedVariables false
/-- A head. -/
structure Hd where
  q : Int
  z : Int
  t : Int
  r : ByteArray
  m : ByteArray
def Hd.A (h : Hd) : Array Value := #[.int .i64 h.q, .int .i64 h.z, .int .i64 h.t, .string h.r, .string h.m]
def Hd.zero : Hd := ⟨0, 0, 0, ByteArray.empty, ByteArray.empty⟩
end Go.Proofs.Ytknjbkbbhgjnlaa
