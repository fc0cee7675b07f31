/- Kinds of inputs: two texts. No conditions. -/
import Derived.Test.YteipcmbbonfklaaKinds
namespace Go.Proofs.Yteipcmbbonfklaa
open Go.ChangeShapes Go.WideShapes Go.RowKit Go.Deep
set_option linter.unusedVariables false
theorem twoStrKind {H : Type} {enc : TypeId × Value → H} {w : World} {fuel : Nat} {cs : List Value} {x : DataW H × List MemPlace} (h : DataW.trod enc Try.prog w 0 (fun _ => true) true fuel 64 cs = some x) :
    ∃ a b : ByteArray, cs = [.string a, .string b] := by
  obtain ⟨l, hk, hf⟩ := (Opens.arr (d := Kn.str) Try.underlying64 (by kernel_rfl) (by kernel_rfl) (Opens.str Try.underlying9)).out h
  obtain ⟨hl, rfl⟩ := Kn.vec_one hk
  match l, hl with
  | [a, b], _ => exact ⟨a, b, rfl⟩
end Go.Proofs.Yteipcmbbonfklaa
