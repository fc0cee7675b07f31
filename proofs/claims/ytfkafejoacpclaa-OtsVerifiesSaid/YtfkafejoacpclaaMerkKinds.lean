/- Kinds of the inputs of layer 4's laws. No conditions. -/
import Derived.Test.YtfkafejoacpclaaKinds
namespace Go.Proofs.Ytfkafejoacpclaa
open Go.ChangeShapes Go.WideShapes Go.RowKit Go.Deep
set_option linter.unusedVariables false
theorem strsKind : Opens Try.prog 22 Kn.str.sl (fun _ => True) := by
  have K3 := Opens.slice (d := Kn.str) Try.underlying22 (by kernel_rfl) (by decide) (Opens.str Try.underlying9)
  exact ⟨fun h => by obtain ⟨a, h1, _⟩ := K3.out h; exact ⟨a, h1, trivial⟩⟩
theorem twoIntKind {H : Type} {enc : TypeId × Value → H} {w : World} {fuel : Nat} {cs : List Value} {x : DataW H × List MemPlace} (h : DataW.trod enc Try.prog w 0 (fun _ => true) true fuel 39 cs = some x) :
    ∃ a b : Int, cs = [.int .i64 a, .int .i64 b] := by
  obtain ⟨l, hk, hf⟩ := (Opens.arr (d := Kn.int .i64) Try.underlying39 (by kernel_rfl) (by kernel_rfl) (Opens.int Try.underlying3)).out h
  obtain ⟨hl, rfl⟩ := Kn.vec_one hk
  match l, hl with
  | [a, b], _ => exact ⟨a, b, rfl⟩
theorem twoStrKind {H : Type} {enc : TypeId × Value → H} {w : World} {fuel : Nat} {cs : List Value} {x : DataW H × List MemPlace} (h : DataW.trod enc Try.prog w 0 (fun _ => true) true fuel 40 cs = some x) :
    ∃ a b : ByteArray, cs = [.string a, .string b] := by
  obtain ⟨l, hk, hf⟩ := (Opens.arr (d := Kn.str) Try.underlying40 (by kernel_rfl) (by kernel_rfl) (Opens.str Try.underlying9)).out h
  obtain ⟨hl, rfl⟩ := Kn.vec_one hk
  match l, hl with
  | [a, b], _ => exact ⟨a, b, rfl⟩
end Go.Proofs.Ytfkafejoacpclaa
