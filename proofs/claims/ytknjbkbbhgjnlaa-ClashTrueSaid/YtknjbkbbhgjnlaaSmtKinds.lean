/- Kinds of inputs: a pair, a row of pairs. No conditions. -/
import Derived.Test.YtknjbkbbhgjnlaaSRow
namespace Go.Proofs.Ytknjbkbbhgjnlaa
open Go.ChangeShapes Go.WideShapes Go.RowKit Go.Deep
set_option linter.unusedVariables false
theorem pairOpens : Opens Try.prog 33 PK (fun _ => True) := by
  have K := Opens.struct (tot := 2) Try.underlying33 (by kernel_rfl) (OpensF.cons (off' := 1) rfl rfl (by kernel_rfl) (Opens.str Try.underlying9) (OpensF.last rfl rfl (by kernel_rfl) (Opens.str Try.underlying9)))
  exact ⟨fun h => by obtain ⟨a, h1, _⟩ := K.out h; exact ⟨a, h1, trivial⟩⟩
theorem kvKind {H : Type} {enc : TypeId × Value → H} {w : World} {fuel : Nat} {cs : List Value} {x : DataW H × List MemPlace} (h : DataW.trod enc Try.prog w 0 (fun _ => true) true fuel 33 cs = some x) :
    ∃ p : ByteArray × ByteArray, cs = PairV p := by
  obtain ⟨p, ⟨c0, c1, rfl, h0, h1⟩, _⟩ := pairOpens.out h
  obtain rfl := h0
  obtain rfl := h1
  exact ⟨p, rfl⟩
theorem kvsKind : Opens Try.prog 22 PK.sl (fun _ => True) := by
  have K3 := Opens.slice (d := PK) Try.underlying22 (by kernel_rfl) (by decide) pairOpens
  exact ⟨fun h => by obtain ⟨a, h1, _⟩ := K3.out h; exact ⟨a, h1, trivial⟩⟩
end Go.Proofs.Ytknjbkbbhgjnlaa
