/- A head that comes in, by its kinds. No conditions. -/
import Derived.Test.YtknjbkbbhgjnlaaHeadSpec
import Derived.Test.YtknjbkbbhgjnlaaKinds
namespace Go.Proofs.Ytknjbkbbhgjnlaa
open Go.ChangeShapes Go.WideShapes Go.RowKit Go.Deep
set_option linter.unusedVariables false
theorem headKind {H : Type} {enc : TypeId × Value → H} {w : World} {fuel : Nat} {cs : List Value} {x : DataW H × List MemPlace} (h : DataW.trod enc Try.prog w 0 (fun _ => true) true fuel 87 cs = some x) :
    ∃ r : Hd, cs = r.A.toList ∧ fits .i64 r.q ∧ fits .i64 r.z ∧ fits .i64 r.t ∧ r.r.size ≤ 9223372036854775807 ∧ r.m.size ≤ 9223372036854775807 := by
  have K := Opens.struct (tot := 5) Try.underlying87 (by kernel_rfl) (OpensF.cons (off' := 1) rfl rfl (by kernel_rfl) (Opens.int Try.underlying3) (OpensF.cons (off' := 2) rfl rfl (by kernel_rfl) (Opens.int Try.underlying3) (OpensF.cons (off' := 3) rfl rfl (by kernel_rfl) (Opens.int Try.underlying3) (OpensF.cons (off' := 4) rfl rfl (by kernel_rfl) (Opens.str Try.underlying9) (OpensF.last rfl rfl (by kernel_rfl) (Opens.str Try.underlying9))))))
  obtain ⟨⟨c, s, l, k, v⟩, ⟨c0, _, rfl, h0, c1, _, rfl, h1, c2, _, rfl, h2, c3, c4, rfl, h3, h4⟩, hc, hs, hl, hk, hv⟩ := K.out h
  obtain rfl := h0
  obtain rfl := h1
  obtain rfl := h2
  obtain rfl := h3
  obtain rfl := h4
  exact ⟨⟨c, s, l, k, v⟩, rfl, hc, hs, hl, hk, hv⟩
end Go.Proofs.Ytknjbkbbhgjnlaa
