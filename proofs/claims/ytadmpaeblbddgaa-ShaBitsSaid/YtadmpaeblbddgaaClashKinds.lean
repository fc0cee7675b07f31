/- Arguments of layer 9's laws, by their kinds. No conditions. -/
import Derived.Test.YtadmpaeblbddgaaClashSpec
import Derived.Test.YtadmpaeblbddgaaKinds
namespace Go.Proofs.Ytadmpaeblbddgaa
open Go.ChangeShapes Go.WideShapes Go.RowKit Go.Deep
set_option linter.unusedVariables false
def Kn.ans : Kn An := (Kn.bool.pair (Kn.str.pair Kn.str)).via fun a => (a.there, a.value, a.proof)
theorem ansOpens : Opens Try.prog 23 Kn.ans (fun a => a.value.size ≤ 9223372036854775807 ∧ a.proof.size ≤ 9223372036854775807) := by
  have K := Opens.struct (tot := 3) Try.underlying23 (by kernel_rfl) (OpensF.cons (off' := 1) rfl rfl (by kernel_rfl) (Opens.bool Try.underlying4) (OpensF.cons (off' := 2) rfl rfl (by kernel_rfl) (Opens.str Try.underlying9) (OpensF.last rfl rfl (by kernel_rfl) (Opens.str Try.underlying9))))
  exact Opens.via K (fun a : An => (a.there, a.value, a.proof)) (fun x => ⟨x.1, x.2.1, x.2.2⟩) (fun _ => rfl) (fun a h => ⟨h.2.1, h.2.2⟩)
theorem ans_cells {w : World} {a : An} {cs : List Value} (h : Kn.ans.K w a cs) : cs = a.A.toList := by
  obtain ⟨th, va, pr⟩ := a
  obtain ⟨c0, _, rfl, h0, c1, c2, rfl, h1, h2⟩ := h
  obtain rfl := h0
  obtain rfl := h1
  obtain rfl := h2
  rfl
theorem fits_u8n {n : Int} (h : fits .u8 n) : ∃ k : Nat, n = k ∧ k < 256 := by
  have h1 := h
  simp [fits, Lit.wf, IntKind.min, IntKind.max, IntKind.signed, IntKind.bits] at h1
  exact ⟨n.toNat, by omega, by omega⟩
end Go.Proofs.Ytadmpaeblbddgaa
