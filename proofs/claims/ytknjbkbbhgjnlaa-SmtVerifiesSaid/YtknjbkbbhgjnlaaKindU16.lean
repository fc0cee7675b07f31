/- Kinds of inputs: three numbers. No conditions. -/
import Derived.Test.YtknjbkbbhgjnlaaKinds
namespace Go.Proofs.Ytknjbkbbhgjnlaa
open Go.ChangeShapes Go.WideShapes Go.RowKit Go.Deep
set_option linter.unusedVariables false
theorem fits_u16m {n : Int} (h : fits .u16 n) : ∃ k : Nat, n = k ∧ k < 65536 := by
  have h1 := h
  simp [fits, Lit.wf, IntKind.min, IntKind.max, IntKind.signed, IntKind.bits] at h1
  exact ⟨n.toNat, by omega, by omega⟩
theorem threeU16Kind {H : Type} {enc : TypeId × Value → H} {w : World} {fuel : Nat} {cs : List Value} {x : DataW H × List MemPlace} (h : DataW.trod enc Try.prog w 0 (fun _ => true) true fuel 40 cs = some x) :
    ∃ a b c : Nat, cs = [.int .u16 a, .int .u16 b, .int .u16 c] ∧ a < 65536 ∧ b < 65536 ∧ c < 65536 := by
  obtain ⟨l, hk, hf⟩ := (Opens.arr (d := Kn.int .u16) Try.underlying40 (by kernel_rfl) (by kernel_rfl) (Opens.int Try.underlying39)).out h
  obtain ⟨hl, rfl⟩ := Kn.vec_one hk
  match l, hl with
  | [a, b, c], _ =>
    obtain ⟨a', rfl, ha⟩ := fits_u16m (hf a (by simp))
    obtain ⟨b', rfl, hb⟩ := fits_u16m (hf b (by simp))
    obtain ⟨c', rfl, hc⟩ := fits_u16m (hf c (by simp))
    exact ⟨a', b', c', rfl, ha, hb, hc⟩
end Go.Proofs.Ytknjbkbbhgjnlaa
