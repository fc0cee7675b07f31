/- Kinds of the inputs of layer 4's laws, more. No conditions. -/
import Derived.Test.YtfkafejoacpclaaKinds
namespace Go.Proofs.Ytfkafejoacpclaa
open Go.ChangeShapes Go.WideShapes Go.RowKit Go.Deep
set_option linter.unusedVariables false
theorem fits_u8m {n : Int} (h : fits .u8 n) : ∃ k : Nat, n = k ∧ k < 256 := by
  have h1 := h
  simp [fits, Lit.wf, IntKind.min, IntKind.max, IntKind.signed, IntKind.bits] at h1
  exact ⟨n.toNat, by omega, by omega⟩
theorem threeU8Kind {H : Type} {enc : TypeId × Value → H} {w : World} {fuel : Nat} {cs : List Value} {x : DataW H × List MemPlace} (h : DataW.trod enc Try.prog w 0 (fun _ => true) true fuel 47 cs = some x) :
    ∃ a b c : Nat, cs = [.int .u8 a, .int .u8 b, .int .u8 c] ∧ a < 256 ∧ b < 256 ∧ c < 256 := by
  obtain ⟨l, hk, hf⟩ := (Opens.arr (d := Kn.int .u8) Try.underlying47 (by kernel_rfl) (by kernel_rfl) (Opens.int Try.underlying5)).out h
  obtain ⟨hl, rfl⟩ := Kn.vec_one hk
  match l, hl with
  | [a, b, c], _ =>
    obtain ⟨a', rfl, ha⟩ := fits_u8m (hf a (by simp))
    obtain ⟨b', rfl, hb⟩ := fits_u8m (hf b (by simp))
    obtain ⟨c', rfl, hc⟩ := fits_u8m (hf c (by simp))
    exact ⟨a', b', c', rfl, ha, hb, hc⟩
end Go.Proofs.Ytfkafejoacpclaa
