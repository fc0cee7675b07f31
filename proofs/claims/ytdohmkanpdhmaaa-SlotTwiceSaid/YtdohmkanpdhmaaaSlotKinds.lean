/- Places and ballots that come in. No conditions. -/
import Derived.Test.YtdohmkanpdhmaaaKinds
import Derived.Test.YtdohmkanpdhmaaaSlotSpec
namespace Go.Proofs.Ytdohmkanpdhmaaa
open Go.ChangeShapes Go.WideShapes Go.RowKit Go.Deep
set_option linter.unusedVariables false
theorem slotKind {H : Type} {enc : TypeId × Value → H} {w : World} {fuel : Nat} {cs : List Value} {x : DataW H × List MemPlace} (h : DataW.trod enc Try.prog w 0 (fun _ => true) true fuel 23 cs = some x) :
    ∃ s : SL, cs = s.A.toList ∧ s.v.size ≤ 9223372036854775807 := by
  have K := Opens.struct (tot := 3) Try.underlying23 (by kernel_rfl) (OpensF.cons (off' := 1) rfl rfl (by kernel_rfl) (Opens.int Try.underlying3) (OpensF.cons (off' := 2) rfl rfl (by kernel_rfl) (Opens.int Try.underlying3) (OpensF.last rfl rfl (by kernel_rfl) (Opens.str Try.underlying9))))
  obtain ⟨⟨p, b, v⟩, ⟨c0, _, rfl, h0, c1, c2, rfl, h1, h2⟩, _, _, hv⟩ := K.out h
  obtain rfl := h0
  obtain rfl := h1
  obtain rfl := h2
  exact ⟨⟨p, b, v⟩, rfl, hv⟩
theorem pairKind {H : Type} {enc : TypeId × Value → H} {w : World} {fuel : Nat} {cs : List Value} {x : DataW H × List MemPlace} (h : DataW.trod enc Try.prog w 0 (fun _ => true) true fuel 24 cs = some x) :
    ∃ b c : Int, cs = [.int .i64 b, .int .i64 c] ∧ True := by
  obtain ⟨l, hk, _⟩ := (Opens.arr (d := Kn.int .i64) Try.underlying24 (by kernel_rfl) (by kernel_rfl) (Opens.int Try.underlying3)).out h
  obtain ⟨hl, rfl⟩ := Kn.vec_one hk
  match l, hl with
  | [b, c], _ => exact ⟨b, c, rfl, trivial⟩
end Go.Proofs.Ytdohmkanpdhmaaa
