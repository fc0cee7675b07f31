/- Drawn regions by hand: a frame under a name, other spellings, the rest one by one. No conditions. -/
import Derived.Test.YtfkafejoacpclaaGrow
import Derived.Test.YtfkafejoacpclaaSteps
namespace Go.Proofs.Ytfkafejoacpclaa
open Go.RowKit
set_option linter.unusedVariables false
theorem anyCast {P : Program} {md : Region.Mode} {ops : Array Oper} {Q : Exit → Act → World → Prop} {fuel fuel' : Nat} {listed listed' : Array Bool} {a : Act} {w : World} (hf : fuel' = fuel) (hl : listed' = listed) (h : wpAny P md ops Q fuel listed a w) : wpAny P md ops Q fuel' listed' a w := by
  rw [hf, hl]
  exact h
theorem anyGen {P : Program} {md : Region.Mode} {ops : Array Oper} {Q : Exit → Act → World → Prop} {fuel : Nat} {listed : Array Bool} {a : Act} {w : World} (h : ∀ a1, a1 = a → wpAny P md ops Q fuel listed a1 w) : wpAny P md ops Q fuel listed a w := h a rfl
theorem anySeq {P : Program} {l : List Oper} {Q : Exit → Act → World → Prop} {a : Act} {w : World} (n : Nat) (hB : Region.seqB .any l.toArray (l.length - n) n (headDone n l.length) = true) (h : wpList P l.toArray Q (l.drop n) a w) : wpAny P .any l.toArray Q (l.length - n) (headDone n l.length) a w := by
  have hdl : (l.drop n).length = l.length - n := by simp
  have := wpAny_of_seq (md := .any) (Q' := Q) (l.drop n) n (headDone n l.length) a w (fun j => by simp [List.getElem?_drop]) (by rw [hdl]; exact hB) h
  rwa [hdl] at this
end Go.Proofs.Ytfkafejoacpclaa
