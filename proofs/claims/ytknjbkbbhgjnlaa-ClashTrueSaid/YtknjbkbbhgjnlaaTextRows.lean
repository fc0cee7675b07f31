/- A row of texts of the call's own is read as a row. No conditions. -/
import Derived.Test.YtknjbkbbhgjnlaaKinds
import Derived.Test.YtknjbkbbhgjnlaaToolA
namespace Go.Proofs.Ytknjbkbbhgjnlaa
open Go.RowKit
set_option linter.unusedVariables false
set_option linter.unusedSimpArgs false
/-- A row of the call's own is read as a row. -/
theorem TextRow.rows {w : World} {base : Nat} {e : TypeId} {v : Value} {l : List ByteArray} (h : TextRow e base l v w) (hl : l.length ≤ 9223372036854775807) :
    ∃ A c, v = .slice A l.length c ∧ l.length ≤ c ∧ Kn.str.Rows w A l := by
  rcases h.2 with ⟨rfl, hn⟩ | ⟨g, cap, cur, rfl, hb, hgg, hc, _⟩
  · refine ⟨none, 0, by rw [hn], by omega, hl, fun h => absurd h (by omega)⟩
  · refine ⟨some ⟨g, 0, none⟩, cap, rfl, hc, hl, fun _ => ⟨_, rfl, (Array.getElem?_eq_some_iff.1 hgg).1, fun j x hj => ⟨[.string x], rfl, fun i u hu => ?_⟩⟩⟩
    match i, hu with
    | 0, hu =>
      simp at hu
      subst hu
      refine h.cells rfl _ _ ?_
      show (l.map Value.string)[j * 1 + 0]? = _
      simp [hj]
end Go.Proofs.Ytknjbkbbhgjnlaa
