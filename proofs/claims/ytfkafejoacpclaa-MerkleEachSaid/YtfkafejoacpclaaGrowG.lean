/- Regions that draw their order, more: guarded operations. No conditions. -/
import Derived.Test.YtfkafejoacpclaaGrowL
namespace Go.Proofs.Ytfkafejoacpclaa
open Go.RowKit
set_option linter.unusedVariables false
set_option linter.unusedSimpArgs false
section
variable {P : Program} {ops : Array Oper} {a0 : Act} {w0 : World} {Fin : Env → Prop} {rest : List Oper} {env : Env}
theorem wanted_of {o : Oper} {a : Act} {j s : Nat} {want b : Bool} (hg : o.guard = some (j, want)) (hd : (ops[j]?).bind (·.dst) = some s) (hv : a.eval (.tmp s) = .bool b) : Region.wanted o (yielded ops a.tmps) = (b == want) := by
  have e : a.tmps[s]? = some (.bool b) := by
    have h : a.tmps.getD s undef = .bool b := hv
    rw [Array.getD_eq_getD_getElem?] at h
    cases hx : a.tmps[s]? with
    | none => rw [hx] at h; cases h
    | some v => rw [hx] at h; exact congrArg some h
  unfold Region.wanted
  rw [hg]
  show (yielded ops a.tmps j == some want) = _
  have y : yielded ops a.tmps j = some b := by
    unfold yielded
    rw [hd]
    show (match a.tmps[s]? with | some (.bool b) => some b | _ => none) = _
    rw [e]
  rw [y]
  cases b <;> cases want <;> rfl
/-- An operation that the guard lets out. -/
theorem wpG_skip {o : Oper} (hw : ∀ a w, Later w0 w → (∀ t, (o.looksAt ops).contains t = true → Known a0 env a w t) → Region.wanted o (yielded ops a.tmps) = false)
    (hr : wpG P ops a0 w0 Fin rest ((o.dst, Is undef) :: env)) : wpG P ops a0 w0 Fin (o :: rest) env :=
  ⟨Is undef, fun _ _ _ _ h => h, fun a w hl hk => by
    unfold Gives
    rw [if_neg (by rw [hw a w hl hk]; decide)], hr⟩
/-- An operation that the guard lets in: as if it had none. -/
theorem wpG_guard {d : Option Tmp} {op : Op} {ty : TypeId} {pos : String} {after : Array Edge} {g : Option (Nat × Bool)}
    (hw : ∀ a w, Later w0 w → (∀ t, (Oper.looksAt ops { dst := d, op := op, type := ty, pos := pos, after := after, guard := g }).contains t = true → Known a0 env a w t) → Region.wanted { dst := d, op := op, type := ty, pos := pos, after := after, guard := g } (yielded ops a.tmps) = true)
    (h : wpG P ops a0 w0 Fin ({ dst := d, op := op, type := ty, pos := pos, after := after, guard := none } :: rest) env) : wpG P ops a0 w0 Fin ({ dst := d, op := op, type := ty, pos := pos, after := after, guard := g } :: rest) env := by
  obtain ⟨F, hs, ho, hr⟩ := h
  refine ⟨F, hs, fun a w hl hk => ?_, hr⟩
  have g1 := ho a w hl (fun t ht => hk t (by
    simp only [Oper.looksAt, List.append_nil] at ht ⊢
    rw [List.contains_eq_mem, decide_eq_true_eq] at ht ⊢
    exact List.mem_append_left _ ht))
  unfold Gives at g1 ⊢
  rw [if_pos (by simp [Region.wanted])] at g1
  rw [if_pos (hw a w hl hk)]
  exact g1
end
end Go.Proofs.Ytfkafejoacpclaa
