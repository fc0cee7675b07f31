/- Regions that draw their order, more: guarded operations. No conditions. -/
import Derived.Test.YtfkafejoacpclaaGrowL
import Derived.Test.YtfkafejoacpclaaGrowS
namespace Go.Proofs.Ytfkafejoacpclaa
open Go.RowKit
set_option linter.unusedVariables false
set_option linter.unusedSimpArgs false
section
variable {P : Program} {ops : Array Oper} {a0 : Act} {w0 : World} {Fin : Env → Prop} {rest : List Oper} {env : Env}
theorem wanted_of {o : Oper} {a : Act} {j s : Nat} {want b : Bool} (hg : o.guard = some (j, want)) (hd : (ops[j]?).bind (·.dst) = some s) (hv : a.eval (.tmp s) = .bool b) : Region.wanted o (yielded ops a.tmps) = (b == want) := by
  have e : a.tmps[s]? = some (.bool b) := by
    have h : a.tmps.getD s undef = .bool b := hv
    rw [Array.getD_eq_getD_getElem?] at h
    cases hx : a.tmps[s]? with
    | none => rw [hx] at h; cases h
    | some v => rw [hx] at h; exact congrArg some h
  unfold Region.wanted
  rw [hg]
  show (yielded ops a.tmps j == some want) = _
  have y : yielded ops a.tmps j = some b := by
    unfold yielded
    rw [hd]
    show (match a.tmps[s]? with | some (.bool b) => some b | _ => none) = _
    rw [e]
  rw [y]
  cases b <;> cases want <;> rfl
/-- An operation that the guard lets out. -/
theorem wpG_skip {o : Oper} (hw : ∀ a w, Later w0 w → (∀ t, (o.looksAt ops).contains t = true → Known a0 env a w t) → Region.wanted o (yielded ops a.tmps) = false)
    (hr : wpG P ops a0 w0 Fin rest ((o.dst, Is undef) :: env)) : wpG P ops a0 w0 Fin (o :: rest) env :=
  ⟨Is undef, fun _ _ _ _ h => h, fun a w hl hk => by
    unfold Gives
    rw [if_neg (by rw [hw a w hl hk]; decide)], hr⟩
/-- An operation that the guard lets in: as if it had none. -/
theorem wpG_guard {d : Option Tmp} {op : Op} {ty : TypeId} {pos : String} {after : Array Edge} {g : Option (Nat × Bool)}
    (hw : ∀ a w, Later w0 w → (∀ t, (Oper.looksAt ops { dst := d, op := op, type := ty, pos := pos, after := after, guard := g }).contains t = true → Known a0 env a w t) → Region.wanted { dst := d, op := op, type := ty, pos := pos, after := after, guard := g } (yielded ops a.tmps) = true)
    (h : wpG P ops a0 w0 Fin ({ dst := d, op := op, type := ty, pos := pos, after := after, guard := none } :: rest) env) : wpG P ops a0 w0 Fin ({ dst := d, op := op, type := ty, pos := pos, after := after, guard := g } :: rest) env := by
  obtain ⟨F, hs, ho, hr⟩ := h
  refine ⟨F, hs, fun a w hl hk => ?_, hr⟩
  have g1 := ho a w hl (fun t ht => hk t (by
    simp only [Oper.looksAt, List.append_nil] at ht ⊢
    rw [List.contains_eq_mem, decide_eq_true_eq] at ht ⊢
    exact List.mem_append_left _ ht))
  unfold Gives at g1 ⊢
  rw [if_pos (by simp [Region.wanted])] at g1
  rw [if_pos (hw a w hl hk)]
  exact g1
/-- A value of which only something is known. -/
theorem wpG_valueF {o : Oper} (F : Fact) (hs : ∀ v w w', Later w w' → F v w → F v w') (hg : o.guard = none) (h : ∀ a w, Later w0 w → (∀ t, (o.looksAt ops).contains t = true → Known a0 env a w t) → ∃ v, F v w ∧ ∀ K : Result Next → Prop, K (.ok (.value v) w) → K ((execOp a.eval o).run P w))
    (hr : wpG P ops a0 w0 Fin rest ((o.dst, F) :: env)) : wpG P ops a0 w0 Fin (o :: rest) env := by
  refine ⟨F, hs, fun a w hl hk => ?_, hr⟩
  obtain ⟨v, hv, hK⟩ := h a w hl hk
  unfold Gives
  rw [if_pos (by simp [Region.wanted, hg])]
  unfold Oper.wp
  exact hK (fun r => Oper.upon P o a _ _ r) ⟨v, rfl, hv, Later.refl w⟩
variable {d : Option Tmp} {ty' : TypeId} {x : Operand} {pos : String} {after : Array Edge}
theorem wpG_moveF (F : Fact) (hs : ∀ v w w', Later w w' → F v w → F v w') (hx : ∀ a w, Later w0 w → (∀ t, (Oper.looksAt ops { dst := d, op := .move x, type := ty', pos := pos, after := after, guard := none }).contains t = true → Known a0 env a w t) → F (a.eval x) w)
    (hr : wpG P ops a0 w0 Fin rest ((d, F) :: env)) : wpG P ops a0 w0 Fin ({ dst := d, op := .move x, type := ty', pos := pos, after := after, guard := none } :: rest) env :=
  wpG_valueF F hs rfl (fun a w hl hk => ⟨_, hx a w hl hk, fun K hK => by simpa [execOp] using hK⟩) hr
theorem wpG_assignF (F : Fact) (hs : ∀ v w w', Later w w' → F v w → F v w') (hx : ∀ a w, Later w0 w → (∀ t, (Oper.looksAt ops { dst := d, op := .assign x, type := ty', pos := pos, after := after, guard := none }).contains t = true → Known a0 env a w t) → F (a.eval x) w)
    (hr : wpG P ops a0 w0 Fin rest ((d, F) :: env)) : wpG P ops a0 w0 Fin ({ dst := d, op := .assign x, type := ty', pos := pos, after := after, guard := none } :: rest) env :=
  wpG_valueF F hs rfl (fun a w hl hk => ⟨_, hx a w hl hk, fun K hK => by simpa [execOp] using hK⟩) hr
/-- A part of a call's results. -/
theorem wpG_extractF {i : Nat} (F : Fact) (hs : ∀ v w w', Later w w' → F v w → F v w') (hx : ∀ a w, Later w0 w → (∀ t, (Oper.looksAt ops { dst := d, op := .extract x i, type := ty', pos := pos, after := after, guard := none }).contains t = true → Known a0 env a w t) → ∃ vs v, a.eval x = .tuple vs ∧ vs[i]? = some v ∧ F v w)
    (hr : wpG P ops a0 w0 Fin rest ((d, F) :: env)) : wpG P ops a0 w0 Fin ({ dst := d, op := .extract x i, type := ty', pos := pos, after := after, guard := none } :: rest) env :=
  wpG_valueF F hs rfl (fun a w hl hk => by
    obtain ⟨vs, v, h1, h2, h3⟩ := hx a w hl hk
    exact ⟨v, h3, fun K hK => by simpa [execOp, Instr.extract, h1, h2] using hK⟩) hr
/-- Of two results: a row of texts of the call's own, and a number. -/
def RowAndF (e : TypeId) (base : Nat) (q : List ByteArray) (u : Value) : Fact := fun x W => ∃ v, x = .tuple #[v, u] ∧ TextRow e base q v W
theorem RowAndF.later {e : TypeId} {base : Nat} {q : List ByteArray} {u : Value} (x : Value) (W W' : World) (h : Later W W') (hh : RowAndF e base q u x W) : RowAndF e base q u x W' := by
  obtain ⟨v, h1, h2⟩ := hh
  exact ⟨v, h1, TextRow.later _ _ _ h h2⟩
theorem RowAndF.fst {e : TypeId} {base : Nat} {q : List ByteArray} {u x : Value} {W : World} (hh : RowAndF e base q u x W) : ∃ vs v, x = .tuple vs ∧ vs[0]? = some v ∧ TextRow e base q v W := by
  obtain ⟨v, h1, h2⟩ := hh
  exact ⟨_, v, h1, rfl, h2⟩
theorem RowAndF.snd {e : TypeId} {base : Nat} {q : List ByteArray} {u x : Value} {W : World} (hh : RowAndF e base q u x W) : ∃ vs v, x = .tuple vs ∧ vs[1]? = some v ∧ Is u v W := by
  obtain ⟨v, h1, h2⟩ := hh
  exact ⟨_, u, h1, rfl, rfl⟩
end
end Go.Proofs.Ytfkafejoacpclaa
