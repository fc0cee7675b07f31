/- Laws for the single operations of a drawn region that is walked once. No conditions. -/
import Derived.Test.YtfkafejoacpclaaGrow
import Derived.Test.YtfkafejoacpclaaSteps
namespace Go.Proofs.Ytfkafejoacpclaa
open Go.RowKit
set_option linter.unusedVariables false
set_option linter.unusedSimpArgs false
abbrev Is (v : Value) : Fact := fun u _ => u = v
section
variable {P : Program} {ops : Array Oper} {a0 : Act} {w0 : World} {Fin : Env → Prop} {rest : List Oper} {env : Env}
theorem wpG_nil (h : Fin env) : wpG P ops a0 w0 Fin [] env := h
theorem wpG_step {o : Oper} (F : Fact) (hs : ∀ v w w', Later w w' → F v w → F v w')
    (h : ∀ a w, Later w0 w → (∀ t, (o.looksAt ops).contains t = true → Known a0 env a w t) → Gives P ops o a w F) (hr : wpG P ops a0 w0 Fin rest ((o.dst, F) :: env)) : wpG P ops a0 w0 Fin (o :: rest) env := ⟨F, hs, h, hr⟩
theorem wpG_value {o : Oper} (v : Value) (hg : o.guard = none) (h : ∀ a w, Later w0 w → (∀ t, (o.looksAt ops).contains t = true → Known a0 env a w t) → ∀ K : Result Next → Prop, K (.ok (.value v) w) → K ((execOp a.eval o).run P w))
    (hr : wpG P ops a0 w0 Fin rest ((o.dst, Is v) :: env)) : wpG P ops a0 w0 Fin (o :: rest) env := by
  refine ⟨Is v, fun _ _ _ _ h => h, fun a w hl hk => ?_, hr⟩
  unfold Gives
  rw [if_pos (by simp [Region.wanted, hg])]
  unfold Oper.wp
  exact h a w hl hk (fun r => Oper.upon P o a _ _ r) ⟨v, rfl, rfl, Later.refl w⟩
theorem wpG_value' {o : Oper} {v : Value} (hg : o.guard = none) (h : ∀ a w, Later w0 w → (∀ t, (o.looksAt ops).contains t = true → Known a0 env a w t) → ∀ K : Result Next → Prop, K (.ok (.value v) w) → K ((execOp a.eval o).run P w))
    (hr : wpG P ops a0 w0 Fin rest ((o.dst, Is v) :: env)) : wpG P ops a0 w0 Fin (o :: rest) env := wpG_value v hg h hr
/-- By a law on one operation. -/
theorem gives_of {o : Oper} {a : Act} {w : World} {F : Fact} (hg : o.guard = none) (h : o.wp P a w (fun a' w' => ∃ v, a' = a.put o.dst v ∧ F v w' ∧ Later w w') (fun _ _ _ => False)) : Gives P ops o a w F := by
  unfold Gives
  rw [if_pos (by simp [Region.wanted, hg])]
  exact h
variable {d : Option Tmp} {ty ty' : TypeId} {x : Operand} {pos : String} {after : Array Edge}
theorem wpG_move {v : Value} (hx : ∀ a w, (∀ t, (Oper.looksAt ops { dst := d, op := .move x, type := ty', pos := pos, after := after, guard := none }).contains t = true → Known a0 env a w t) → a.eval x = v)
    (hr : wpG P ops a0 w0 Fin rest ((d, Is v) :: env)) : wpG P ops a0 w0 Fin ({ dst := d, op := .move x, type := ty', pos := pos, after := after, guard := none } :: rest) env :=
  wpG_value v rfl (fun a w hl hk K hK => by rw [← hx a w hk] at hK; simpa [execOp] using hK) hr
theorem wpG_assign {v : Value} (hx : ∀ a w, (∀ t, (Oper.looksAt ops { dst := d, op := .assign x, type := ty', pos := pos, after := after, guard := none }).contains t = true → Known a0 env a w t) → a.eval x = v)
    (hr : wpG P ops a0 w0 Fin rest ((d, Is v) :: env)) : wpG P ops a0 w0 Fin ({ dst := d, op := .assign x, type := ty', pos := pos, after := after, guard := none } :: rest) env :=
  wpG_value v rfl (fun a w hl hk K hK => by rw [← hx a w hk] at hK; simpa [execOp] using hK) hr
/-- A cell read. -/
theorem wpG_load1 {p : Addr} {v : Value} {u : TypeDesc} (hc : w0.cell? p = some v) (hu : P.underlying ty = some u) (hd : (match u with | .struct _ | .array _ _ => true | _ => false) = false)
    (hx : ∀ a w, (∀ t, (Oper.looksAt ops { dst := d, op := .load ty x, type := ty', pos := pos, after := after, guard := none }).contains t = true → Known a0 env a w t) → a.eval x = .pointer (some p))
    (hr : wpG P ops a0 w0 Fin rest ((d, Is v) :: env)) : wpG P ops a0 w0 Fin ({ dst := d, op := .load ty x, type := ty', pos := pos, after := after, guard := none } :: rest) env :=
  ⟨Is v, fun _ _ _ _ h => h, fun a w hl hk => gives_of rfl (wp_load1 (hl.cell hc) hu (hx a w hk) hd ⟨v, rfl, rfl, Later.refl w⟩), hr⟩
/-- A whole block read. -/
theorem wpG_loadW {g : Nat} {t : TypeId} {cs : Array Value} {u : TypeDesc} (hw : Whole w0 g t cs) (hu : P.underlying ty = some u) (hd : (match u with | .struct _ | .array _ _ => true | _ => false) = true) (hi : (P.info? ty).map (·.size) = some cs.size)
    (hx : ∀ a w, (∀ t, (Oper.looksAt ops { dst := d, op := .load ty x, type := ty', pos := pos, after := after, guard := none }).contains t = true → Known a0 env a w t) → a.eval x = .pointer (some ⟨g, 0, none⟩))
    (hr : wpG P ops a0 w0 Fin rest ((d, Is (.agg cs)) :: env)) : wpG P ops a0 w0 Fin ({ dst := d, op := .load ty x, type := ty', pos := pos, after := after, guard := none } :: rest) env :=
  ⟨Is (.agg cs), fun _ _ _ _ h => h, fun a w hl hk => gives_of rfl (wp_loadW (hl.whole hw) hu (hx a w hk) hd hi ⟨_, rfl, rfl, Later.refl w⟩), hr⟩
/-- A struct read inside a larger block. -/
theorem wpG_loadIn {g off : Nat} {t : TypeId} {cs : Array Value} {u : TypeDesc} (part : Array Value) (hw : Whole w0 g t cs) (hp : (cs.toList.drop off).take part.toList.length = part.toList) (hu : P.underlying ty = some u) (hd : (match u with | .struct _ | .array _ _ => true | _ => false) = true) (hi : (P.info? ty).map (·.size) = some part.size)
    (hx : ∀ a w, (∀ t, (Oper.looksAt ops { dst := d, op := .load ty x, type := ty', pos := pos, after := after, guard := none }).contains t = true → Known a0 env a w t) → a.eval x = .pointer (some ⟨g, off, none⟩))
    (hr : wpG P ops a0 w0 Fin rest ((d, Is (.agg part)) :: env)) : wpG P ops a0 w0 Fin ({ dst := d, op := .load ty x, type := ty', pos := pos, after := after, guard := none } :: rest) env :=
  ⟨Is (.agg part), fun _ _ _ _ h => h, fun a w hl hk => gives_of rfl (wp_loadIn part (hl.whole hw) hp hu (hx a w hk) hd hi ⟨_, rfl, rfl, Later.refl w⟩), hr⟩
/-- A call that gives one value, whatever the world. -/
theorem wpG_call {ts : Array TypeId} {f : FuncId} {xs : Array Operand} (vs : Array Value) (v : Value) {fn : Func} (hfn : P.funcs[f]? = some fn) (hname : (fn.name == "runtime.NumGoroutine") = false) (hbody : fn.body.isNone = false)
    (hc : ∀ w, Later w0 w → Calls P f vs w (fun e w' => e = .returned v ∧ Later w w'))
    (hx : ∀ a w, (∀ t, (Oper.looksAt ops { dst := d, op := .call { callee := .value (.func f), args := xs, argTypes := ts }, type := ty', pos := pos, after := after, guard := none }).contains t = true → Known a0 env a w t) → xs.map a.eval = vs)
    (hr : wpG P ops a0 w0 Fin rest ((d, Is v) :: env)) : wpG P ops a0 w0 Fin ({ dst := d, op := .call { callee := .value (.func f), args := xs, argTypes := ts }, type := ty', pos := pos, after := after, guard := none } :: rest) env :=
  ⟨Is v, fun _ _ _ _ h => h, fun a w hl hk => gives_of rfl (wp_callf hfn hname hbody (hx a w hk) (hc w hl) (fun e w' he => ⟨v, he.1, ⟨v, rfl, rfl, he.2⟩⟩)), hr⟩
/-- A call that gives a value of which something is known. -/
theorem wpG_callF {ts : Array TypeId} {f : FuncId} {xs : Array Operand} (F : Fact) (hs : ∀ v w w', Later w w' → F v w → F v w') {fn : Func} (hfn : P.funcs[f]? = some fn) (hname : (fn.name == "runtime.NumGoroutine") = false) (hbody : fn.body.isNone = false)
    (hc : ∀ a w, Later w0 w → (∀ t, (Oper.looksAt ops { dst := d, op := .call { callee := .value (.func f), args := xs, argTypes := ts }, type := ty', pos := pos, after := after, guard := none }).contains t = true → Known a0 env a w t) → Calls P f (xs.map a.eval) w (fun e w' => ∃ v, e = .returned v ∧ F v w' ∧ Later w w'))
    (hr : wpG P ops a0 w0 Fin rest ((d, F) :: env)) : wpG P ops a0 w0 Fin ({ dst := d, op := .call { callee := .value (.func f), args := xs, argTypes := ts }, type := ty', pos := pos, after := after, guard := none } :: rest) env :=
  ⟨F, hs, fun a w hl hk => gives_of rfl (wp_callf hfn hname hbody rfl (hc a w hl hk) (fun e w' he => by obtain ⟨v, h1, h2, h3⟩ := he; exact ⟨v, h1, ⟨v, rfl, h2, h3⟩⟩)), hr⟩
/-- Bytes in a block of their own. -/
def BytesF (e : TypeId) (l : List Int) : Fact := fun v w => ∃ g, v = .slice (some ⟨g, 0, none⟩) l.length l.length ∧ Whole w g e (l.map (Value.int .u8)).toArray
theorem BytesF.later {e : TypeId} {l : List Int} (v : Value) (w w' : World) (h : Later w w') (k : BytesF e l v w) : BytesF e l v w' := by
  obtain ⟨g, rfl, hw⟩ := k
  exact ⟨g, rfl, h.whole hw⟩
def ByteT (P : Program) (e : TypeId) : Prop := (P.info? e).map (fun i => (i.zero, i.size, i.bytes)) = some (some (.int .u8 0), 1, 1)
/-- Four bytes, or one, laid. -/
theorem wpG_build4 {t e : TypeId} {x0 x1 x2 x3 : Operand} {y0 y1 y2 y3 : Int} (hu : P.underlying t = some (.slice e)) (he : ByteT P e)
    (hx : ∀ a w, (∀ t', (Oper.looksAt ops { dst := d, op := .buildSlice t 4 #[(0, x0), (1, x1), (2, x2), (3, x3)], type := ty', pos := pos, after := after, guard := none }).contains t' = true → Known a0 env a w t') → a.eval x0 = .int .u8 y0 ∧ a.eval x1 = .int .u8 y1 ∧ a.eval x2 = .int .u8 y2 ∧ a.eval x3 = .int .u8 y3)
    (hr : wpG P ops a0 w0 Fin rest ((d, BytesF e [y0, y1, y2, y3]) :: env)) : wpG P ops a0 w0 Fin ({ dst := d, op := .buildSlice t 4 #[(0, x0), (1, x1), (2, x2), (3, x3)], type := ty', pos := pos, after := after, guard := none } :: rest) env := by
  obtain ⟨ie, h1, h2, h3, h4⟩ := info_parts he
  refine ⟨BytesF e [y0, y1, y2, y3], BytesF.later, fun a w hl hk => gives_of rfl ?_, hr⟩
  obtain ⟨e0, e1, e2, e3⟩ := hx a w hk
  refine wp_buildSlice t e 4 _ rfl #[.int .u8 y0, .int .u8 y1, .int .u8 y2, .int .u8 y3] ie _ hu h1 h2 (by rw [h3]; decide) (by rw [h3]; decide) ?_ ⟨_, rfl, ⟨_, rfl, Whole.new _ _ _⟩, (Later.refl w).alloc _⟩
  rw [h3]
  simp only [List.map_toArray, List.map_cons, List.map_nil, e0, e1, e2, e3]
  kernel_rfl
theorem wpG_build1 {t e : TypeId} {x0 : Operand} {y0 : Int} (hu : P.underlying t = some (.slice e)) (he : ByteT P e)
    (hx : ∀ a w, (∀ t', (Oper.looksAt ops { dst := d, op := .buildSlice t 1 #[(0, x0)], type := ty', pos := pos, after := after, guard := none }).contains t' = true → Known a0 env a w t') → a.eval x0 = .int .u8 y0)
    (hr : wpG P ops a0 w0 Fin rest ((d, BytesF e [y0]) :: env)) : wpG P ops a0 w0 Fin ({ dst := d, op := .buildSlice t 1 #[(0, x0)], type := ty', pos := pos, after := after, guard := none } :: rest) env := by
  obtain ⟨ie, h1, h2, h3, h4⟩ := info_parts he
  refine ⟨BytesF e [y0], BytesF.later, fun a w hl hk => gives_of rfl ?_, hr⟩
  have e0 := hx a w hk
  refine wp_buildSlice t e 1 _ rfl #[.int .u8 y0] ie _ hu h1 h2 (by rw [h3]; decide) (by rw [h3]; decide) ?_ ⟨_, rfl, ⟨_, rfl, Whole.new _ _ _⟩, (Later.refl w).alloc _⟩
  rw [h3]
  simp only [List.map_toArray, List.map_cons, List.map_nil, e0]
  kernel_rfl
/-- string(bytes). -/
theorem wpG_str {src dst e : TypeId} {l : List Int} (hs : P.underlying src = some (.slice e)) (he : P.underlying e = some (.int .u8)) (hd : P.underlying dst = some .string)
    (hx : ∀ a w, (∀ t, (Oper.looksAt ops { dst := d, op := .convert src dst x, type := ty', pos := pos, after := after, guard := none }).contains t = true → Known a0 env a w t) → BytesF e l (a.eval x) w)
    (hr : wpG P ops a0 w0 Fin rest ((d, Is (.string (strOfNums l))) :: env)) : wpG P ops a0 w0 Fin ({ dst := d, op := .convert src dst x, type := ty', pos := pos, after := after, guard := none } :: rest) env :=
  wpG_value _ rfl (fun a w hl hk K hK => by
    obtain ⟨g, hv, hw⟩ := hx a w hk
    have h1 := run_convert_bytes_arg (P := P) (w := w) src e hs he g 0 l.length l.length l rfl (fun i hi => by rw [hw.cell]; simp [hi]) dst hd
    simp only [execOp, hv, Sem.run_bind, h1, Result.andThen_ok, Sem.run_pure]
    exact hK) hr
theorem fin_is {K : Act → World → Prop} {d : Option Tmp} {v : Value} {rest : Env} {a : Act} {w : World} (h : fin K rest (a.put d v) w) : fin K ((d, Is v) :: rest) a w := fun u hu => by
  have : u = v := hu
  subst this
  exact h
theorem fin_some {K : Act → World → Prop} {d : Option Tmp} {F : Fact} {rest : Env} {a : Act} {w : World} (h : ∀ v, F v w → fin K rest (a.put d v) w) : fin K ((d, F) :: rest) a w := h
theorem fin_nil {K : Act → World → Prop} {a : Act} {w : World} (h : K a w) : fin K [] a w := h
end
end Go.Proofs.Ytfkafejoacpclaa
