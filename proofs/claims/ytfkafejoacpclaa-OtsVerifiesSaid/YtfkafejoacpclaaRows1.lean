/- Rows of texts in one block; make with a length; a call through a function's value. No conditions. -/
import Derived.Test.YtfkafejoacpclaaGrowL
import Derived.Laws.MakeOwn
import Derived.Laws.OwnMore
import Derived.Shelf.Abstract
namespace Go.Proofs.Ytfkafejoacpclaa
open Go.RowKit
set_option linter.unusedVariables false
set_option linter.unusedSimpArgs false
def sarr (l : List ByteArray) : Array Value := (l.map Value.string).toArray
theorem sarr_size (l : List ByteArray) : (sarr l).size = l.length := by simp [sarr]
theorem sarr_cell {W : World} {g : Nat} {T : TypeId} {l : List ByteArray} (h : Whole W g T (sarr l)) {i : Nat} (hi : i < l.length) : W.cell? ⟨g, i, none⟩ = some (.string (l.getD i ByteArray.empty)) := by
  rw [h.cell i]
  simp [sarr, hi]
theorem sarr_put {W : World} {g : Nat} {T : TypeId} {l : List ByteArray} (h : Whole W g T (sarr l)) (i : Nat) (s : ByteArray) : Whole (W.setCell ⟨g, i, none⟩ (.string s)) g T (sarr (l.set i s)) := by
  refine h.put' i _ ?_
  apply Array.ext_getElem?
  intro j
  simp only [sarr, List.setIfInBounds_toArray, List.getElem?_toArray, List.map_set]
theorem sgetD_set (l : List ByteArray) (i j : Nat) (s : ByteArray) : (l.set i s).getD j ByteArray.empty = if i = j ∧ i < l.length then s else l.getD j ByteArray.empty := by
  simp only [List.getD_eq_getElem?_getD, List.getElem?_set]
  by_cases h : i = j
  · subst h
    by_cases h2 : i < l.length
    · simp [h2]
    · simp [h2]
  · simp [h]
theorem made1 (z : Value) (hz : z.cells = #[z]) (n : Nat) : madeCells z.cells n = Array.replicate n z := by
  rw [hz]
  unfold madeCells
  apply Array.ext
  · simp
  · intro i h1 h2
    simp
    rw [Nat.mod_one]
    rfl
theorem sarr_replicate (n : Nat) : Array.replicate n (Value.string ⟨#[]⟩) = sarr (List.replicate n ByteArray.empty) := by
  unfold sarr
  rw [List.map_replicate]
  exact (List.toArray_replicate n _).symm
section
variable {P : Program}
/-- make([]T, n), T of one cell. -/
theorem run_make1 {t e : TypeId} {z : Value} {b : Nat} (ht : P.underlying t = some (.slice e)) (hi : (P.info? e).map (fun i => (i.zero, i.size, i.bytes)) = some (some z, 1, b)) (hz : z.cells = #[z]) (n : Nat) (hb : b * n ≤ 281474976710656) (hn : n ≤ 9223372036854775807) (w : World) :
    (Instr.makeSlice t (.int .i64 (n : Int)) (.int .i64 (n : Int))).run P w = .ok (.slice (some ⟨w.heap.size, 0, none⟩) n n) (w.alloc (.cells (Array.replicate n z) e)) := by
  obtain ⟨i, h1, h2, h3, h4⟩ := info_parts hi
  have := run_make (P := P) w t e i z ht h1 h2 .i64 .i64 (n : Int) n (by omega) (Int.le_refl _) (by rw [h4, ← Int.natCast_mul]; omega) (by omega)
  rw [this, h3, Nat.mul_one, Int.toNat_natCast, made1 z hz]
/-- A call through a function's value. -/
theorem wp_callv {d : Option Tmp} {ty' : TypeId} {ts : Array TypeId} {x : Operand} {f : FuncId} {xs : Array Operand} {pos : String} {after : Array Edge} {gd : Option (Nat × Bool)} {a : Act} {w : World} {K : Act → World → Prop} {Q : Exit → Act → World → Prop}
    {vs : Array Value} {post : Ending → World → Prop} (hf : ∀ args w, (callFunc f args).run P w = .ok (.enter f args) w) (hv : a.eval x = .func (.func f) #[] #[]) (hx : xs.map a.eval = vs) (hc : Calls P f vs w post)
    (h : ∀ e w', post e w' → ∃ r, e = .returned r ∧ K (a.put d r) w') :
    Oper.wp P { dst := d, op := .call { callee := .value x, args := xs, argTypes := ts }, type := ty', pos := pos, after := after, guard := gd } a w K Q := by
  have hrun : (execOp a.eval { dst := d, op := .call { callee := .value x, args := xs, argTypes := ts }, type := ty', pos := pos, after := after, guard := gd }).run P w = .ok (.enter f vs) w := by
    simp only [execOp, resolve, hx, hv]
    simp [Deferred.ofValue, invoke, hf]
  unfold Oper.wp
  rw [hrun]
  refine hc.mono fun e w' he => ?_
  obtain ⟨r, rfl, hK⟩ := h e w' he
  exact hK
theorem wl_store1 {ops : Array Oper} {rest : List Oper} {Q : Exit → Act → World → Prop} {d : Option Tmp} {ty ty' : TypeId} {x y : Operand} {pos : String} {after : Array Edge} {a : Act} {w : World}
    {p : Addr} {v old : Value} {i : TypeInfo} (hc : w.cell? p = some old) (hf : w.frozen? p = false) (hi : P.info? ty = some i) (hi1 : i.size = 1) (hx : a.eval x = .pointer (some p)) (hy : a.eval y = v)
    (hv : v.cells = #[v]) (h1 : v.oneCell' = true) (h : wpList P ops Q rest (a.put d undef) (w.setCell p v)) :
    wpList P ops Q ({ dst := d, op := .store ty x y, type := ty', pos := pos, after := after, guard := none } :: rest) a w :=
  wl_of_wp (by simp [Region.wanted]) (wp_store1 hc hf hi hi1 hx hy hv h1 h)
theorem wl_callv {ops : Array Oper} {rest : List Oper} {Q : Exit → Act → World → Prop} {d : Option Tmp} {ty' : TypeId} {ts : Array TypeId} {x : Operand} {f : FuncId} {xs : Array Operand} {pos : String} {after : Array Edge} {a : Act} {w : World}
    {vs : Array Value} {post : Ending → World → Prop} (hf : ∀ args w, (callFunc f args).run P w = .ok (.enter f args) w) (hv : a.eval x = .func (.func f) #[] #[]) (hx : xs.map a.eval = vs) (hc : Calls P f vs w post)
    (h : ∀ e w', post e w' → ∃ r, e = .returned r ∧ wpList P ops Q rest (a.put d r) w') :
    wpList P ops Q ({ dst := d, op := .call { callee := .value x, args := xs, argTypes := ts }, type := ty', pos := pos, after := after, guard := none } :: rest) a w :=
  wl_of_wp (by simp [Region.wanted]) (wp_callv hf hv hx hc h)
variable {ops : Array Oper} {a0 : Act} {w0 : World} {Fin : Env → Prop} {rest : List Oper} {env : Env} {d : Option Tmp} {ty ty' : TypeId} {x : Operand} {pos : String} {after : Array Edge}
theorem wpG_callv {ts : Array TypeId} {f : FuncId} {xs : Array Operand} (vs : Array Value) (v : Value) (hf : ∀ args w, (callFunc f args).run P w = .ok (.enter f args) w)
    (hc : ∀ w, Later w0 w → Calls P f vs w (fun e w' => e = .returned v ∧ Later w w'))
    (hx : ∀ a w, (∀ t, (Oper.looksAt ops { dst := d, op := .call { callee := .value x, args := xs, argTypes := ts }, type := ty', pos := pos, after := after, guard := none }).contains t = true → Known a0 env a w t) → a.eval x = .func (.func f) #[] #[] ∧ xs.map a.eval = vs)
    (hr : wpG P ops a0 w0 Fin rest ((d, Is v) :: env)) : wpG P ops a0 w0 Fin ({ dst := d, op := .call { callee := .value x, args := xs, argTypes := ts }, type := ty', pos := pos, after := after, guard := none } :: rest) env :=
  ⟨Is v, fun _ _ _ _ h => h, fun a w hl hk => gives_of rfl (wp_callv hf (hx a w hk).1 (hx a w hk).2 (hc w hl) (fun e w' he => ⟨v, he.1, ⟨v, rfl, rfl, he.2⟩⟩)), hr⟩
end
end Go.Proofs.Ytfkafejoacpclaa
