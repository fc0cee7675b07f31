/- Steps of a walk as laws of one operation: a struct read or written inside a larger block; a region that draws its order, taken operation by operation. No conditions. -/
import Derived.Test.YtfkafejoacpclaaWords
import Derived.Laws.CopyRow
import Derived.Deep.RegionLaw
import Derived.Great.BuildSlice
namespace Go.Proofs.Ytfkafejoacpclaa
open Go.RowKit
set_option linter.unusedVariables false
set_option linter.unusedSimpArgs false
section
variable {P : Program}
/-- A step of a region that draws its order: one operation may come next; two may; three may. -/
theorem any_one {md : Region.Mode} {ops : Array Oper} {Q : Exit → Act → World → Prop} {fuel : Nat} {listed : Array Bool} {a : Act} {w : World} {i : Nat} {o : Oper} (hr : Region.ready md ops listed = [i]) (h1 : ops[i]? = some o) (hg1 : o.guard = none)
    (g1 : Oper.wp P o a w (wpAny P md ops Q fuel (listed.setIfInBounds i true)) Q) : wpAny P md ops Q (fuel + 1) listed a w :=
  wpAny_ready hr (by simp) (AllReady.cons h1 (fun K hK => by
    rw [if_pos (by simp [Region.wanted, hg1])]
    exact Oper.wp_mono hK g1) AllReady.nil)
theorem any_two {md : Region.Mode} {ops : Array Oper} {Q : Exit → Act → World → Prop} {fuel : Nat} {listed : Array Bool} {a : Act} {w : World} {i j : Nat} {o o2 : Oper} (hr : Region.ready md ops listed = [i, j]) (h1 : ops[i]? = some o) (hg1 : o.guard = none) (h2 : ops[j]? = some o2) (hg2 : o2.guard = none)
    (g1 : Oper.wp P o a w (wpAny P md ops Q fuel (listed.setIfInBounds i true)) Q) (g2 : Oper.wp P o2 a w (wpAny P md ops Q fuel (listed.setIfInBounds j true)) Q) : wpAny P md ops Q (fuel + 1) listed a w :=
  wpAny_ready hr (by simp) (AllReady.cons h1 (fun K hK => by
    rw [if_pos (by simp [Region.wanted, hg1])]
    exact Oper.wp_mono hK g1) (AllReady.cons h2 (fun K hK => by
    rw [if_pos (by simp [Region.wanted, hg2])]
    exact Oper.wp_mono hK g2) AllReady.nil))
theorem any_three {md : Region.Mode} {ops : Array Oper} {Q : Exit → Act → World → Prop} {fuel : Nat} {listed : Array Bool} {a : Act} {w : World} {i j k : Nat} {o o2 o3 : Oper} (hr : Region.ready md ops listed = [i, j, k]) (h1 : ops[i]? = some o) (hg1 : o.guard = none) (h2 : ops[j]? = some o2) (hg2 : o2.guard = none) (h3 : ops[k]? = some o3) (hg3 : o3.guard = none)
    (g1 : Oper.wp P o a w (wpAny P md ops Q fuel (listed.setIfInBounds i true)) Q) (g2 : Oper.wp P o2 a w (wpAny P md ops Q fuel (listed.setIfInBounds j true)) Q) (g3 : Oper.wp P o3 a w (wpAny P md ops Q fuel (listed.setIfInBounds k true)) Q) : wpAny P md ops Q (fuel + 1) listed a w :=
  wpAny_ready hr (by simp) (AllReady.cons h1 (fun K hK => by
    rw [if_pos (by simp [Region.wanted, hg1])]
    exact Oper.wp_mono hK g1) (AllReady.cons h2 (fun K hK => by
    rw [if_pos (by simp [Region.wanted, hg2])]
    exact Oper.wp_mono hK g2) (AllReady.cons h3 (fun K hK => by
    rw [if_pos (by simp [Region.wanted, hg3])]
    exact Oper.wp_mono hK g3) AllReady.nil)))
theorem eval_put (a : Act) (d e : Tmp) (v : Value) : (a.put (some d) v).eval (.tmp e) = if d = e ∧ d < a.tmps.size then v else a.eval (.tmp e) := by
  simp only [Act.put, Act.eval, Array.getD_eq_getD_getElem?, Array.getElem?_setIfInBounds]
  by_cases h : d = e
  · subst h
    by_cases h2 : d < a.tmps.size
    · simp [h2]
    · simp [h2]
  · simp [h]
theorem size_put (a : Act) (d : Option Tmp) (v : Value) : (a.put d v).tmps.size = a.tmps.size := by cases d <;> simp [Act.put]
theorem put_none (a : Act) (v : Value) : a.put none v = a := rfl
/-- A struct read inside a larger block. -/
theorem wp_loadIn {d : Option Tmp} {ty ty' : TypeId} {x : Operand} {pos : String} {after : Array Edge} {gd : Option (Nat × Bool)} {a : Act} {w : World} {K : Act → World → Prop} {Q : Exit → Act → World → Prop}
    {g off : Nat} {t : TypeId} {cs : Array Value} {u : TypeDesc} (part : Array Value) (hg : Whole w g t cs) (hp : (cs.toList.drop off).take part.toList.length = part.toList) (hu : P.underlying ty = some u) (hx : a.eval x = .pointer (some ⟨g, off, none⟩))
    (hd : (match u with | .struct _ | .array _ _ => true | _ => false) = true) (hi : (P.info? ty).map (·.size) = some part.size)
    (h : K (a.put d (.agg part)) w) :
    Oper.wp P { dst := d, op := .load ty x, type := ty', pos := pos, after := after, guard := gd } a w K Q := by
  have hl : (loadCells ⟨g, off, none⟩ part.toList.length).run P w = .ok part.toList.toArray w :=
    run_loadCells_list (P := P) w ⟨g, off, none⟩ part.toList (fun j v hv => by
      have hadd : (⟨g, off, none⟩ : Addr).add j = ⟨g, off + j, none⟩ := by unfold Addr.add; split <;> simp_all
      rw [hadd, cell_of_row w g (off + j) cs t (0, 0) hg]
      have hj : j < part.toList.length := by
        rcases Nat.lt_or_ge j part.toList.length with h | h
        · exact h
        · rw [List.getElem?_eq_none h] at hv; cases hv
      rw [← hp, List.getElem?_take, if_pos hj, List.getElem?_drop] at hv
      simpa using hv)
  have hrun : (loadVar ty ⟨g, off, none⟩).run P w = .ok (.agg part) w := by
    cases hq : P.info? ty with
    | none => simp [hq] at hi
    | some i =>
      have hs : i.size = part.size := by simpa [hq] using hi
      have hagg : (isAgg ty).run P w = .ok true w := by
        unfold isAgg
        rw [Sem.run_bind, run_underlying hu w]
        cases u <;> simp_all
      simp only [Array.length_toList, Array.toArray_toList] at hl
      simp [loadVar, Sem.run_bind, hagg, sizeOf, typeInfo, hq, hs, hl]
  unfold Oper.wp execOp
  simp only [hx, Instr.loadAt, Instr.sureAddr, Sem.run_bind, Sem.run_pure, Result.andThen_ok, hrun]
  exact h
/-- A struct written inside a larger block. -/
theorem wp_storeIn {d : Option Tmp} {ty ty' : TypeId} {x y : Operand} {pos : String} {after : Array Edge} {gd : Option (Nat × Bool)} {a : Act} {w : World} {K : Act → World → Prop} {Q : Exit → Act → World → Prop}
    {g off : Nat} {t : TypeId} {old part : Array Value} (cs : Array Value) (hg : Whole w g t old) (hx : a.eval x = .pointer (some ⟨g, off, none⟩)) (hy : a.eval y = .agg part)
    (hi : (P.info? ty).map (·.size) = some part.size) (hfit : off + part.toList.length ≤ old.size) (h1 : part.toList.all (·.oneCell') = true)
    (hc : (old.toList.take off ++ part.toList ++ old.toList.drop (off + part.toList.length)).toArray = cs)
    (h : ∀ w', Whole w' g t cs → w.grownBy w' (some g) → w'.heap.size = w.heap.size → K (a.put d undef) w') :
    Oper.wp P { dst := d, op := .store ty x y, type := ty', pos := pos, after := after, guard := gd } a w K Q := by
  have hst := run_storeCells_at (P := P) g off t part.toList 0 old w hg (by simpa using hfit) (fun v hv => List.all_eq_true.1 h1 v hv)
  rw [show off + 0 = off from rfl, hc] at hst
  have hrun : (storeVar ty ⟨g, off, none⟩ (.agg part)).run P w = .ok () (w.setRow g cs) := by
    cases hq : P.info? ty with
    | none => simp [hq] at hi
    | some i =>
      have hs : part.size = i.size := by simp [hq] at hi; omega
      simp [storeVar, sizeOf, typeInfo, hq, Value.cells, hs, hst]
  unfold Oper.wp execOp
  simp only [hx, hy, Instr.storeAt, Instr.sureAddr, Sem.run_bind, Sem.run_pure, Result.andThen_ok, hrun]
  exact h _ (setRow_heap w g old cs t _ hg) ⟨rfl, rfl, rfl, by simp, fun i hi hne => by
      simp only [World.setRow, Array.getElem?_modify]
      rw [if_neg (fun e => hne (by rw [e]))]⟩ (by simp)
theorem wl_storeIn {ops : Array Oper} {rest : List Oper} {d : Option Tmp} {ty ty' : TypeId} {x y : Operand} {pos : String} {after : Array Edge} {gd : Option (Nat × Bool)} {a : Act} {w : World} {Q : Exit → Act → World → Prop}
    {g off : Nat} {t : TypeId} {old part : Array Value} (cs : Array Value) (hg : Whole w g t old)
    (hw : Region.wanted { dst := d, op := .store ty x y, type := ty', pos := pos, after := after, guard := gd } (yielded ops a.tmps) = true) (hx : a.eval x = .pointer (some ⟨g, off, none⟩)) (hy : a.eval y = .agg part)
    (hi : (P.info? ty).map (·.size) = some part.size) (hfit : off + part.toList.length ≤ old.size) (h1 : part.toList.all (·.oneCell') = true)
    (hc : (old.toList.take off ++ part.toList ++ old.toList.drop (off + part.toList.length)).toArray = cs)
    (h : ∀ w', Whole w' g t cs → w.grownBy w' (some g) → w'.heap.size = w.heap.size → wpList P ops Q rest (a.put d undef) w') :
    wpList P ops Q ({ dst := d, op := .store ty x y, type := ty', pos := pos, after := after, guard := gd } :: rest) a w :=
  wl_of_wp hw (wp_storeIn cs hg hx hy hi hfit h1 hc h)
/-- A value of one cell, read; written. -/
theorem wp_load1 {d : Option Tmp} {ty ty' : TypeId} {x : Operand} {pos : String} {after : Array Edge} {gd : Option (Nat × Bool)} {a : Act} {w : World} {K : Act → World → Prop} {Q : Exit → Act → World → Prop}
    {p : Addr} {v : Value} {u : TypeDesc} (hc : w.cell? p = some v) (hu : P.underlying ty = some u) (hx : a.eval x = .pointer (some p))
    (hd : (match u with | .struct _ | .array _ _ => true | _ => false) = false) (h : K (a.put d v) w) :
    Oper.wp P { dst := d, op := .load ty x, type := ty', pos := pos, after := after, guard := gd } a w K Q := by
  have hagg : (isAgg ty).run P w = .ok false w := by
    unfold isAgg
    rw [Sem.run_bind, run_underlying hu w]
    cases u <;> simp_all
  have hrun : (loadVar ty p).run P w = .ok v w := by
    simp [loadVar, Sem.run_bind, hagg, hc]
  unfold Oper.wp execOp
  simp only [hx, Instr.loadAt, Instr.sureAddr, Sem.run_bind, Sem.run_pure, Result.andThen_ok, hrun]
  exact h
theorem wp_store1 {d : Option Tmp} {ty ty' : TypeId} {x y : Operand} {pos : String} {after : Array Edge} {gd : Option (Nat × Bool)} {a : Act} {w : World} {K : Act → World → Prop} {Q : Exit → Act → World → Prop}
    {p : Addr} {v old : Value} {i : TypeInfo} (hc : w.cell? p = some old) (hf : w.frozen? p = false) (hi : P.info? ty = some i) (hi1 : i.size = 1) (hx : a.eval x = .pointer (some p)) (hy : a.eval y = v)
    (hv : v.cells = #[v]) (h1 : v.oneCell' = true) (h : K (a.put d undef) (w.setCell p v)) :
    Oper.wp P { dst := d, op := .store ty x y, type := ty', pos := pos, after := after, guard := gd } a w K Q := by
  have hst : (store p v .plain).run P w = .ok () (w.setCell p v) := by
    rw [run_store P w _ v _ h1, hc]
    simp [hf]
  have hadd : p.add 0 = p := by unfold Addr.add; split <;> simp_all
  have hrun : (storeVar ty p v).run P w = .ok () (w.setCell p v) := by
    simp [storeVar, sizeOf, typeInfo, hi, hi1, hv, storeCells, hadd, hst]
  unfold Oper.wp execOp
  simp only [hx, hy, Instr.storeAt, Instr.sureAddr, Sem.run_bind, Sem.run_pure, Result.andThen_ok, hrun]
  exact h
/-- A field's address. -/
theorem wp_fieldAddr {d : Option Tmp} {t ty' : TypeId} {x : Operand} {i : Nat} {pos : String} {after : Array Edge} {gd : Option (Nat × Bool)} {a : Act} {w : World} {K : Act → World → Prop} {Q : Exit → Act → World → Prop}
    {p r : Value} (hx : a.eval x = p) (hr : (Instr.fieldAt t p i).run P w = .ok r w) (h : K (a.put d r) w) :
    Oper.wp P { dst := d, op := .fieldAddr t x i, type := ty', pos := pos, after := after, guard := gd } a w K Q := by
  unfold Oper.wp execOp
  simp only [hx, Sem.run_bind, hr, Result.andThen_ok, Sem.run_pure]
  exact h
/-- A field's address, as the one operation that may come next. -/
theorem any_fieldAddr {md : Region.Mode} {ops : Array Oper} {Q : Exit → Act → World → Prop} {fuel : Nat} {listed : Array Bool} {a : Act} {w : World} {i : Nat} {d : Option Tmp} {t ty' : TypeId} {x : Operand} {k : Nat} {pos : String} {after : Array Edge} {p r : Value} (hr : Region.ready md ops listed = [i])
    (h1 : ops[i]? = some { dst := d, op := .fieldAddr t x k, type := ty', pos := pos, after := after, guard := none }) (hx : a.eval x = p) (hf : (Instr.fieldAt t p k).run P w = .ok r w) (h : wpAny P md ops Q fuel (listed.setIfInBounds i true) (a.put d r) w) : wpAny P md ops Q (fuel + 1) listed a w :=
  any_one hr h1 rfl (wp_fieldAddr hx hf h)
theorem any_store1 {md : Region.Mode} {ops : Array Oper} {Q : Exit → Act → World → Prop} {fuel : Nat} {listed : Array Bool} {a : Act} {w : World} {j : Nat} {d : Option Tmp} {ty ty' : TypeId} {x y : Operand} {pos : String} {after : Array Edge}
    {p : Addr} {v old : Value} {i : TypeInfo} (hr : Region.ready md ops listed = [j]) (h0 : ops[j]? = some { dst := d, op := .store ty x y, type := ty', pos := pos, after := after, guard := none }) (hc : w.cell? p = some old) (hf : w.frozen? p = false) (hi : P.info? ty = some i) (hi1 : i.size = 1) (hx : a.eval x = .pointer (some p)) (hy : a.eval y = v)
    (hv : v.cells = #[v]) (h1 : v.oneCell' = true) (h : wpAny P md ops Q fuel (listed.setIfInBounds j true) (a.put d undef) (w.setCell p v)) : wpAny P md ops Q (fuel + 1) listed a w :=
  any_one hr h0 rfl (wp_store1 hc hf hi hi1 hx hy hv h1 h)
/-- A call of a Go function. -/
theorem wp_callf {d : Option Tmp} {ty' : TypeId} {ts : Array TypeId} {f : FuncId} {xs : Array Operand} {pos : String} {after : Array Edge} {gd : Option (Nat × Bool)} {a : Act} {w : World} {K : Act → World → Prop} {Q : Exit → Act → World → Prop}
    {vs : Array Value} {fn : Func} {post : Ending → World → Prop} (hfn : P.funcs[f]? = some fn) (hname : (fn.name == "runtime.NumGoroutine") = false) (hbody : fn.body.isNone = false) (hx : xs.map a.eval = vs) (hc : Calls P f vs w post)
    (h : ∀ e w', post e w' → ∃ r, e = .returned r ∧ K (a.put d r) w') :
    Oper.wp P { dst := d, op := .call { callee := .value (.func f), args := xs, argTypes := ts }, type := ty', pos := pos, after := after, guard := gd } a w K Q := by
  have hrun : (execOp a.eval { dst := d, op := .call { callee := .value (.func f), args := xs, argTypes := ts }, type := ty', pos := pos, after := after, guard := gd }).run P w = .ok (.enter f vs) w := by
    have h1 : ¬ fn.name = "runtime.NumGoroutine" := by simpa using hname
    have h2 : ¬ fn.body = none := fun q => by rw [q] at hbody; cases hbody
    have h3 : a.eval (.func f) = .func (.func f) #[] #[] := rfl
    simp only [execOp, resolve, hx, h3]
    simp [Deferred.ofValue, invoke, callFunc, hfn, h1, h2]
  unfold Oper.wp
  rw [hrun]
  refine hc.mono fun e w' he => ?_
  obtain ⟨r, rfl, hK⟩ := h e w' he
  exact hK
/-- A slice literal of one struct. -/
theorem wp_buildOne {d : Option Tmp} {t e ty' : TypeId} {x : Operand} {pos : String} {after : Array Edge} {gd : Option (Nat × Bool)} {a : Act} {w : World} {K : Act → World → Prop} {Q : Exit → Act → World → Prop}
    {part : Array Value} {ie : TypeInfo} {z : Value} (hu : P.underlying t = some (.slice e)) (hie : P.info? e = some ie) (hz : ie.zero = some z) (hsize : ie.size = part.size) (hpos : 0 < part.size) (hsmall : part.size ≤ 16777216) (hx : a.eval x = .agg part)
    (hf : Instr.fill (fun i => some (i * part.size, part.size)) ((Array.range (1 * part.size)).map (z.cells[· % z.cells.size]!)) [(0, .agg part)] = some part)
    (h : K (a.put d (.slice (some ⟨w.heap.size, 0, none⟩) 1 1)) (w.alloc (.cells part e))) :
    Oper.wp P { dst := d, op := .buildSlice t 1 #[(0, x)], type := ty', pos := pos, after := after, guard := gd } a w K Q := by
  refine wp_buildSlice t e 1 _ rfl part ie z hu hie hz (by rw [hsize]; omega) (by rw [hsize]; omega) ?_ h
  rw [hsize]
  simpa [hx] using hf
/-- What a call does to a block that its row doesn't lie in. -/
theorem below_own {w V V' : World} {base : Nat} {e : TypeId} {size : Nat} {v : Value} {n : Nat} {xs : List Value} (hB : Below w.heap.size w V) (ho : V.ownsRow base e size v n xs) (hb : w.heap.size ≤ base) (hg : V.grownBy V' v.ownBlock) : Below w.heap.size w V' :=
  ⟨hg.os.trans hB.os, hg.tape.trans hB.tape, hg.output.trans hB.output, Nat.le_trans hB.size hg.size, fun k hk => (hg.block k (Nat.lt_of_lt_of_le hk hB.size) (fun q => by have := (ho.lt k q.symm).1; omega)).trans (hB.block k hk)⟩
theorem own_far {w : World} {base : Nat} {g : Nat} {e : TypeId} {size : Nat} {v : Value} {n : Nat} {xs : List Value} (h : w.ownsRow base e size v n xs) (hg : g < base) (i : Nat) (u : Value) : (w.setCell ⟨g, i, none⟩ u).ownsRow base e size v n xs := by
  refine ⟨h.1, ?_⟩
  rcases h.2 with hn | ⟨g', cap, cur, rfl, hb, hgg, rest⟩
  · exact .inl hn
  · exact .inr ⟨g', cap, cur, rfl, hb, (Below.heap_setCell w ⟨g, i, none⟩ u g' (show g' ≠ g by omega)).trans hgg, rest⟩
end
end Go.Proofs.Ytfkafejoacpclaa
