/- Words of this seat's walks: a block known whole, what a call leaves, small endings. No conditions. -/
import Derived.Test.YtfkafejoacpclaaBase
namespace Go.Proofs.Ytfkafejoacpclaa
open Go.RowKit
set_option linter.unusedVariables false
set_option linter.unusedSimpArgs false

theorem ret_bool {a b : Bool} (h : a = b) : Ending.returned (.bool a) = .returned (.bool b) := by rw [h]
theorem ret_str {a b : ByteArray} (h : a = b) : Ending.returned (.string a) = .returned (.string b) := by rw [h]
theorem ret_int {k : IntKind} {a b : Int} (h : a = b) : Ending.returned (.int k a) = .returned (.int k b) := by rw [h]
theorem ret_val {a b : Value} (h : a = b) : Ending.returned a = .returned b := by rw [h]

/-- What lay below the heap's end reads as before, cell by cell, and is as frozen as before. -/
theorem old_cells {W w1 : World} (hb : Below W.heap.size W w1) :
    (∀ b o, b < W.heap.size → w1.cell? ⟨b, o, none⟩ = W.cell? ⟨b, o, none⟩) ∧ (∀ b o, b < W.heap.size → w1.frozen? ⟨b, o, none⟩ = W.frozen? ⟨b, o, none⟩) :=
  ⟨fun b o h => hb.cell (p := ⟨b, o, none⟩) h, fun b o h => hb.frozen (p := ⟨b, o, none⟩) h⟩
theorem below_next {B : Nat} {w w1 w2 : World} (h : Below B w w1) (hB : B ≤ w1.heap.size) (k : Below w1.heap.size w1 w2) : Below B w w2 := h.trans (k.mono hB)
theorem below_drewN' {B : Nat} {w w1 : World} (h : Below B w w1) (n : Nat) : Below B w (w1.drewN n) := ⟨h.os, h.tape, h.output, h.size, h.block⟩

/-- Block g is just these cells of element type t, none of them frozen. -/
def Whole (w : World) (g : Nat) (t : TypeId) (cs : Array Value) : Prop := w.heap[g]? = some (.cells cs t (0, 0))
section
variable {w w' : World} {g : Nat} {t : TypeId} {cs : Array Value}
theorem Whole.lt (h : Whole w g t cs) : g < w.heap.size := by
  rcases Nat.lt_or_ge g w.heap.size with hlt | hge
  · exact hlt
  · unfold Whole at h; rw [Array.getElem?_eq_none hge] at h; cases h
theorem Whole.cell (h : Whole w g t cs) (i : Nat) : w.cell? ⟨g, i, none⟩ = cs[i]? := by
  unfold Whole at h; simp [World.cell?, h]
theorem Whole.frozen (h : Whole w g t cs) (i : Nat) : w.frozen? ⟨g, i, none⟩ = false := by
  unfold Whole at h; simp [World.frozen?, h]
theorem Whole.new (w : World) (t : TypeId) (cs : Array Value) : Whole (w.alloc (.cells cs t)) w.heap.size t cs := heap_alloc_new w _
theorem Whole.drew (h : Whole w g t cs) : Whole w.drew g t cs := h
theorem Whole.drewN (h : Whole w g t cs) (n : Nat) : Whole (w.drewN n) g t cs := h
theorem Whole.alloc (h : Whole w g t cs) (o : Obj) : Whole (w.alloc o) g t cs := (Below.heap_alloc w o g h.lt).trans h
theorem Whole.put (h : Whole w g t cs) (i : Nat) (u : Value) : Whole (w.setCell ⟨g, i, none⟩ u) g t (cs.setIfInBounds i u) := by
  unfold Whole at h ⊢
  simp [World.setCell, Array.getElem?_modify, h]
theorem Whole.put' (h : Whole w g t cs) (i : Nat) (u : Value) {ds : Array Value} (e : cs.setIfInBounds i u = ds) : Whole (w.setCell ⟨g, i, none⟩ u) g t ds := e ▸ h.put i u
theorem Whole.far (h : Whole w g t cs) {p : Addr} (hp : g ≠ p.block) (u : Value) : Whole (w.setCell p u) g t cs := (Below.heap_setCell w p u g hp).trans h
theorem Whole.below {B : Nat} (h : Whole w g t cs) (hb : Below B w w') (hg : g < B) : Whole w' g t cs := (hb.block g hg).trans h
end

/-- Only block g, and what is new, has turned. -/
theorem only_alloc {a w : World} {row : Option Nat} (h : a.grownBy w row) (o : Obj) : a.grownBy (w.alloc o) row :=
  ⟨h.os, h.tape, h.output, Nat.le_trans h.size (by simp), fun i hi hne => (Below.heap_alloc w o i (Nat.lt_of_lt_of_le hi h.size)).trans (h.block i hi hne)⟩
theorem only_drew {a w : World} {row : Option Nat} (h : a.grownBy w row) : a.grownBy w.drew row := ⟨h.os, h.tape, h.output, h.size, h.block⟩
theorem only_drewN {a w : World} {row : Option Nat} (h : a.grownBy w row) (n : Nat) : a.grownBy (w.drewN n) row := ⟨h.os, h.tape, h.output, h.size, h.block⟩
theorem only_put {a w : World} {g : Nat} (h : a.grownBy w (some g)) {p : Addr} (hp : p.block = g ∨ a.heap.size ≤ p.block) (u : Value) : a.grownBy (w.setCell p u) (some g) :=
  ⟨h.os, h.tape, h.output, by simpa [World.setCell] using h.size, fun i hi hne => (Below.heap_setCell w p u i (by
    rintro rfl
    rcases hp with hp | hp
    · exact hne (by rw [hp])
    · omega)).trans (h.block i hi hne)⟩
theorem only_below {a w : World} (h : Below a.heap.size a w) (row : Option Nat) : a.grownBy w row := ⟨h.os, h.tape, h.output, h.size, fun i hi _ => h.block i hi⟩
theorem only_then {a b c : World} {row : Option Nat} (h : a.grownBy b row) (k : b.grownBy c row) : a.grownBy c row :=
  ⟨k.os.trans h.os, k.tape.trans h.tape, k.output.trans h.output, Nat.le_trans h.size k.size, fun i hi hne => (k.block i (Nat.lt_of_lt_of_le hi h.size) hne).trans (h.block i hi hne)⟩
theorem only_same (a : World) (row : Option Nat) : a.grownBy a row := ⟨rfl, rfl, rfl, Nat.le_refl _, fun _ _ _ => rfl⟩
/-- A block of the call's own that has turned: below the call's begin all is as it was. -/
theorem below_only {B : Nat} {w w1 w2 : World} {g : Nat} (h : Below B w w1) (hB : B ≤ w1.heap.size) (k : w1.grownBy w2 (some g)) (hg : B ≤ g) : Below B w w2 :=
  h.grown k hB (fun q e => by injection e with e; omega)
/-- Behind a text's turn into bytes. -/
theorem Whole.bytes {w : World} {g : Nat} {t : TypeId} {cs : Array Value} (h : Whole w g t cs) (e : TypeId) (s : ByteArray) : Whole (Lib.bytesWorld w e s) g t cs := (Lib.bytesWorld_at_old w e s g h.lt).trans h
theorem only_bytes (w : World) (e : TypeId) (s : ByteArray) (row : Option Nat) : w.grownBy (Lib.bytesWorld w e s) row :=
  ⟨rfl, rfl, rfl, by rw [Lib.bytesWorld_size]; omega, fun i hi _ => Lib.bytesWorld_at_old w e s i hi⟩
theorem Whole.only {w w' : World} {g : Nat} {t : TypeId} {cs : Array Value} (h : Whole w g t cs) {row : Option Nat} (hb : w.grownBy w' row) (hg : some g ≠ row) : Whole w' g t cs := (hb.block g h.lt hg).trans h
theorem Whole.new1 (w : World) (o : Obj) (t : TypeId) (cs : Array Value) : Whole ((w.alloc o).alloc (.cells cs t)) (w.heap.size + 1) t cs := by
  have := Whole.new (w.alloc o) t cs
  simpa using this
theorem Whole.new2 (w : World) (o o' : Obj) (t : TypeId) (cs : Array Value) : Whole (((w.alloc o).alloc o').alloc (.cells cs t)) (w.heap.size + 1 + 1) t cs := by
  have := Whole.new ((w.alloc o).alloc o') t cs
  simpa using this
/-- Texts held against each other, as the walk spells it. -/
theorem toL_inj {a b : ByteArray} : a.toList = b.toList ↔ a = b := by
  refine ⟨fun h => ?_, fun h => by rw [h]⟩
  rw [ByteArray.toList_eq, ByteArray.toList_eq] at h
  exact ByteArray.ext (Array.toList_inj.1 h)
theorem beqL (a b : ByteArray) : (a.toList == b.toList) = decide (a = b) := by
  rw [Bool.eq_iff_iff, beq_iff_eq, decide_eq_true_iff, toL_inj]
theorem nilL (a : ByteArray) : (a.toList = []) ↔ a = ByteArray.empty := by
  rw [ByteArray.toList_eq]
  refine ⟨fun h => ByteArray.ext (Array.toList_inj.1 (by rw [h]; rfl)), fun h => by rw [h]; rfl⟩
theorem emptyL (a : ByteArray) : a.toList.isEmpty = decide (a = ByteArray.empty) := by
  rw [Bool.eq_iff_iff, List.isEmpty_iff, decide_eq_true_iff, nilL]
theorem below_only' {w w1 w2 : World} {g : Nat} (h : Below w.heap.size w w1) (k : w1.grownBy w2 (some g)) (hg : w.heap.size ≤ g) : Below w.heap.size w w2 := below_only h h.size k hg
theorem below_next' {w w1 w2 : World} (h : Below w.heap.size w w1) (k : Below w1.heap.size w1 w2) : Below w.heap.size w w2 := below_next h h.size k
section
variable {P : Program}
/-- A whole block written: behind it the block is just that; all else is as it was. -/
theorem wl_store {ops : Array Oper} {rest : List Oper} {o : Oper} {a : Act} {w : World} {Q : Exit → Act → World → Prop} (hgd : o.guard = none) (ty : TypeId) (x y : Operand) (ho : o.op = .store ty x y)
    (g : Nat) (cells : Array Value) (hx : a.eval x = .pointer (some ⟨g, 0, none⟩)) (hy : a.eval y = .agg cells)
    (t : TypeId) (old : Array Value) (hg : Whole w g t old) (hi : (P.info? ty).map (·.size) = some cells.size)
    (hold : old.size = cells.size) (h1 : cells.all (·.oneCell') = true)
    (h : ∀ w', Whole w' g t cells → w.grownBy w' (some g) → w'.heap.size = w.heap.size → wpList P ops Q rest (a.put o.dst undef) w') : wpList P ops Q (o :: rest) a w :=
  wpList_store_row hgd ty x y ho g cells hx hy t old hg hi hold h1
    (h _ (setRow_heap w g old cells t _ hg) ⟨rfl, rfl, rfl, by simp, fun i hi hne => by
      simp only [World.setRow, Array.getElem?_modify]
      rw [if_neg (fun e => hne (by rw [e]))]⟩ (by simp))
theorem wp_storeW {d : Option Tmp} {ty ty' : TypeId} {x y : Operand} {pos : String} {after : Array Edge} {gd : Option (Nat × Bool)} {a : Act} {w : World} {K : Act → World → Prop} {Q : Exit → Act → World → Prop}
    {g : Nat} {cells : Array Value} {t : TypeId} {old : Array Value} (hg : Whole w g t old) (hx : a.eval x = .pointer (some ⟨g, 0, none⟩)) (hy : a.eval y = .agg cells)
    (hi : (P.info? ty).map (·.size) = some old.size)
    (hold : cells.size = old.size) (h1 : cells.toList.all (·.oneCell') = true)
    (h : ∀ w', Whole w' g t cells → w.grownBy w' (some g) → w'.heap.size = w.heap.size → K (a.put d undef) w') :
    Oper.wp P { dst := d, op := .store ty x y, type := ty', pos := pos, after := after, guard := gd } a w K Q :=
  wp_store_row ty x y rfl g cells hx hy t old hg (by rw [hold]; exact hi) hold.symm (by rw [← Array.all_toList]; exact h1)
    (h _ (setRow_heap w g old cells t _ hg) ⟨rfl, rfl, rfl, by simp, fun i hi hne => by
      simp only [World.setRow, Array.getElem?_modify]
      rw [if_neg (fun e => hne (by rw [e]))]⟩ (by simp))
theorem wp_loadW {d : Option Tmp} {ty ty' : TypeId} {x : Operand} {pos : String} {after : Array Edge} {gd : Option (Nat × Bool)} {a : Act} {w : World} {K : Act → World → Prop} {Q : Exit → Act → World → Prop}
    {g : Nat} {t : TypeId} {cs : Array Value} {u : TypeDesc} (hg : Whole w g t cs) (hu : P.underlying ty = some u) (hx : a.eval x = .pointer (some ⟨g, 0, none⟩))
    (hd : (match u with | .struct _ | .array _ _ => true | _ => false) = true) (hi : (P.info? ty).map (·.size) = some cs.size)
    (h : K (a.put d (.agg cs)) w) :
    Oper.wp P { dst := d, op := .load ty x, type := ty', pos := pos, after := after, guard := gd } a w K Q :=
  wp_load_row ty x rfl g hx t cs (0, 0) u hg hu hd hi h
theorem wl_of_wp {ops : Array Oper} {rest : List Oper} {o : Oper} {a : Act} {w : World} {Q : Exit → Act → World → Prop} (hw : Region.wanted o (yielded ops a.tmps) = true)
    (h : o.wp P a w (wpList P ops Q rest) Q) : wpList P ops Q (o :: rest) a w := by
  unfold wpList
  rw [if_pos hw]
  exact .inl h
theorem wl_storeW {ops : Array Oper} {rest : List Oper} {d : Option Tmp} {ty ty' : TypeId} {x y : Operand} {pos : String} {after : Array Edge} {gd : Option (Nat × Bool)} {a : Act} {w : World} {Q : Exit → Act → World → Prop}
    {g : Nat} {cells : Array Value} {t : TypeId} {old : Array Value} (hg : Whole w g t old)
    (hw : Region.wanted { dst := d, op := .store ty x y, type := ty', pos := pos, after := after, guard := gd } (yielded ops a.tmps) = true)
    (hx : a.eval x = .pointer (some ⟨g, 0, none⟩)) (hy : a.eval y = .agg cells)
    (hi : (P.info? ty).map (·.size) = some old.size)
    (hold : cells.size = old.size) (h1 : cells.toList.all (·.oneCell') = true)
    (h : ∀ w', Whole w' g t cells → w.grownBy w' (some g) → w'.heap.size = w.heap.size → wpList P ops Q rest (a.put d undef) w') :
    wpList P ops Q ({ dst := d, op := .store ty x y, type := ty', pos := pos, after := after, guard := gd } :: rest) a w :=
  wl_of_wp hw (wp_storeW hg hx hy hi hold h1 h)
theorem wl_loadW {ops : Array Oper} {rest : List Oper} {d : Option Tmp} {ty ty' : TypeId} {x : Operand} {pos : String} {after : Array Edge} {gd : Option (Nat × Bool)} {a : Act} {w : World} {Q : Exit → Act → World → Prop}
    {g : Nat} {t : TypeId} {cs : Array Value} {u : TypeDesc} (hg : Whole w g t cs) (hu : P.underlying ty = some u)
    (hw : Region.wanted { dst := d, op := .load ty x, type := ty', pos := pos, after := after, guard := gd } (yielded ops a.tmps) = true)
    (hx : a.eval x = .pointer (some ⟨g, 0, none⟩))
    (hd : (match u with | .struct _ | .array _ _ => true | _ => false) = true) (hi : (P.info? ty).map (·.size) = some cs.size)
    (h : wpList P ops Q rest (a.put d (.agg cs)) w) :
    wpList P ops Q ({ dst := d, op := .load ty x, type := ty', pos := pos, after := after, guard := gd } :: rest) a w :=
  wl_of_wp hw (wp_loadW hg hu hx hd hi h)
theorem res_cell_tmp {fn : Func} {p q : Tmp} {ty : TypeId} (h : fn.results = #[.cell p ty, .tmp q]) (tmps : Array Value) (w : World) (g : Nat) (t : TypeId) (cs : Array Value) (d : TypeDesc)
    (hp : tmps.getD p undef = .pointer (some ⟨g, 0, none⟩)) (hg : Whole w g t cs)
    (hu : P.underlying ty = some d) (hd : (match d with | .struct _ | .array _ _ => true | _ => false) = true) (hi : (P.info? ty).map (·.size) = some cs.size) :
    (results fn tmps).run P w = .ok (.tuple #[.agg cs, tmps.getD q undef]) w := by
  have hp' : tmps[p]?.getD undef = .pointer (some ⟨g, 0, none⟩) := by simpa using hp
  simp [results, h, hp', asAddr, run_loadVar_row w g t ty cs (0, 0) d hg hu hd hi]
end
theorem cell_keep {W W' : World} {a : Addr} {v : Value} (h : W.cell? a = some v) (hb : Below W.heap.size W W') : W'.cell? a = some v := (hb.cell (World.block_lt_of_cell? W _ h)).trans h
theorem frozen_keep {W W' : World} {a : Addr} {v : Value} (h : W.frozen? a = false) (hc : W.cell? a = some v) (hb : Below W.heap.size W W') : W'.frozen? a = false := (hb.frozen (World.block_lt_of_cell? W _ hc)).trans h
theorem cell_alloc {W : World} {a : Addr} {v : Value} (h : W.cell? a = some v) (o : Obj) : (W.alloc o).cell? a = some v := (World.cell?_alloc_lt W o a (World.block_lt_of_cell? W _ h)).trans h
theorem cell_set {W : World} {a p : Addr} {v : Value} (h : W.cell? a = some v) (hne : a.block ≠ p.block) (u : Value) : (W.setCell p u).cell? a = some v := by
  rw [World.cell?_setCell_other W p a u (fun e => hne (by rw [e]))]; exact h
theorem cell_set3 {W : World} {a : Addr} {v : Value} (h : W.cell? a = some v) {g : Nat} (hne : a.block ≠ g) (i j k : Nat) (x y z : Value) : (((W.setCell ⟨g, i, none⟩ x).setCell ⟨g, j, none⟩ y).setCell ⟨g, k, none⟩ z).cell? a = some v :=
  cell_set (cell_set (cell_set h hne x) hne y) hne z
theorem cell_only {W W' : World} {a : Addr} {v : Value} {g : Nat} (h : W.cell? a = some v) (hg : W.grownBy W' (some g)) (hne : a.block ≠ g) : W'.cell? a = some v :=
  (World.cell?_of_block (hg.block a.block (World.block_lt_of_cell? W _ h) (fun e => hne (by injection e)))).trans h
end Go.Proofs.Ytfkafejoacpclaa
