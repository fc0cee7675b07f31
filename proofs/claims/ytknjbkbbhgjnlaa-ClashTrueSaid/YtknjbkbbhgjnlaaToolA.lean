/- Several texts in one. No conditions. -/
import Derived.Test.YtknjbkbbhgjnlaaRows
import Derived.ProofKit
import Derived.Below
import Derived.Deep.Draws
import Derived.Deep.AppendLies
import Derived.Maps.AppendAt
import Derived.OwnWalk
import Derived.Laws.BytesArg
import Derived.Laws.MakeOwn
import Derived.Laws.OwnMore
import Derived.Deep.OwnRows
import Derived.Tactics
import Derived.Lib.ConvBytes
import Derived.Lib.Hide
import Derived.Laws.Slices
import Derived.WalkKit
import Derived.KernelRfl
import Derived.RowKit3
import Derived.Deep.LoopGhost
import Derived.Deep.QuietTactic
import Derived.BigQuiet
import Derived.WideLaws
import Derived.Deep.DeepCutAuto
import Derived.Deep.CutBlock
import Derived.Deep.RegionHeld3
import Derived.Laws.Rows
import Derived.Lib.AppendStr
import Derived.ArgAppend
import Derived.Laws.IdiomCopy
import Derived.OrdersHeld
import Derived.Laws.BitsLemmas
import Derived.RowKit
import Derived.Outline
import Derived.Handy
import Derived.PlainAid
import Derived.Deep.Light
import Derived.Deep.DeepFit
import Derived.Deep.RegionWith
import Derived.StillTailTactics
import Derived.Deep.RegionLaw
import Derived.Laws.BitsAllLaws
import Derived.Laws.CopyRow
import Derived.Great.BuildSlice
import Derived.StillTail
import Derived.Shelf.Abstract
/- The common imports of this seat's walks. No statement, no conditions. -/

/- Words of this seat's walks: a block known whole, what a call leaves, small endings. No conditions. -/
namespace Go.Proofs.Ytknjbkbbhgjnlaa
open Go.RowKit
set_option linter.unusedVariables false
set_option linter.unusedSimpArgs false

theorem ret_bool {a b : Bool} (h : a = b) : Ending.returned (.bool a) = .returned (.bool b) := by rw [h]
theorem ret_str {a b : ByteArray} (h : a = b) : Ending.returned (.string a) = .returned (.string b) := by rw [h]
theorem ret_int {k : IntKind} {a b : Int} (h : a = b) : Ending.returned (.int k a) = .returned (.int k b) := by rw [h]
theorem ret_val {a b : Value} (h : a = b) : Ending.returned a = .returned b := by rw [h]

/-- What lay below the heap's end reads as before, cell by cell, and is as frozen as before. -/
theorem old_cells {W w1 : World} (hb : Below W.heap.size W w1) :
    (∀ b o, b < W.heap.size → w1.cell? ⟨b, o, none⟩ = W.cell? ⟨b, o, none⟩) ∧ (∀ b o, b < W.heap.size → w1.frozen? ⟨b, o, none⟩ = W.frozen? ⟨b, o, none⟩) :=
  ⟨fun b o h => hb.cell (p := ⟨b, o, none⟩) h, fun b o h => hb.frozen (p := ⟨b, o, none⟩) h⟩
theorem below_next {B : Nat} {w w1 w2 : World} (h : Below B w w1) (hB : B ≤ w1.heap.size) (k : Below w1.heap.size w1 w2) : Below B w w2 := h.trans (k.mono hB)
theorem below_drewN' {B : Nat} {w w1 : World} (h : Below B w w1) (n : Nat) : Below B w (w1.drewN n) := ⟨h.os, h.tape, h.output, h.size, h.block⟩

/-- Block g is just these cells of element type t, none of them frozen. -/
def Whole (w : World) (g : Nat) (t : TypeId) (cs : Array Value) : Prop := w.heap[g]? = some (.cells cs t (0, 0))
section
variable {w w' : World} {g : Nat} {t : TypeId} {cs : Array Value}
theorem Whole.lt (h : Whole w g t cs) : g < w.heap.size := by
  rcases Nat.lt_or_ge g w.heap.size with hlt | hge
  · exact hlt
  · unfold Whole at h; rw [Array.getElem?_eq_none hge] at h; cases h
theorem Whole.cell (h : Whole w g t cs) (i : Nat) : w.cell? ⟨g, i, none⟩ = cs[i]? := by
  unfold Whole at h; simp [World.cell?, h]
theorem Whole.frozen (h : Whole w g t cs) (i : Nat) : w.frozen? ⟨g, i, none⟩ = false := by
  unfold Whole at h; simp [World.frozen?, h]
theorem Whole.new (w : World) (t : TypeId) (cs : Array Value) : Whole (w.alloc (.cells cs t)) w.heap.size t cs := heap_alloc_new w _
theorem Whole.drew (h : Whole w g t cs) : Whole w.drew g t cs := h
theorem Whole.drewN (h : Whole w g t cs) (n : Nat) : Whole (w.drewN n) g t cs := h
theorem Whole.alloc (h : Whole w g t cs) (o : Obj) : Whole (w.alloc o) g t cs := (Below.heap_alloc w o g h.lt).trans h
theorem Whole.put (h : Whole w g t cs) (i : Nat) (u : Value) : Whole (w.setCell ⟨g, i, none⟩ u) g t (cs.setIfInBounds i u) := by
  unfold Whole at h ⊢
  simp [World.setCell, Array.getElem?_modify, h]
theorem Whole.put' (h : Whole w g t cs) (i : Nat) (u : Value) {ds : Array Value} (e : cs.setIfInBounds i u = ds) : Whole (w.setCell ⟨g, i, none⟩ u) g t ds := e ▸ h.put i u
theorem Whole.far (h : Whole w g t cs) {p : Addr} (hp : g ≠ p.block) (u : Value) : Whole (w.setCell p u) g t cs := (Below.heap_setCell w p u g hp).trans h
theorem Whole.below {B : Nat} (h : Whole w g t cs) (hb : Below B w w') (hg : g < B) : Whole w' g t cs := (hb.block g hg).trans h
end

/-- Only block g, and what is new, has turned. -/
theorem only_alloc {a w : World} {row : Option Nat} (h : a.grownBy w row) (o : Obj) : a.grownBy (w.alloc o) row :=
  ⟨h.os, h.tape, h.output, Nat.le_trans h.size (by simp), fun i hi hne => (Below.heap_alloc w o i (Nat.lt_of_lt_of_le hi h.size)).trans (h.block i hi hne)⟩
theorem only_drew {a w : World} {row : Option Nat} (h : a.grownBy w row) : a.grownBy w.drew row := ⟨h.os, h.tape, h.output, h.size, h.block⟩
theorem only_drewN {a w : World} {row : Option Nat} (h : a.grownBy w row) (n : Nat) : a.grownBy (w.drewN n) row := ⟨h.os, h.tape, h.output, h.size, h.block⟩
theorem only_put {a w : World} {g : Nat} (h : a.grownBy w (some g)) {p : Addr} (hp : p.block = g ∨ a.heap.size ≤ p.block) (u : Value) : a.grownBy (w.setCell p u) (some g) :=
  ⟨h.os, h.tape, h.output, by simpa [World.setCell] using h.size, fun i hi hne => (Below.heap_setCell w p u i (by
    rintro rfl
    rcases hp with hp | hp
    · exact hne (by rw [hp])
    · omega)).trans (h.block i hi hne)⟩
theorem only_below {a w : World} (h : Below a.heap.size a w) (row : Option Nat) : a.grownBy w row := ⟨h.os, h.tape, h.output, h.size, fun i hi _ => h.block i hi⟩
theorem only_then {a b c : World} {row : Option Nat} (h : a.grownBy b row) (k : b.grownBy c row) : a.grownBy c row :=
  ⟨k.os.trans h.os, k.tape.trans h.tape, k.output.trans h.output, Nat.le_trans h.size k.size, fun i hi hne => (k.block i (Nat.lt_of_lt_of_le hi h.size) hne).trans (h.block i hi hne)⟩
theorem only_same (a : World) (row : Option Nat) : a.grownBy a row := ⟨rfl, rfl, rfl, Nat.le_refl _, fun _ _ _ => rfl⟩
/-- A block of the call's own that has turned: below the call's begin all is as it was. -/
theorem below_only {B : Nat} {w w1 w2 : World} {g : Nat} (h : Below B w w1) (hB : B ≤ w1.heap.size) (k : w1.grownBy w2 (some g)) (hg : B ≤ g) : Below B w w2 :=
  h.grown k hB (fun q e => by injection e with e; omega)
/-- Behind a text's turn into bytes. -/
theorem Whole.bytes {w : World} {g : Nat} {t : TypeId} {cs : Array Value} (h : Whole w g t cs) (e : TypeId) (s : ByteArray) : Whole (Lib.bytesWorld w e s) g t cs := (Lib.bytesWorld_at_old w e s g h.lt).trans h
theorem only_bytes (w : World) (e : TypeId) (s : ByteArray) (row : Option Nat) : w.grownBy (Lib.bytesWorld w e s) row :=
  ⟨rfl, rfl, rfl, by rw [Lib.bytesWorld_size]; omega, fun i hi _ => Lib.bytesWorld_at_old w e s i hi⟩
theorem Whole.only {w w' : World} {g : Nat} {t : TypeId} {cs : Array Value} (h : Whole w g t cs) {row : Option Nat} (hb : w.grownBy w' row) (hg : some g ≠ row) : Whole w' g t cs := (hb.block g h.lt hg).trans h
theorem Whole.new1 (w : World) (o : Obj) (t : TypeId) (cs : Array Value) : Whole ((w.alloc o).alloc (.cells cs t)) (w.heap.size + 1) t cs := by
  have := Whole.new (w.alloc o) t cs
  simpa using this
theorem Whole.new2 (w : World) (o o' : Obj) (t : TypeId) (cs : Array Value) : Whole (((w.alloc o).alloc o').alloc (.cells cs t)) (w.heap.size + 1 + 1) t cs := by
  have := Whole.new ((w.alloc o).alloc o') t cs
  simpa using this
/-- Texts held against each other, as the walk spells it. -/
theorem toL_inj {a b : ByteArray} : a.toList = b.toList ↔ a = b := by
  refine ⟨fun h => ?_, fun h => by rw [h]⟩
  rw [ByteArray.toList_eq, ByteArray.toList_eq] at h
  exact ByteArray.ext (Array.toList_inj.1 h)
theorem beqL (a b : ByteArray) : (a.toList == b.toList) = decide (a = b) := by
  rw [Bool.eq_iff_iff, beq_iff_eq, decide_eq_true_iff, toL_inj]
theorem nilL (a : ByteArray) : (a.toList = []) ↔ a = ByteArray.empty := by
  rw [ByteArray.toList_eq]
  refine ⟨fun h => ByteArray.ext (Array.toList_inj.1 (by rw [h]; rfl)), fun h => by rw [h]; rfl⟩
theorem emptyL (a : ByteArray) : a.toList.isEmpty = decide (a = ByteArray.empty) := by
  rw [Bool.eq_iff_iff, List.isEmpty_iff, decide_eq_true_iff, nilL]
theorem below_only' {w w1 w2 : World} {g : Nat} (h : Below w.heap.size w w1) (k : w1.grownBy w2 (some g)) (hg : w.heap.size ≤ g) : Below w.heap.size w w2 := below_only h h.size k hg
theorem below_next' {w w1 w2 : World} (h : Below w.heap.size w w1) (k : Below w1.heap.size w1 w2) : Below w.heap.size w w2 := below_next h h.size k
section
variable {P : Program}
/-- A whole block written: behind it the block is just that; all else is as it was. -/
theorem wl_store {ops : Array Oper} {rest : List Oper} {o : Oper} {a : Act} {w : World} {Q : Exit → Act → World → Prop} (hgd : o.guard = none) (ty : TypeId) (x y : Operand) (ho : o.op = .store ty x y)
    (g : Nat) (cells : Array Value) (hx : a.eval x = .pointer (some ⟨g, 0, none⟩)) (hy : a.eval y = .agg cells)
    (t : TypeId) (old : Array Value) (hg : Whole w g t old) (hi : (P.info? ty).map (·.size) = some cells.size)
    (hold : old.size = cells.size) (h1 : cells.all (·.oneCell') = true)
    (h : ∀ w', Whole w' g t cells → w.grownBy w' (some g) → w'.heap.size = w.heap.size → wpList P ops Q rest (a.put o.dst undef) w') : wpList P ops Q (o :: rest) a w :=
  wpList_store_row hgd ty x y ho g cells hx hy t old hg hi hold h1
    (h _ (setRow_heap w g old cells t _ hg) ⟨rfl, rfl, rfl, by simp, fun i hi hne => by
      simp only [World.setRow, Array.getElem?_modify]
      rw [if_neg (fun e => hne (by rw [e]))]⟩ (by simp))
theorem wp_storeW {d : Option Tmp} {ty ty' : TypeId} {x y : Operand} {pos : String} {after : Array Edge} {gd : Option (Nat × Bool)} {a : Act} {w : World} {K : Act → World → Prop} {Q : Exit → Act → World → Prop}
    {g : Nat} {cells : Array Value} {t : TypeId} {old : Array Value} (hg : Whole w g t old) (hx : a.eval x = .pointer (some ⟨g, 0, none⟩)) (hy : a.eval y = .agg cells)
    (hi : (P.info? ty).map (·.size) = some old.size)
    (hold : cells.size = old.size) (h1 : cells.toList.all (·.oneCell') = true)
    (h : ∀ w', Whole w' g t cells → w.grownBy w' (some g) → w'.heap.size = w.heap.size → K (a.put d undef) w') :
    Oper.wp P { dst := d, op := .store ty x y, type := ty', pos := pos, after := after, guard := gd } a w K Q :=
  wp_store_row ty x y rfl g cells hx hy t old hg (by rw [hold]; exact hi) hold.symm (by rw [← Array.all_toList]; exact h1)
    (h _ (setRow_heap w g old cells t _ hg) ⟨rfl, rfl, rfl, by simp, fun i hi hne => by
      simp only [World.setRow, Array.getElem?_modify]
      rw [if_neg (fun e => hne (by rw [e]))]⟩ (by simp))
theorem wp_loadW {d : Option Tmp} {ty ty' : TypeId} {x : Operand} {pos : String} {after : Array Edge} {gd : Option (Nat × Bool)} {a : Act} {w : World} {K : Act → World → Prop} {Q : Exit → Act → World → Prop}
    {g : Nat} {t : TypeId} {cs : Array Value} {u : TypeDesc} (hg : Whole w g t cs) (hu : P.underlying ty = some u) (hx : a.eval x = .pointer (some ⟨g, 0, none⟩))
    (hd : (match u with | .struct _ | .array _ _ => true | _ => false) = true) (hi : (P.info? ty).map (·.size) = some cs.size)
    (h : K (a.put d (.agg cs)) w) :
    Oper.wp P { dst := d, op := .load ty x, type := ty', pos := pos, after := after, guard := gd } a w K Q :=
  wp_load_row ty x rfl g hx t cs (0, 0) u hg hu hd hi h
theorem wl_of_wp {ops : Array Oper} {rest : List Oper} {o : Oper} {a : Act} {w : World} {Q : Exit → Act → World → Prop} (hw : Region.wanted o (yielded ops a.tmps) = true)
    (h : o.wp P a w (wpList P ops Q rest) Q) : wpList P ops Q (o :: rest) a w := by
  unfold wpList
  rw [if_pos hw]
  exact .inl h
theorem wl_storeW {ops : Array Oper} {rest : List Oper} {d : Option Tmp} {ty ty' : TypeId} {x y : Operand} {pos : String} {after : Array Edge} {gd : Option (Nat × Bool)} {a : Act} {w : World} {Q : Exit → Act → World → Prop}
    {g : Nat} {cells : Array Value} {t : TypeId} {old : Array Value} (hg : Whole w g t old)
    (hw : Region.wanted { dst := d, op := .store ty x y, type := ty', pos := pos, after := after, guard := gd } (yielded ops a.tmps) = true)
    (hx : a.eval x = .pointer (some ⟨g, 0, none⟩)) (hy : a.eval y = .agg cells)
    (hi : (P.info? ty).map (·.size) = some old.size)
    (hold : cells.size = old.size) (h1 : cells.toList.all (·.oneCell') = true)
    (h : ∀ w', Whole w' g t cells → w.grownBy w' (some g) → w'.heap.size = w.heap.size → wpList P ops Q rest (a.put d undef) w') :
    wpList P ops Q ({ dst := d, op := .store ty x y, type := ty', pos := pos, after := after, guard := gd } :: rest) a w :=
  wl_of_wp hw (wp_storeW hg hx hy hi hold h1 h)
theorem wl_loadW {ops : Array Oper} {rest : List Oper} {d : Option Tmp} {ty ty' : TypeId} {x : Operand} {pos : String} {after : Array Edge} {gd : Option (Nat × Bool)} {a : Act} {w : World} {Q : Exit → Act → World → Prop}
    {g : Nat} {t : TypeId} {cs : Array Value} {u : TypeDesc} (hg : Whole w g t cs) (hu : P.underlying ty = some u)
    (hw : Region.wanted { dst := d, op := .load ty x, type := ty', pos := pos, after := after, guard := gd } (yielded ops a.tmps) = true)
    (hx : a.eval x = .pointer (some ⟨g, 0, none⟩))
    (hd : (match u with | .struct _ | .array _ _ => true | _ => false) = true) (hi : (P.info? ty).map (·.size) = some cs.size)
    (h : wpList P ops Q rest (a.put d (.agg cs)) w) :
    wpList P ops Q ({ dst := d, op := .load ty x, type := ty', pos := pos, after := after, guard := gd } :: rest) a w :=
  wl_of_wp hw (wp_loadW hg hu hx hd hi h)
theorem res_cell_tmp {fn : Func} {p q : Tmp} {ty : TypeId} (h : fn.results = #[.cell p ty, .tmp q]) (tmps : Array Value) (w : World) (g : Nat) (t : TypeId) (cs : Array Value) (d : TypeDesc)
    (hp : tmps.getD p undef = .pointer (some ⟨g, 0, none⟩)) (hg : Whole w g t cs)
    (hu : P.underlying ty = some d) (hd : (match d with | .struct _ | .array _ _ => true | _ => false) = true) (hi : (P.info? ty).map (·.size) = some cs.size) :
    (results fn tmps).run P w = .ok (.tuple #[.agg cs, tmps.getD q undef]) w := by
  have hp' : tmps[p]?.getD undef = .pointer (some ⟨g, 0, none⟩) := by simpa using hp
  simp [results, h, hp', asAddr, run_loadVar_row w g t ty cs (0, 0) d hg hu hd hi]
end
theorem cell_keep {W W' : World} {a : Addr} {v : Value} (h : W.cell? a = some v) (hb : Below W.heap.size W W') : W'.cell? a = some v := (hb.cell (World.block_lt_of_cell? W _ h)).trans h
theorem frozen_keep {W W' : World} {a : Addr} {v : Value} (h : W.frozen? a = false) (hc : W.cell? a = some v) (hb : Below W.heap.size W W') : W'.frozen? a = false := (hb.frozen (World.block_lt_of_cell? W _ hc)).trans h
theorem cell_alloc {W : World} {a : Addr} {v : Value} (h : W.cell? a = some v) (o : Obj) : (W.alloc o).cell? a = some v := (World.cell?_alloc_lt W o a (World.block_lt_of_cell? W _ h)).trans h
theorem cell_set {W : World} {a p : Addr} {v : Value} (h : W.cell? a = some v) (hne : a.block ≠ p.block) (u : Value) : (W.setCell p u).cell? a = some v := by
  rw [World.cell?_setCell_other W p a u (fun e => hne (by rw [e]))]; exact h
theorem cell_set3 {W : World} {a : Addr} {v : Value} (h : W.cell? a = some v) {g : Nat} (hne : a.block ≠ g) (i j k : Nat) (x y z : Value) : (((W.setCell ⟨g, i, none⟩ x).setCell ⟨g, j, none⟩ y).setCell ⟨g, k, none⟩ z).cell? a = some v :=
  cell_set (cell_set (cell_set h hne x) hne y) hne z
theorem cell_only {W W' : World} {a : Addr} {v : Value} {g : Nat} (h : W.cell? a = some v) (hg : W.grownBy W' (some g)) (hne : a.block ≠ g) : W'.cell? a = some v :=
  (World.cell?_of_block (hg.block a.block (World.block_lt_of_cell? W _ h) (fun e => hne (by injection e)))).trans h
end Go.Proofs.Ytknjbkbbhgjnlaa

/- Bits of whole numbers, as the walk spells them. No conditions. -/
namespace Go.Proofs.Ytknjbkbbhgjnlaa
open Go.RowKit
theorem ofInt64 (a : Nat) (ha : a < 9223372036854775808) : (BitVec.ofInt 64 (a : Int)).toNat = a := by
  rw [BitVec.ofInt_natCast, BitVec.toNat_ofNat]; exact Nat.mod_eq_of_lt (by omega)
theorem or64 (a b : Nat) (ha : a < 9223372036854775808) (hb : b < 9223372036854775808) : bits .or .i64 (a : Int) (b : Int) = ((a ||| b : Nat) : Int) := by
  have hx : a ||| b < 2 ^ 63 := Nat.or_lt_two_pow (by omega) (by omega)
  show IntKind.i64.wrap ((BitVec.ofInt 64 (a : Int) ||| BitVec.ofInt 64 (b : Int)).toNat : Int) = _
  rw [BitVec.toNat_or, ofInt64 a ha, ofInt64 b hb, IntKind.wrap_i64]
  omega
/-- A number shifted by a byte, with a byte put in. -/
theorem or_byte (a : Int) (c : UInt8) (h0 : 0 ≤ a) (h1 : a < 36028797018963968) : bits .or .i64 (wrap64 (a * 256)) (wrap64 (c.toNat : Int)) = a * 256 + c.toNat := by
  have hc := c.toNat_lt
  obtain ⟨n, rfl⟩ := Int.eq_ofNat_of_zero_le h0
  have e1 : wrap64 ((n : Int) * 256) = ((256 * n : Nat) : Int) := by unfold wrap64; omega
  have e2 : wrap64 (c.toNat : Int) = ((c.toNat : Nat) : Int) := by unfold wrap64; omega
  rw [e1, e2, or64 _ _ (by omega) (by omega)]
  have := Nat.two_pow_add_eq_or_of_lt (i := 8) (b := c.toNat) (by omega) n
  rw [show 2 ^ 8 = 256 from rfl] at this
  rw [← this]
  omega
end Go.Proofs.Ytknjbkbbhgjnlaa

/- Steps of a walk as laws of one operation: a struct read or written inside a larger block; a region that draws its order, taken operation by operation. No conditions. -/
namespace Go.Proofs.Ytknjbkbbhgjnlaa
open Go.RowKit
set_option linter.unusedVariables false
set_option linter.unusedSimpArgs false
section
variable {P : Program}
/-- A step of a region that draws its order: one operation may come next; two may; three may. -/
theorem any_one {md : Region.Mode} {ops : Array Oper} {Q : Exit → Act → World → Prop} {fuel : Nat} {listed : Array Bool} {a : Act} {w : World} {i : Nat} {o : Oper} (hr : Region.ready md ops listed = [i]) (h1 : ops[i]? = some o) (hg1 : o.guard = none)
    (g1 : Oper.wp P o a w (wpAny P md ops Q fuel (listed.setIfInBounds i true)) Q) : wpAny P md ops Q (fuel + 1) listed a w :=
  wpAny_ready hr (by simp) (AllReady.cons h1 (fun K hK => by
    rw [if_pos (by simp [Region.wanted, hg1])]
    exact Oper.wp_mono hK g1) AllReady.nil)
theorem any_two {md : Region.Mode} {ops : Array Oper} {Q : Exit → Act → World → Prop} {fuel : Nat} {listed : Array Bool} {a : Act} {w : World} {i j : Nat} {o o2 : Oper} (hr : Region.ready md ops listed = [i, j]) (h1 : ops[i]? = some o) (hg1 : o.guard = none) (h2 : ops[j]? = some o2) (hg2 : o2.guard = none)
    (g1 : Oper.wp P o a w (wpAny P md ops Q fuel (listed.setIfInBounds i true)) Q) (g2 : Oper.wp P o2 a w (wpAny P md ops Q fuel (listed.setIfInBounds j true)) Q) : wpAny P md ops Q (fuel + 1) listed a w :=
  wpAny_ready hr (by simp) (AllReady.cons h1 (fun K hK => by
    rw [if_pos (by simp [Region.wanted, hg1])]
    exact Oper.wp_mono hK g1) (AllReady.cons h2 (fun K hK => by
    rw [if_pos (by simp [Region.wanted, hg2])]
    exact Oper.wp_mono hK g2) AllReady.nil))
theorem any_three {md : Region.Mode} {ops : Array Oper} {Q : Exit → Act → World → Prop} {fuel : Nat} {listed : Array Bool} {a : Act} {w : World} {i j k : Nat} {o o2 o3 : Oper} (hr : Region.ready md ops listed = [i, j, k]) (h1 : ops[i]? = some o) (hg1 : o.guard = none) (h2 : ops[j]? = some o2) (hg2 : o2.guard = none) (h3 : ops[k]? = some o3) (hg3 : o3.guard = none)
    (g1 : Oper.wp P o a w (wpAny P md ops Q fuel (listed.setIfInBounds i true)) Q) (g2 : Oper.wp P o2 a w (wpAny P md ops Q fuel (listed.setIfInBounds j true)) Q) (g3 : Oper.wp P o3 a w (wpAny P md ops Q fuel (listed.setIfInBounds k true)) Q) : wpAny P md ops Q (fuel + 1) listed a w :=
  wpAny_ready hr (by simp) (AllReady.cons h1 (fun K hK => by
    rw [if_pos (by simp [Region.wanted, hg1])]
    exact Oper.wp_mono hK g1) (AllReady.cons h2 (fun K hK => by
    rw [if_pos (by simp [Region.wanted, hg2])]
    exact Oper.wp_mono hK g2) (AllReady.cons h3 (fun K hK => by
    rw [if_pos (by simp [Region.wanted, hg3])]
    exact Oper.wp_mono hK g3) AllReady.nil)))
theorem eval_put (a : Act) (d e : Tmp) (v : Value) : (a.put (some d) v).eval (.tmp e) = if d = e ∧ d < a.tmps.size then v else a.eval (.tmp e) := by
  simp only [Act.put, Act.eval, Array.getD_eq_getD_getElem?, Array.getElem?_setIfInBounds]
  by_cases h : d = e
  · subst h
    by_cases h2 : d < a.tmps.size
    · simp [h2]
    · simp [h2]
  · simp [h]
theorem size_put (a : Act) (d : Option Tmp) (v : Value) : (a.put d v).tmps.size = a.tmps.size := by cases d <;> simp [Act.put]
theorem put_none (a : Act) (v : Value) : a.put none v = a := rfl
/-- A struct read inside a larger block. -/
theorem wp_loadIn {d : Option Tmp} {ty ty' : TypeId} {x : Operand} {pos : String} {after : Array Edge} {gd : Option (Nat × Bool)} {a : Act} {w : World} {K : Act → World → Prop} {Q : Exit → Act → World → Prop}
    {g off : Nat} {t : TypeId} {cs : Array Value} {u : TypeDesc} (part : Array Value) (hg : Whole w g t cs) (hp : (cs.toList.drop off).take part.toList.length = part.toList) (hu : P.underlying ty = some u) (hx : a.eval x = .pointer (some ⟨g, off, none⟩))
    (hd : (match u with | .struct _ | .array _ _ => true | _ => false) = true) (hi : (P.info? ty).map (·.size) = some part.size)
    (h : K (a.put d (.agg part)) w) :
    Oper.wp P { dst := d, op := .load ty x, type := ty', pos := pos, after := after, guard := gd } a w K Q := by
  have hl : (loadCells ⟨g, off, none⟩ part.toList.length).run P w = .ok part.toList.toArray w :=
    run_loadCells_list (P := P) w ⟨g, off, none⟩ part.toList (fun j v hv => by
      have hadd : (⟨g, off, none⟩ : Addr).add j = ⟨g, off + j, none⟩ := by unfold Addr.add; split <;> simp_all
      rw [hadd, cell_of_row w g (off + j) cs t (0, 0) hg]
      have hj : j < part.toList.length := by
        rcases Nat.lt_or_ge j part.toList.length with h | h
        · exact h
        · rw [List.getElem?_eq_none h] at hv; cases hv
      rw [← hp, List.getElem?_take, if_pos hj, List.getElem?_drop] at hv
      simpa using hv)
  have hrun : (loadVar ty ⟨g, off, none⟩).run P w = .ok (.agg part) w := by
    cases hq : P.info? ty with
    | none => simp [hq] at hi
    | some i =>
      have hs : i.size = part.size := by simpa [hq] using hi
      have hagg : (isAgg ty).run P w = .ok true w := by
        unfold isAgg
        rw [Sem.run_bind, run_underlying hu w]
        cases u <;> simp_all
      simp only [Array.length_toList, Array.toArray_toList] at hl
      simp [loadVar, Sem.run_bind, hagg, sizeOf, typeInfo, hq, hs, hl]
  unfold Oper.wp execOp
  simp only [hx, Instr.loadAt, Instr.sureAddr, Sem.run_bind, Sem.run_pure, Result.andThen_ok, hrun]
  exact h
/-- A struct written inside a larger block. -/
theorem wp_storeIn {d : Option Tmp} {ty ty' : TypeId} {x y : Operand} {pos : String} {after : Array Edge} {gd : Option (Nat × Bool)} {a : Act} {w : World} {K : Act → World → Prop} {Q : Exit → Act → World → Prop}
    {g off : Nat} {t : TypeId} {old part : Array Value} (cs : Array Value) (hg : Whole w g t old) (hx : a.eval x = .pointer (some ⟨g, off, none⟩)) (hy : a.eval y = .agg part)
    (hi : (P.info? ty).map (·.size) = some part.size) (hfit : off + part.toList.length ≤ old.size) (h1 : part.toList.all (·.oneCell') = true)
    (hc : (old.toList.take off ++ part.toList ++ old.toList.drop (off + part.toList.length)).toArray = cs)
    (h : ∀ w', Whole w' g t cs → w.grownBy w' (some g) → w'.heap.size = w.heap.size → K (a.put d undef) w') :
    Oper.wp P { dst := d, op := .store ty x y, type := ty', pos := pos, after := after, guard := gd } a w K Q := by
  have hst := run_storeCells_at (P := P) g off t part.toList 0 old w hg (by simpa using hfit) (fun v hv => List.all_eq_true.1 h1 v hv)
  rw [show off + 0 = off from rfl, hc] at hst
  have hrun : (storeVar ty ⟨g, off, none⟩ (.agg part)).run P w = .ok () (w.setRow g cs) := by
    cases hq : P.info? ty with
    | none => simp [hq] at hi
    | some i =>
      have hs : part.size = i.size := by simp [hq] at hi; omega
      simp [storeVar, sizeOf, typeInfo, hq, Value.cells, hs, hst]
  unfold Oper.wp execOp
  simp only [hx, hy, Instr.storeAt, Instr.sureAddr, Sem.run_bind, Sem.run_pure, Result.andThen_ok, hrun]
  exact h _ (setRow_heap w g old cs t _ hg) ⟨rfl, rfl, rfl, by simp, fun i hi hne => by
      simp only [World.setRow, Array.getElem?_modify]
      rw [if_neg (fun e => hne (by rw [e]))]⟩ (by simp)
theorem wl_storeIn {ops : Array Oper} {rest : List Oper} {d : Option Tmp} {ty ty' : TypeId} {x y : Operand} {pos : String} {after : Array Edge} {gd : Option (Nat × Bool)} {a : Act} {w : World} {Q : Exit → Act → World → Prop}
    {g off : Nat} {t : TypeId} {old part : Array Value} (cs : Array Value) (hg : Whole w g t old)
    (hw : Region.wanted { dst := d, op := .store ty x y, type := ty', pos := pos, after := after, guard := gd } (yielded ops a.tmps) = true) (hx : a.eval x = .pointer (some ⟨g, off, none⟩)) (hy : a.eval y = .agg part)
    (hi : (P.info? ty).map (·.size) = some part.size) (hfit : off + part.toList.length ≤ old.size) (h1 : part.toList.all (·.oneCell') = true)
    (hc : (old.toList.take off ++ part.toList ++ old.toList.drop (off + part.toList.length)).toArray = cs)
    (h : ∀ w', Whole w' g t cs → w.grownBy w' (some g) → w'.heap.size = w.heap.size → wpList P ops Q rest (a.put d undef) w') :
    wpList P ops Q ({ dst := d, op := .store ty x y, type := ty', pos := pos, after := after, guard := gd } :: rest) a w :=
  wl_of_wp hw (wp_storeIn cs hg hx hy hi hfit h1 hc h)
/-- A value of one cell, read; written. -/
theorem wp_load1 {d : Option Tmp} {ty ty' : TypeId} {x : Operand} {pos : String} {after : Array Edge} {gd : Option (Nat × Bool)} {a : Act} {w : World} {K : Act → World → Prop} {Q : Exit → Act → World → Prop}
    {p : Addr} {v : Value} {u : TypeDesc} (hc : w.cell? p = some v) (hu : P.underlying ty = some u) (hx : a.eval x = .pointer (some p))
    (hd : (match u with | .struct _ | .array _ _ => true | _ => false) = false) (h : K (a.put d v) w) :
    Oper.wp P { dst := d, op := .load ty x, type := ty', pos := pos, after := after, guard := gd } a w K Q := by
  have hagg : (isAgg ty).run P w = .ok false w := by
    unfold isAgg
    rw [Sem.run_bind, run_underlying hu w]
    cases u <;> simp_all
  have hrun : (loadVar ty p).run P w = .ok v w := by
    simp [loadVar, Sem.run_bind, hagg, hc]
  unfold Oper.wp execOp
  simp only [hx, Instr.loadAt, Instr.sureAddr, Sem.run_bind, Sem.run_pure, Result.andThen_ok, hrun]
  exact h
theorem wp_store1 {d : Option Tmp} {ty ty' : TypeId} {x y : Operand} {pos : String} {after : Array Edge} {gd : Option (Nat × Bool)} {a : Act} {w : World} {K : Act → World → Prop} {Q : Exit → Act → World → Prop}
    {p : Addr} {v old : Value} {i : TypeInfo} (hc : w.cell? p = some old) (hf : w.frozen? p = false) (hi : P.info? ty = some i) (hi1 : i.size = 1) (hx : a.eval x = .pointer (some p)) (hy : a.eval y = v)
    (hv : v.cells = #[v]) (h1 : v.oneCell' = true) (h : K (a.put d undef) (w.setCell p v)) :
    Oper.wp P { dst := d, op := .store ty x y, type := ty', pos := pos, after := after, guard := gd } a w K Q := by
  have hst : (store p v .plain).run P w = .ok () (w.setCell p v) := by
    rw [run_store P w _ v _ h1, hc]
    simp [hf]
  have hadd : p.add 0 = p := by unfold Addr.add; split <;> simp_all
  have hrun : (storeVar ty p v).run P w = .ok () (w.setCell p v) := by
    simp [storeVar, sizeOf, typeInfo, hi, hi1, hv, storeCells, hadd, hst]
  unfold Oper.wp execOp
  simp only [hx, hy, Instr.storeAt, Instr.sureAddr, Sem.run_bind, Sem.run_pure, Result.andThen_ok, hrun]
  exact h
/-- A field's address. -/
theorem wp_fieldAddr {d : Option Tmp} {t ty' : TypeId} {x : Operand} {i : Nat} {pos : String} {after : Array Edge} {gd : Option (Nat × Bool)} {a : Act} {w : World} {K : Act → World → Prop} {Q : Exit → Act → World → Prop}
    {p r : Value} (hx : a.eval x = p) (hr : (Instr.fieldAt t p i).run P w = .ok r w) (h : K (a.put d r) w) :
    Oper.wp P { dst := d, op := .fieldAddr t x i, type := ty', pos := pos, after := after, guard := gd } a w K Q := by
  unfold Oper.wp execOp
  simp only [hx, Sem.run_bind, hr, Result.andThen_ok, Sem.run_pure]
  exact h
/-- A field's address, as the one operation that may come next. -/
theorem any_fieldAddr {md : Region.Mode} {ops : Array Oper} {Q : Exit → Act → World → Prop} {fuel : Nat} {listed : Array Bool} {a : Act} {w : World} {i : Nat} {d : Option Tmp} {t ty' : TypeId} {x : Operand} {k : Nat} {pos : String} {after : Array Edge} {p r : Value} (hr : Region.ready md ops listed = [i])
    (h1 : ops[i]? = some { dst := d, op := .fieldAddr t x k, type := ty', pos := pos, after := after, guard := none }) (hx : a.eval x = p) (hf : (Instr.fieldAt t p k).run P w = .ok r w) (h : wpAny P md ops Q fuel (listed.setIfInBounds i true) (a.put d r) w) : wpAny P md ops Q (fuel + 1) listed a w :=
  any_one hr h1 rfl (wp_fieldAddr hx hf h)
theorem any_store1 {md : Region.Mode} {ops : Array Oper} {Q : Exit → Act → World → Prop} {fuel : Nat} {listed : Array Bool} {a : Act} {w : World} {j : Nat} {d : Option Tmp} {ty ty' : TypeId} {x y : Operand} {pos : String} {after : Array Edge}
    {p : Addr} {v old : Value} {i : TypeInfo} (hr : Region.ready md ops listed = [j]) (h0 : ops[j]? = some { dst := d, op := .store ty x y, type := ty', pos := pos, after := after, guard := none }) (hc : w.cell? p = some old) (hf : w.frozen? p = false) (hi : P.info? ty = some i) (hi1 : i.size = 1) (hx : a.eval x = .pointer (some p)) (hy : a.eval y = v)
    (hv : v.cells = #[v]) (h1 : v.oneCell' = true) (h : wpAny P md ops Q fuel (listed.setIfInBounds j true) (a.put d undef) (w.setCell p v)) : wpAny P md ops Q (fuel + 1) listed a w :=
  any_one hr h0 rfl (wp_store1 hc hf hi hi1 hx hy hv h1 h)
/-- A call of a Go function. -/
theorem wp_callf {d : Option Tmp} {ty' : TypeId} {ts : Array TypeId} {f : FuncId} {xs : Array Operand} {pos : String} {after : Array Edge} {gd : Option (Nat × Bool)} {a : Act} {w : World} {K : Act → World → Prop} {Q : Exit → Act → World → Prop}
    {vs : Array Value} {fn : Func} {post : Ending → World → Prop} (hfn : P.funcs[f]? = some fn) (hname : (fn.name == "runtime.NumGoroutine") = false) (hbody : fn.body.isNone = false) (hx : xs.map a.eval = vs) (hc : Calls P f vs w post)
    (h : ∀ e w', post e w' → ∃ r, e = .returned r ∧ K (a.put d r) w') :
    Oper.wp P { dst := d, op := .call { callee := .value (.func f), args := xs, argTypes := ts }, type := ty', pos := pos, after := after, guard := gd } a w K Q := by
  have hrun : (execOp a.eval { dst := d, op := .call { callee := .value (.func f), args := xs, argTypes := ts }, type := ty', pos := pos, after := after, guard := gd }).run P w = .ok (.enter f vs) w := by
    have h1 : ¬ fn.name = "runtime.NumGoroutine" := by simpa using hname
    have h2 : ¬ fn.body = none := fun q => by rw [q] at hbody; cases hbody
    have h3 : a.eval (.func f) = .func (.func f) #[] #[] := rfl
    simp only [execOp, resolve, hx, h3]
    simp [Deferred.ofValue, invoke, callFunc, hfn, h1, h2]
  unfold Oper.wp
  rw [hrun]
  refine hc.mono fun e w' he => ?_
  obtain ⟨r, rfl, hK⟩ := h e w' he
  exact hK
/-- A slice literal of one struct. -/
theorem wp_buildOne {d : Option Tmp} {t e ty' : TypeId} {x : Operand} {pos : String} {after : Array Edge} {gd : Option (Nat × Bool)} {a : Act} {w : World} {K : Act → World → Prop} {Q : Exit → Act → World → Prop}
    {part : Array Value} {ie : TypeInfo} {z : Value} (hu : P.underlying t = some (.slice e)) (hie : P.info? e = some ie) (hz : ie.zero = some z) (hsize : ie.size = part.size) (hpos : 0 < part.size) (hsmall : part.size ≤ 16777216) (hx : a.eval x = .agg part)
    (hf : Instr.fill (fun i => some (i * part.size, part.size)) ((Array.range (1 * part.size)).map (z.cells[· % z.cells.size]!)) [(0, .agg part)] = some part)
    (h : K (a.put d (.slice (some ⟨w.heap.size, 0, none⟩) 1 1)) (w.alloc (.cells part e))) :
    Oper.wp P { dst := d, op := .buildSlice t 1 #[(0, x)], type := ty', pos := pos, after := after, guard := gd } a w K Q := by
  refine wp_buildSlice t e 1 _ rfl part ie z hu hie hz (by rw [hsize]; omega) (by rw [hsize]; omega) ?_ h
  rw [hsize]
  simpa [hx] using hf
/-- What a call does to a block that its row doesn't lie in. -/
theorem below_own {w V V' : World} {base : Nat} {e : TypeId} {size : Nat} {v : Value} {n : Nat} {xs : List Value} (hB : Below w.heap.size w V) (ho : V.ownsRow base e size v n xs) (hb : w.heap.size ≤ base) (hg : V.grownBy V' v.ownBlock) : Below w.heap.size w V' :=
  ⟨hg.os.trans hB.os, hg.tape.trans hB.tape, hg.output.trans hB.output, Nat.le_trans hB.size hg.size, fun k hk => (hg.block k (Nat.lt_of_lt_of_le hk hB.size) (fun q => by have := (ho.lt k q.symm).1; omega)).trans (hB.block k hk)⟩
theorem own_far {w : World} {base : Nat} {g : Nat} {e : TypeId} {size : Nat} {v : Value} {n : Nat} {xs : List Value} (h : w.ownsRow base e size v n xs) (hg : g < base) (i : Nat) (u : Value) : (w.setCell ⟨g, i, none⟩ u).ownsRow base e size v n xs := by
  refine ⟨h.1, ?_⟩
  rcases h.2 with hn | ⟨g', cap, cur, rfl, hb, hgg, rest⟩
  · exact .inl hn
  · exact .inr ⟨g', cap, cur, rfl, hb, (Below.heap_setCell w ⟨g, i, none⟩ u g' (show g' ≠ g by omega)).trans hgg, rest⟩
end
end Go.Proofs.Ytknjbkbbhgjnlaa

/- A region that draws its order, walked once, in the order of the text: its operations only read, or make memory. No conditions. -/
namespace Go.Proofs.Ytknjbkbbhgjnlaa
open Go.RowKit
set_option linter.unusedVariables false
set_option linter.unusedSimpArgs false
/-- w' is w with new blocks alone. -/
abbrev Later (w w' : World) : Prop := Below w.heap.size w w'
theorem Later.refl (w : World) : Later w w := Below.refl _ _
theorem Later.trans {a b c : World} (h : Later a b) (k : Later b c) : Later a c := Below.trans h (Below.mono k h.size)
theorem Later.drew {a b : World} (h : Later a b) : Later a b.drew := Below.drew h
theorem Later.alloc {a b : World} (h : Later a b) (o : Obj) : Later a (b.alloc o) := Below.alloc h h.size o
theorem Later.cell {a b : World} (h : Later a b) {p : Addr} {v : Value} (hc : a.cell? p = some v) : b.cell? p = some v := cell_keep hc h
theorem Later.whole {a b : World} (h : Later a b) {g : Nat} {t : TypeId} {cs : Array Value} (hw : Whole a g t cs) : Whole b g t cs := hw.below h hw.lt
/-- What is known of an operation's value. -/
abbrev Fact := Value → World → Prop
abbrev Env := List (Option Tmp × Fact)
section
variable {P : Program} {ops : Array Oper}
/-- What is known of a slot. -/
def Known (a0 : Act) (env : Env) (a : Act) (w : World) (t : Tmp) : Prop :=
  match env.find? (fun e => e.1 == some t) with
  | some e => e.2 (a.eval (.tmp t)) w
  | none => a.eval (.tmp t) = a0.eval (.tmp t)
/-- An operation gives a value of which so much is known, and makes memory at most. -/
def Gives (P : Program) (ops : Array Oper) (o : Oper) (a : Act) (w : World) (F : Fact) : Prop :=
  if Region.wanted o (yielded ops a.tmps) then o.wp P a w (fun a' w' => ∃ v, a' = a.put o.dst v ∧ F v w' ∧ Later w w') (fun _ _ _ => False) else F undef w
def wpG (P : Program) (ops : Array Oper) (a0 : Act) (w0 : World) (Fin : Env → Prop) : List Oper → Env → Prop
  | [], env => Fin env
  | o :: rest, env => ∃ F : Fact, (∀ v w w', Later w w' → F v w → F v w') ∧
      (∀ a w, Later w0 w → (∀ t, (o.looksAt ops).contains t = true → Known a0 env a w t) → Gives P ops o a w F) ∧ wpG P ops a0 w0 Fin rest ((o.dst, F) :: env)
/-- Behind all of them. -/
def fin (K : Act → World → Prop) : Env → Act → World → Prop
  | [], a, w => K a w
  | (d, F) :: rest, a, w => ∀ v, F v w → fin K rest (a.put d v) w
theorem wp_monoQ {o : Oper} {a : Act} {w : World} {K K' : Act → World → Prop} {Q : Exit → Act → World → Prop} (h : ∀ a w, K a w → K' a w) (hh : o.wp P a w K (fun _ _ _ => False)) : o.wp P a w K' Q := by
  unfold Oper.wp at *
  generalize (execOp a.eval o).run P w = r at *
  cases r with
  | ok n w' =>
    cases n <;> simp only [Oper.upon] at hh ⊢ <;>
      first
        | exact h _ _ hh
        | exact Calls.mono hh (fun e w'' he => by
            cases e with
            | returned v => exact h _ _ he
            | panicked c => exact he.elim
            | outgrown => obtain ⟨x, y, hq⟩ := he; exact hq.elim)
        | exact Rows.mono hh (fun _ _ he => h _ _ he)
  | halt x w' => cases x <;> simp only [Oper.upon] at hh ⊢ <;> exact hh.elim
theorem wpG_spec {a0 : Act} {w0 : World} {Fin : Env → Prop} : ∀ (l : List Oper) (env : Env), wpG P ops a0 w0 Fin l env → ∃ E : Env, E.length = l.length ∧ Fin (E.reverse ++ env) ∧ ∀ i o, l[i]? = some o → ∃ F : Fact, E[i]? = some (o.dst, F) ∧ (∀ v w w', Later w w' → F v w → F v w') ∧
      ∀ a w, Later w0 w → (∀ t, (o.looksAt ops).contains t = true → Known a0 ((E.take i).reverse ++ env) a w t) → Gives P ops o a w F
  | [], env, h => ⟨[], rfl, by have h' : Fin env := h; simpa using h', fun i o h => by simp at h⟩
  | o :: rest, env, ⟨F, hs, ho, hr⟩ => by
    obtain ⟨E, hl, hf, hE⟩ := wpG_spec rest ((o.dst, F) :: env) hr
    refine ⟨(o.dst, F) :: E, by simp [hl], by simpa using hf, fun i o' hi => ?_⟩
    cases i with
    | zero =>
      simp at hi
      subst hi
      exact ⟨F, rfl, hs, by simpa using ho⟩
    | succ i =>
      obtain ⟨F', h1, h2, h3⟩ := hE i o' (by simpa using hi)
      exact ⟨F', by simpa using h1, h2, by simpa using h3⟩
/-- The first n operations done, no other. -/
def headDone (n m : Nat) : Array Bool := Array.replicate n true ++ Array.replicate (m - n) false
/-- What a region must be like: the first n operations wait for whatever they look at, each writes a slot of its own; the rest comes behind them, one by one. -/
def growB (ops : Array Oper) (n sz : Nat) : Bool :=
  decide (n ≤ ops.size) && (List.range n).all (fun i => match ops[i]? with
    | none => false
    | some o => o.after.all (fun e => !Region.binds .any e || decide (e.on < i)) && (match o.dst with | none => true | some d => decide (d < sz) && !(o.looksAt ops).contains d) &&
      (List.range n).all (fun j => j == i || match ops[j]? with
        | none => true
        | some oj => match oj.dst with
          | none => true
          | some d => o.dst != some d && (!(o.looksAt ops).contains d || (decide (j < i) && Region.waitsFor .any ops i j) || (decide (i < j) && Region.waitsFor .any ops j i)))) &&
  (n == ops.size || (Region.sinkB .any ops n && Region.chainB .any ops n)) && Region.seqB .any ops (ops.size - n) n (headDone n ops.size)
structure GOk (ops : Array Oper) (n sz : Nat) : Prop where
  le : n ≤ ops.size
  back : ∀ i o, i < n → ops[i]? = some o → ∀ e ∈ o.after, Region.binds .any e = true → e.on < i
  fit : ∀ i o d, i < n → ops[i]? = some o → o.dst = some d → d < sz ∧ (o.looksAt ops).contains d = false
  own : ∀ i j o oj d, i < n → j < n → i ≠ j → ops[i]? = some o → ops[j]? = some oj → oj.dst = some d → o.dst ≠ some d
  flow : ∀ i j o oj d, i < n → j < n → i ≠ j → ops[i]? = some o → ops[j]? = some oj → oj.dst = some d → (o.looksAt ops).contains d = true → (j < i ∧ Region.waitsFor .any ops i j = true) ∨ (i < j ∧ Region.waitsFor .any ops j i = true)
  tail : n = ops.size ∨ (Region.sinkB .any ops n = true ∧ Region.chainB .any ops n = true)
  seq : Region.seqB .any ops (ops.size - n) n (headDone n ops.size) = true
theorem GOk.of {n sz : Nat} (h : growB ops n sz = true) : GOk ops n sz := by
  simp only [growB, Bool.and_eq_true, decide_eq_true_eq, List.all_eq_true, List.mem_range, Bool.or_eq_true, beq_iff_eq] at h
  obtain ⟨⟨⟨hle, hall⟩, ht⟩, hq⟩ := h
  refine ⟨hle, ?_, ?_, ?_, ?_, ht, hq⟩
  · intro i o hi ho e he hb
    have h1 := hall i hi
    simp only [ho, Bool.and_eq_true] at h1
    have h2 := Array.all_eq_true_iff_forall_mem.1 h1.1.1 e he
    simp only [hb, Bool.not_true, Bool.false_or, decide_eq_true_eq] at h2
    exact h2
  · intro i o d hi ho hd
    have h1 := hall i hi
    simp only [ho, Bool.and_eq_true] at h1
    have h2 := h1.1.2
    simp only [hd, Bool.and_eq_true, decide_eq_true_eq, Bool.not_eq_true'] at h2
    exact h2
  · intro i j o oj d hi hj hne ho hoj hd
    have h1 := hall i hi
    simp only [ho, Bool.and_eq_true, List.all_eq_true, List.mem_range, Bool.or_eq_true, beq_iff_eq] at h1
    have h2 := (h1.2 j hj).resolve_left (Ne.symm hne)
    simp only [hoj, hd, Bool.and_eq_true, bne_iff_ne] at h2
    exact h2.1
  · intro i j o oj d hi hj hne ho hoj hd hc
    have h1 := hall i hi
    simp only [ho, Bool.and_eq_true, List.all_eq_true, List.mem_range, Bool.or_eq_true, beq_iff_eq] at h1
    have h2 := (h1.2 j hj).resolve_left (Ne.symm hne)
    simp only [hoj, hd, Bool.and_eq_true, bne_iff_ne, hc, Bool.not_true, Bool.false_or, Bool.or_eq_true, decide_eq_true_eq] at h2
    exact h2.2
def cntN (listed : Array Bool) : Nat → Nat
  | 0 => 0
  | n + 1 => cntN listed n + if listed.getD n true = false then 1 else 0
theorem cntN_ge {listed : Array Bool} {i : Nat} : ∀ n, n ≤ i → cntN (listed.setIfInBounds i true) n = cntN listed n
  | 0, _ => rfl
  | n + 1, h => by
    simp only [cntN]
    rw [cntN_ge n (by omega), getD_set_ne true (by omega)]
theorem cntN_set {listed : Array Bool} {i : Nat} (hs : i < listed.size) (hu : listed.getD i true = false) : ∀ n, i < n → cntN (listed.setIfInBounds i true) n + 1 = cntN listed n
  | 0, h => absurd h (Nat.not_lt_zero _)
  | n + 1, h => by
    simp only [cntN]
    by_cases hin : i = n
    · subst hin
      rw [cntN_ge i (Nat.le_refl _), if_pos hu, if_neg (by simp [hs])]
      
    · have := cntN_set hs hu n (by omega)
      rw [getD_set_ne true hin]
      omega
theorem cntN_zero {listed : Array Bool} : ∀ n, cntN listed n = 0 → ∀ i, i < n → listed.getD i true = true
  | 0, _, _, h => absurd h (Nat.not_lt_zero _)
  | n + 1, h, i, hi => by
    simp only [cntN] at h
    by_cases hin : i = n
    · subst hin
      cases hl : listed.getD i true with
      | true => rfl
      | false => simp [hl] at h
    · exact cntN_zero n (by omega) i (by omega)
theorem cntN_pos {listed : Array Bool} : ∀ n, 0 < cntN listed n → ∃ i, i < n ∧ listed.getD i true = false
  | 0, h => absurd h (Nat.lt_irrefl _)
  | n + 1, h => by
    simp only [cntN] at h
    cases hl : listed.getD n true with
    | false => exact ⟨n, Nat.lt_succ_self _, hl⟩
    | true =>
      simp [hl] at h
      obtain ⟨i, hi, h2⟩ := cntN_pos n h
      exact ⟨i, by omega, h2⟩
structure GInv (ops : Array Oper) (E : Env) (n : Nat) (a0 : Act) (w0 : World) (listed : Array Bool) (a : Act) (w : World) : Prop where
  later : Later w0 w
  size : a.tmps.size = a0.tmps.size
  defers : a.defers = a0.defers
  old : ∀ t, (∀ i o, i < n → ops[i]? = some o → listed.getD i false = true → o.dst ≠ some t) → a.eval (.tmp t) = a0.eval (.tmp t)
  new : ∀ i o F, i < n → ops[i]? = some o → E[i]? = some (o.dst, F) → listed.getD i false = true → ∃ v, F v w ∧ ∀ d, o.dst = some d → a.eval (.tmp d) = v
theorem eval_put_ne (a : Act) (dst : Option Tmp) (v : Value) (t : Tmp) (h : dst ≠ some t) : (a.put dst v).eval (.tmp t) = a.eval (.tmp t) :=
  Act.eval_put fun d hd e => h (by injection e with e; rw [hd, e])
theorem eval_put_eq (a : Act) (d : Tmp) (v : Value) (h : d < a.tmps.size) : (a.put (some d) v).eval (.tmp d) = v := by
  simp [Act.put, Act.eval, h]
theorem put_size (a : Act) (dst : Option Tmp) (v : Value) : (a.put dst v).tmps.size = a.tmps.size := by cases dst <;> simp [Act.put]
theorem put_def (a : Act) (dst : Option Tmp) (v : Value) : (a.put dst v).defers = a.defers := by cases dst <;> rfl
/-- A look-up in what is known of the first i. -/
theorem known_find {E : Env} {n sz i : Nat} {o : Oper} (hok : GOk ops n sz) (hE : ∀ j oj, j < n → ops[j]? = some oj → ∃ F : Fact, E[j]? = some (oj.dst, F)) (hin : i < n) (ho : ops[i]? = some o) (t : Tmp) :
    ((E.take i).reverse.find? (fun e => e.1 == some t) = none ∧ ∀ j oj, j < i → ops[j]? = some oj → oj.dst ≠ some t) ∨ (∃ j oj F, j < i ∧ ops[j]? = some oj ∧ oj.dst = some t ∧ E[j]? = some (oj.dst, F) ∧ (E.take i).reverse.find? (fun e => e.1 == some t) = some (oj.dst, F)) := by
  cases hf : (E.take i).reverse.find? (fun e => e.1 == some t) with
  | none =>
    refine .inl ⟨rfl, fun j oj hj hoj hd => ?_⟩
    obtain ⟨F, hF⟩ := hE j oj (by omega) hoj
    have hm : (oj.dst, F) ∈ (E.take i).reverse := List.mem_reverse.2 (List.mem_of_getElem? (by rw [List.getElem?_take, if_pos hj]; exact hF))
    have := List.find?_eq_none.1 hf _ hm
    simp [hd] at this
  | some e =>
    have hm := List.mem_reverse.1 (List.mem_of_find?_eq_some hf)
    have hp := List.find?_some hf
    obtain ⟨j, hj, hje⟩ := List.mem_iff_getElem?.1 hm |>.imp fun j h => (show j < i ∧ (E.take i)[j]? = some e from ⟨(by
      rcases Nat.lt_or_ge j i with h' | h'
      · exact h'
      · rw [List.getElem?_take, if_neg (by omega)] at h; cases h), h⟩)
    rw [List.getElem?_take, if_pos hj] at hje
    have hlt : j < ops.size := Nat.lt_of_lt_of_le (by omega) hok.le
    have hoj : ops[j]? = some ops[j] := Array.getElem?_eq_getElem hlt
    obtain ⟨F, hF⟩ := hE j _ (by omega) hoj
    rw [hje] at hF
    have he : e = (ops[j].dst, F) := Option.some.inj hF
    subst he
    exact .inr ⟨j, _, F, hj, hoj, by simpa using hp, hje, rfl⟩
theorem GInv.step {E : Env} {n sz i : Nat} {o : Oper} {a0 a : Act} {w0 w : World} {listed : Array Bool} (hok : GOk ops n sz) (hsz : a0.tmps.size = sz)
    (hE : ∀ j oj, ops[j]? = some oj → j < n → ∃ F : Fact, E[j]? = some (oj.dst, F) ∧ (∀ v w w', Later w w' → F v w → F v w') ∧
      ∀ a w, Later w0 w → (∀ t, (oj.looksAt ops).contains t = true → Known a0 (E.take j).reverse a w t) → Gives P ops oj a w F)
    (hH : HeadInv .any ops n listed) (hi : GInv ops E n a0 w0 listed a w) (hr : i ∈ Region.ready .any ops listed) (hin : i < n) (ho : ops[i]? = some o)
    {K : Act → World → Prop} {Q : Exit → Act → World → Prop} (hK : ∀ a' w', GInv ops E n a0 w0 (listed.setIfInBounds i true) a' w' → K a' w') : wpOp P ops Q i K a w := by
  obtain ⟨F, hF, hst, hob⟩ := hE i o ho hin
  have hun := (mem_ready.1 hr).1
  have hils : i < listed.size := by rw [hH.size]; exact Nat.lt_of_lt_of_le hin hok.le
  have hlist : ∀ j, listed.getD j false = true → j ≠ i := fun j hj e => by
    subst e
    rw [getD_both hun] at hj
    cases hj
  -- what is known
  have hkn : ∀ t, (o.looksAt ops).contains t = true → Known a0 (E.take i).reverse a w t := by
    intro t ht
    rcases known_find hok (fun j oj hj hoj => (hE j oj hoj hj).imp fun _ h => h.1) hin ho t with ⟨h1, h2⟩ | ⟨j, oj, G, hj, hoj, hd, hG, hf⟩
    · unfold Known
      rw [h1]
      refine hi.old t fun j oj hj hoj hl hd => ?_
      have hji := hlist j hl
      rcases hok.flow i j o oj t hin hj (Ne.symm hji) ho hoj hd ht with h | h
      · exact h2 j oj h.1 hoj hd
      · obtain ⟨oj', hoj', e, he, hb, hon⟩ := Region.waitsFor_spec h.2
        rw [hoj] at hoj'
        obtain rfl := Option.some.inj hoj'
        have := hH.closed j oj hoj hl e he hb
        rw [hon, getD_both hun] at this
        cases this
    · unfold Known
      rw [hf]
      have hw : listed.getD j false = true := by
        rcases hok.flow i j o oj t hin (by omega) (by omega) ho hoj hd ht with h | h
        · obtain ⟨o', ho', e, he, hb, hon⟩ := Region.waitsFor_spec h.2
          rw [ho] at ho'
          obtain rfl := Option.some.inj ho'
          obtain ⟨_, o'', ho'', hall⟩ := mem_ready.1 hr
          rw [ho] at ho''
          obtain rfl := Option.some.inj ho''
          rw [← hon]
          exact hall e he hb
        · omega
      obtain ⟨v, hv, hev⟩ := hi.new j oj G (by omega) hoj hG hw
      show G (a.eval (.tmp t)) w
      rw [hev t hd]
      exact hv
  have hg := hob a w hi.later hkn
  -- behind it
  have hnext : ∀ v w', F v w' → Later w w' → GInv ops E n a0 w0 (listed.setIfInBounds i true) (a.put o.dst v) w' := by
    intro v w' hv hl
    refine ⟨hi.later.trans hl, by rw [put_size]; exact hi.size, by rw [put_def]; exact hi.defers, fun t ht => ?_, fun j oj G hj hoj hG hlj => ?_⟩
    · rw [eval_put_ne _ _ _ _ (ht i o hin ho (by simp [hils]))]
      exact hi.old t fun j oj hj hoj hlj => ht j oj hj hoj (getD_set_true hlj)
    · by_cases hji : j = i
      · subst hji
        rw [ho] at hoj
        obtain rfl := Option.some.inj hoj
        rw [hF] at hG
        injection hG with hG
        injection hG with _ hG
        subst hG
        refine ⟨v, hv, fun d hd => ?_⟩
        rw [hd]
        exact eval_put_eq a d v (by rw [hi.size, hsz]; exact (hok.fit j o d hin ho hd).1)
      · rw [getD_set_ne false (Ne.symm hji)] at hlj
        obtain ⟨u, hu, hev⟩ := hi.new j oj G hj hoj hG hlj
        obtain ⟨G', hG', hst', _⟩ := hE j oj hoj hj
        rw [hG] at hG'
        injection hG' with hG'
        injection hG' with _ hG'
        subst hG'
        exact ⟨u, hst' _ _ _ hl hu, fun d hd => by rw [eval_put_ne _ _ _ _ (hok.own i j o oj d hin hj (Ne.symm hji) ho hoj hd)]; exact hev d hd⟩
  unfold Gives at hg
  unfold wpOp
  simp only [ho]
  split at hg
  · rename_i hw
    rw [if_pos hw]
    exact .inl (wp_monoQ (fun a' w' h => by
      obtain ⟨v, rfl, hv, hl⟩ := h
      exact hK _ _ (hnext v w' hv hl)) hg)
  · rename_i hw
    rw [if_neg hw]
    exact hK _ _ (hnext undef w hg (Later.refl w))
theorem wpAny_grow {E : Env} {n sz : Nat} {a0 : Act} {w0 : World} {Q : Exit → Act → World → Prop} (hok : GOk ops n sz) (hsz : a0.tmps.size = sz)
    (hE : ∀ j oj, ops[j]? = some oj → j < n → ∃ F : Fact, E[j]? = some (oj.dst, F) ∧ (∀ v w w', Later w w' → F v w → F v w') ∧
      ∀ a w, Later w0 w → (∀ t, (oj.looksAt ops).contains t = true → Known a0 (E.take j).reverse a w t) → Gives P ops oj a w F)
    (hend : ∀ a w, GInv ops E n a0 w0 (headDone n ops.size) a w → wpAny P .any ops Q (ops.size - n) (headDone n ops.size) a w) :
    ∀ (f : Nat) (listed : Array Bool) (a : Act) (w : World), cntN listed n = f → HeadInv .any ops n listed → GInv ops E n a0 w0 listed a w → wpAny P .any ops Q (f + (ops.size - n)) listed a w
  | 0, listed, a, w, hc, hH, hi => by
    have hz := cntN_zero n hc
    have hl : listed = headDone n ops.size := by
      have hle := hok.le
      apply Array.ext
      · simp [headDone, hH.size]; omega
      · intro i h1 h2
        by_cases hin : i < n
        · have := hz i hin
          simp [h1] at this
          simp [headDone, Array.getElem_append, hin, this]
        · have := hH.tail i (by omega) (by rw [← hH.size]; exact h1)
          simp [h1] at this
          simp [headDone, Array.getElem_append, hin, this]
    subst hl
    rw [Nat.zero_add]
    exact hend a w hi
  | f + 1, listed, a, w, hc, hH, hi => by
    rw [show f + 1 + (ops.size - n) = (f + (ops.size - n)) + 1 by omega]
    -- the least one that isn't done is ready
    obtain ⟨k, hk, hku⟩ := cntN_pos n (by rw [hc]; exact Nat.succ_pos f)
    have hmin : ∃ m, m < n ∧ listed.getD m true = false ∧ ∀ j, j < m → listed.getD j true = true := by
      have : ∀ d k, k = d → k < n → listed.getD k true = false → ∃ m, m < n ∧ listed.getD m true = false ∧ ∀ j, j < m → listed.getD j true = true := by
        intro d
        induction d using Nat.strongRecOn with
        | _ d ih =>
          intro k hkd hkn hku
          by_cases h : ∃ j, j < k ∧ listed.getD j true = false
          · obtain ⟨j, hj, hju⟩ := h
            exact ih j (by omega) j rfl (by omega) hju
          · refine ⟨k, hkn, hku, fun j hj => ?_⟩
            cases hl : listed.getD j true with
            | true => rfl
            | false => exact absurd ⟨j, hj, hl⟩ h
      exact this k k rfl hk hku
    obtain ⟨m, hm, hmu, hml⟩ := hmin
    have hmlt : m < ops.size := Nat.lt_of_lt_of_le hm hok.le
    have hom : ops[m]? = some ops[m] := Array.getElem?_eq_getElem hmlt
    have hmr : m ∈ Region.ready .any ops listed := by
      refine mem_ready.2 ⟨hmu, _, hom, fun e he hb => ?_⟩
      have hlt := hok.back m _ hm hom e he hb
      have := hml e.on hlt
      have hs : e.on < listed.size := by rw [hH.size]; omega
      simp [hs] at this ⊢
      exact this
    refine ⟨fun h0 => (by rw [h0] at hmr; cases hmr), fun i hir => ?_⟩
    have hin : i < n := by
      rcases hok.tail with ht | ⟨hs, hc'⟩
      · obtain ⟨_, o, ho, _⟩ := mem_ready.1 hir
        rw [ht]
        exact (Array.getElem?_eq_some_iff.1 ho).1
      · rcases Nat.lt_or_ge i n with h | h
        · exact h
        · by_cases hns : n < ops.size
          · exact absurd hir (tail_waits hs hc' hns hH _ m rfl hm hmu i h)
          · obtain ⟨_, o, ho, _⟩ := mem_ready.1 hir
            have := (Array.getElem?_eq_some_iff.1 ho).1
            omega
    obtain ⟨hiu, o, ho, _⟩ := mem_ready.1 hir
    have hils : i < listed.size := by rw [hH.size]; exact (Array.getElem?_eq_some_iff.1 ho).1
    refine GInv.step hok hsz hE hH hi hir hin ho fun a' w' hi' => ?_
    exact wpAny_grow hok hsz hE hend f _ a' w' (by have := cntN_set hils hiu n hin; omega) (hH.set hir hin) hi'
/-- The end: what is known of each slot, in the order of the text. -/
theorem fin_use {E : Env} {n sz : Nat} {a0 a : Act} {w0 w : World} {K : Act → World → Prop} (hok : GOk ops n sz) (hsz : a0.tmps.size = sz) (hl : E.length = n) (hE : ∀ j oj, ops[j]? = some oj → j < n → ∃ F : Fact, E[j]? = some (oj.dst, F))
    (hi : GInv ops E n a0 w0 (headDone n ops.size) a w) (h : fin K E a0 w) : K a w := by
  have hdone : ∀ i, i < n → (headDone n ops.size).getD i false = true := fun i h => by
    have := hok.le
    simp [headDone, Array.getElem?_append, h]
  -- step by step: behind the first k
  have main : ∀ (m k : Nat) (b : Act), m + k = n → b.tmps.size = a0.tmps.size → b.defers = a0.defers →
      (∀ t, (∀ i o, i < k → ops[i]? = some o → o.dst ≠ some t) → b.eval (.tmp t) = a0.eval (.tmp t)) → (∀ i o d, i < k → ops[i]? = some o → o.dst = some d → b.eval (.tmp d) = a.eval (.tmp d)) → fin K (E.drop k) b w → K a w := by
    intro m
    induction m with
    | zero =>
      intro k b hk h1 h2 h3 h4 hf
      have hkn : k = n := by omega
      subst hkn
      rw [List.drop_of_length_le (by omega)] at hf
      have hab : a = b := by
        have ht : a.tmps = b.tmps := by
          apply Array.ext
          · rw [hi.size, h1]
          · intro t ht1 ht2
            have : a.eval (.tmp t) = b.eval (.tmp t) := by
              by_cases hx : ∃ i o, i < k ∧ ops[i]? = some o ∧ o.dst = some t
              · obtain ⟨i, o, hik, ho, hd⟩ := hx
                exact (h4 i o t hik ho hd).symm
              · rw [h3 t fun i o hik ho hd => hx ⟨i, o, hik, ho, hd⟩]
                exact hi.old t fun i o hik ho _ hd => hx ⟨i, o, hik, ho, hd⟩
            simpa [Act.eval, ht1, ht2] using this
        have hd : a.defers = b.defers := by rw [hi.defers, h2]
        cases a; cases b
        simp only at ht hd
        subst ht hd
        rfl
      rw [hab]
      exact hf
    | succ m ih =>
      intro k b hk h1 h2 h3 h4 hf
      have hkn : k < n := by omega
      have hlt : k < ops.size := Nat.lt_of_lt_of_le hkn hok.le
      have ho : ops[k]? = some ops[k] := Array.getElem?_eq_getElem hlt
      obtain ⟨F, hF⟩ := hE k _ ho hkn
      obtain ⟨v, hv, hev⟩ := hi.new k _ F hkn ho hF (hdone k hkn)
      have hdrop : E.drop k = (ops[k].dst, F) :: E.drop (k + 1) := by
        have hkl : k < E.length := by omega
        rw [List.drop_eq_getElem_cons hkl]
        rw [List.getElem?_eq_getElem hkl] at hF
        rw [Option.some.inj hF]
      rw [hdrop] at hf
      refine ih (k + 1) (b.put ops[k].dst v) (by omega) (by rw [put_size, h1]) (by rw [put_def, h2]) (fun t ht => ?_) (fun i o d hik hio hd => ?_) (hf v hv)
      · rw [eval_put_ne _ _ _ _ (ht k _ (Nat.lt_succ_self k) ho)]
        exact h3 t fun i o hik hio => ht i o (by omega) hio
      · by_cases hieq : i = k
        · subst hieq
          rw [ho] at hio
          obtain rfl := Option.some.inj hio
          rw [hev d hd, hd]
          exact eval_put_eq b d v (by rw [h1, hsz]; exact (hok.fit i _ d hkn ho hd).1)
        · rw [eval_put_ne _ _ _ _ (hok.own k i _ o d hkn (by omega) (Ne.symm hieq) ho hio hd)]
          exact h4 i o d (by omega) hio hd
  exact main n 0 a0 (by omega) rfl rfl (fun t _ => rfl) (fun i o d hik => absurd hik (Nat.not_lt_zero _)) (by simpa using h)
/-- A region that draws its order: its first n operations only read or make memory, the rest comes one by one. -/
theorem wp_region_grow {id : Nat} {Q : Exit → Act → World → Prop} {a : Act} {w : World} {l : List Oper} (n sz : Nat) (hm : P.follows .mixedOrders = true) (hB : growB l.toArray n sz = true) (hsz : a.tmps.size = sz)
    (h : ∀ w0 : World, Later w w0 → wpG P l.toArray a w0 (fun env => ∀ w', Later w0 w' → fin (fun a' w' => wpList P l.toArray Q (l.drop n) a' w') env.reverse a w') (l.take n) []) : (Code.region id l.toArray true).wp P Q a w := by
  have hok := GOk.of hB
  have hle : n ≤ l.length := by simpa using hok.le
  obtain ⟨E, hEl, hF, hE⟩ := wpG_spec _ _ (h { w with drawn := w.drawn + 1 } (Later.refl w).drew)
  simp only [List.append_nil, List.reverse_reverse] at hF hE
  have hEn : E.length = n := by rw [hEl, List.length_take]; omega
  have hE' : ∀ j oj, l.toArray[j]? = some oj → j < n → ∃ F : Fact, E[j]? = some (oj.dst, F) ∧ (∀ v w w', Later w w' → F v w → F v w') ∧
      ∀ a1 w1, Later { w with drawn := w.drawn + 1 } w1 → (∀ t, (oj.looksAt l.toArray).contains t = true → Known a (E.take j).reverse a1 w1 t) → Gives P l.toArray oj a1 w1 F := fun j oj hoj hj => by
    have : (l.take n)[j]? = some oj := by rw [List.getElem?_take, if_pos hj]; simpa using hoj
    exact hE j oj this
  have inv0 : HeadInv .any l.toArray n (Array.replicate l.toArray.size false) :=
    ⟨by simp, fun j oj _ hl => (by rw [getD_replicate_false] at hl; cases hl), fun t _ ht => getD_in (by simpa using ht) (getD_replicate_false _ _)⟩
  have hcnt : ∀ k, k ≤ l.toArray.size → cntN (Array.replicate l.toArray.size false) k = k := by
    intro k
    induction k with
    | zero => intro _; rfl
    | succ k ih =>
      intro hk
      simp only [cntN]
      rw [ih (by omega), if_pos (getD_in (by simp at hk ⊢; omega) (getD_replicate_false _ _))]
  refine wp_region_any hm ?_
  have := wpAny_grow (Q := Q) hok hsz hE' (fun a' w' hi => ?_) n _ a { w with drawn := w.drawn + 1 } (hcnt n hok.le) inv0
    ⟨Later.refl _, rfl, rfl, fun t _ => rfl, fun i o F _ _ _ hl => (by rw [getD_replicate_false] at hl; cases hl)⟩
  · rw [show n + (l.toArray.size - n) = l.toArray.size by have := hok.le; omega] at this
    exact this
  · have hk := fin_use hok hsz hEn (fun j oj hoj hj => (hE' j oj hoj hj).imp fun _ h => h.1) hi (hF w' hi.later)
    have hdl : (l.drop n).length = l.toArray.size - n := by simp
    have := wpAny_of_seq (md := .any) (Q' := Q) (l.drop n) n (headDone n l.toArray.size) a' w' (fun j => by simp [List.getElem?_drop]) (by rw [hdl]; exact hok.seq) hk
    rwa [hdl] at this
end
end Go.Proofs.Ytknjbkbbhgjnlaa

/- Laws for the single operations of a drawn region that is walked once. No conditions. -/
namespace Go.Proofs.Ytknjbkbbhgjnlaa
open Go.RowKit
set_option linter.unusedVariables false
set_option linter.unusedSimpArgs false
abbrev Is (v : Value) : Fact := fun u _ => u = v
section
variable {P : Program} {ops : Array Oper} {a0 : Act} {w0 : World} {Fin : Env → Prop} {rest : List Oper} {env : Env}
theorem wpG_nil (h : Fin env) : wpG P ops a0 w0 Fin [] env := h
theorem wpG_step {o : Oper} (F : Fact) (hs : ∀ v w w', Later w w' → F v w → F v w')
    (h : ∀ a w, Later w0 w → (∀ t, (o.looksAt ops).contains t = true → Known a0 env a w t) → Gives P ops o a w F) (hr : wpG P ops a0 w0 Fin rest ((o.dst, F) :: env)) : wpG P ops a0 w0 Fin (o :: rest) env := ⟨F, hs, h, hr⟩
theorem wpG_value {o : Oper} (v : Value) (hg : o.guard = none) (h : ∀ a w, Later w0 w → (∀ t, (o.looksAt ops).contains t = true → Known a0 env a w t) → ∀ K : Result Next → Prop, K (.ok (.value v) w) → K ((execOp a.eval o).run P w))
    (hr : wpG P ops a0 w0 Fin rest ((o.dst, Is v) :: env)) : wpG P ops a0 w0 Fin (o :: rest) env := by
  refine ⟨Is v, fun _ _ _ _ h => h, fun a w hl hk => ?_, hr⟩
  unfold Gives
  rw [if_pos (by simp [Region.wanted, hg])]
  unfold Oper.wp
  exact h a w hl hk (fun r => Oper.upon P o a _ _ r) ⟨v, rfl, rfl, Later.refl w⟩
theorem wpG_value' {o : Oper} {v : Value} (hg : o.guard = none) (h : ∀ a w, Later w0 w → (∀ t, (o.looksAt ops).contains t = true → Known a0 env a w t) → ∀ K : Result Next → Prop, K (.ok (.value v) w) → K ((execOp a.eval o).run P w))
    (hr : wpG P ops a0 w0 Fin rest ((o.dst, Is v) :: env)) : wpG P ops a0 w0 Fin (o :: rest) env := wpG_value v hg h hr
/-- By a law on one operation. -/
theorem gives_of {o : Oper} {a : Act} {w : World} {F : Fact} (hg : o.guard = none) (h : o.wp P a w (fun a' w' => ∃ v, a' = a.put o.dst v ∧ F v w' ∧ Later w w') (fun _ _ _ => False)) : Gives P ops o a w F := by
  unfold Gives
  rw [if_pos (by simp [Region.wanted, hg])]
  exact h
variable {d : Option Tmp} {ty ty' : TypeId} {x : Operand} {pos : String} {after : Array Edge}
theorem wpG_move {v : Value} (hx : ∀ a w, (∀ t, (Oper.looksAt ops { dst := d, op := .move x, type := ty', pos := pos, after := after, guard := none }).contains t = true → Known a0 env a w t) → a.eval x = v)
    (hr : wpG P ops a0 w0 Fin rest ((d, Is v) :: env)) : wpG P ops a0 w0 Fin ({ dst := d, op := .move x, type := ty', pos := pos, after := after, guard := none } :: rest) env :=
  wpG_value v rfl (fun a w hl hk K hK => by rw [← hx a w hk] at hK; simpa [execOp] using hK) hr
theorem wpG_assign {v : Value} (hx : ∀ a w, (∀ t, (Oper.looksAt ops { dst := d, op := .assign x, type := ty', pos := pos, after := after, guard := none }).contains t = true → Known a0 env a w t) → a.eval x = v)
    (hr : wpG P ops a0 w0 Fin rest ((d, Is v) :: env)) : wpG P ops a0 w0 Fin ({ dst := d, op := .assign x, type := ty', pos := pos, after := after, guard := none } :: rest) env :=
  wpG_value v rfl (fun a w hl hk K hK => by rw [← hx a w hk] at hK; simpa [execOp] using hK) hr
/-- A cell read. -/
theorem wpG_load1 {p : Addr} {v : Value} {u : TypeDesc} (hc : w0.cell? p = some v) (hu : P.underlying ty = some u) (hd : (match u with | .struct _ | .array _ _ => true | _ => false) = false)
    (hx : ∀ a w, (∀ t, (Oper.looksAt ops { dst := d, op := .load ty x, type := ty', pos := pos, after := after, guard := none }).contains t = true → Known a0 env a w t) → a.eval x = .pointer (some p))
    (hr : wpG P ops a0 w0 Fin rest ((d, Is v) :: env)) : wpG P ops a0 w0 Fin ({ dst := d, op := .load ty x, type := ty', pos := pos, after := after, guard := none } :: rest) env :=
  ⟨Is v, fun _ _ _ _ h => h, fun a w hl hk => gives_of rfl (wp_load1 (hl.cell hc) hu (hx a w hk) hd ⟨v, rfl, rfl, Later.refl w⟩), hr⟩
/-- A whole block read. -/
theorem wpG_loadW {g : Nat} {t : TypeId} {cs : Array Value} {u : TypeDesc} (hw : Whole w0 g t cs) (hu : P.underlying ty = some u) (hd : (match u with | .struct _ | .array _ _ => true | _ => false) = true) (hi : (P.info? ty).map (·.size) = some cs.size)
    (hx : ∀ a w, (∀ t, (Oper.looksAt ops { dst := d, op := .load ty x, type := ty', pos := pos, after := after, guard := none }).contains t = true → Known a0 env a w t) → a.eval x = .pointer (some ⟨g, 0, none⟩))
    (hr : wpG P ops a0 w0 Fin rest ((d, Is (.agg cs)) :: env)) : wpG P ops a0 w0 Fin ({ dst := d, op := .load ty x, type := ty', pos := pos, after := after, guard := none } :: rest) env :=
  ⟨Is (.agg cs), fun _ _ _ _ h => h, fun a w hl hk => gives_of rfl (wp_loadW (hl.whole hw) hu (hx a w hk) hd hi ⟨_, rfl, rfl, Later.refl w⟩), hr⟩
/-- A struct read inside a larger block. -/
theorem wpG_loadIn {g off : Nat} {t : TypeId} {cs : Array Value} {u : TypeDesc} (part : Array Value) (hw : Whole w0 g t cs) (hp : (cs.toList.drop off).take part.toList.length = part.toList) (hu : P.underlying ty = some u) (hd : (match u with | .struct _ | .array _ _ => true | _ => false) = true) (hi : (P.info? ty).map (·.size) = some part.size)
    (hx : ∀ a w, (∀ t, (Oper.looksAt ops { dst := d, op := .load ty x, type := ty', pos := pos, after := after, guard := none }).contains t = true → Known a0 env a w t) → a.eval x = .pointer (some ⟨g, off, none⟩))
    (hr : wpG P ops a0 w0 Fin rest ((d, Is (.agg part)) :: env)) : wpG P ops a0 w0 Fin ({ dst := d, op := .load ty x, type := ty', pos := pos, after := after, guard := none } :: rest) env :=
  ⟨Is (.agg part), fun _ _ _ _ h => h, fun a w hl hk => gives_of rfl (wp_loadIn part (hl.whole hw) hp hu (hx a w hk) hd hi ⟨_, rfl, rfl, Later.refl w⟩), hr⟩
/-- A call that gives one value, whatever the world. -/
theorem wpG_call {ts : Array TypeId} {f : FuncId} {xs : Array Operand} (vs : Array Value) (v : Value) {fn : Func} (hfn : P.funcs[f]? = some fn) (hname : (fn.name == "runtime.NumGoroutine") = false) (hbody : fn.body.isNone = false)
    (hc : ∀ w, Later w0 w → Calls P f vs w (fun e w' => e = .returned v ∧ Later w w'))
    (hx : ∀ a w, (∀ t, (Oper.looksAt ops { dst := d, op := .call { callee := .value (.func f), args := xs, argTypes := ts }, type := ty', pos := pos, after := after, guard := none }).contains t = true → Known a0 env a w t) → xs.map a.eval = vs)
    (hr : wpG P ops a0 w0 Fin rest ((d, Is v) :: env)) : wpG P ops a0 w0 Fin ({ dst := d, op := .call { callee := .value (.func f), args := xs, argTypes := ts }, type := ty', pos := pos, after := after, guard := none } :: rest) env :=
  ⟨Is v, fun _ _ _ _ h => h, fun a w hl hk => gives_of rfl (wp_callf hfn hname hbody (hx a w hk) (hc w hl) (fun e w' he => ⟨v, he.1, ⟨v, rfl, rfl, he.2⟩⟩)), hr⟩
/-- A call that gives a value of which something is known. -/
theorem wpG_callF {ts : Array TypeId} {f : FuncId} {xs : Array Operand} (F : Fact) (hs : ∀ v w w', Later w w' → F v w → F v w') {fn : Func} (hfn : P.funcs[f]? = some fn) (hname : (fn.name == "runtime.NumGoroutine") = false) (hbody : fn.body.isNone = false)
    (hc : ∀ a w, Later w0 w → (∀ t, (Oper.looksAt ops { dst := d, op := .call { callee := .value (.func f), args := xs, argTypes := ts }, type := ty', pos := pos, after := after, guard := none }).contains t = true → Known a0 env a w t) → Calls P f (xs.map a.eval) w (fun e w' => ∃ v, e = .returned v ∧ F v w' ∧ Later w w'))
    (hr : wpG P ops a0 w0 Fin rest ((d, F) :: env)) : wpG P ops a0 w0 Fin ({ dst := d, op := .call { callee := .value (.func f), args := xs, argTypes := ts }, type := ty', pos := pos, after := after, guard := none } :: rest) env :=
  ⟨F, hs, fun a w hl hk => gives_of rfl (wp_callf hfn hname hbody rfl (hc a w hl hk) (fun e w' he => by obtain ⟨v, h1, h2, h3⟩ := he; exact ⟨v, h1, ⟨v, rfl, h2, h3⟩⟩)), hr⟩
/-- Bytes in a block of their own. -/
def BytesF (e : TypeId) (l : List Int) : Fact := fun v w => ∃ g, v = .slice (some ⟨g, 0, none⟩) l.length l.length ∧ Whole w g e (l.map (Value.int .u8)).toArray
theorem BytesF.later {e : TypeId} {l : List Int} (v : Value) (w w' : World) (h : Later w w') (k : BytesF e l v w) : BytesF e l v w' := by
  obtain ⟨g, rfl, hw⟩ := k
  exact ⟨g, rfl, h.whole hw⟩
def ByteT (P : Program) (e : TypeId) : Prop := (P.info? e).map (fun i => (i.zero, i.size, i.bytes)) = some (some (.int .u8 0), 1, 1)
/-- Four bytes, or one, laid. -/
theorem wpG_build4 {t e : TypeId} {x0 x1 x2 x3 : Operand} {y0 y1 y2 y3 : Int} (hu : P.underlying t = some (.slice e)) (he : ByteT P e)
    (hx : ∀ a w, (∀ t', (Oper.looksAt ops { dst := d, op := .buildSlice t 4 #[(0, x0), (1, x1), (2, x2), (3, x3)], type := ty', pos := pos, after := after, guard := none }).contains t' = true → Known a0 env a w t') → a.eval x0 = .int .u8 y0 ∧ a.eval x1 = .int .u8 y1 ∧ a.eval x2 = .int .u8 y2 ∧ a.eval x3 = .int .u8 y3)
    (hr : wpG P ops a0 w0 Fin rest ((d, BytesF e [y0, y1, y2, y3]) :: env)) : wpG P ops a0 w0 Fin ({ dst := d, op := .buildSlice t 4 #[(0, x0), (1, x1), (2, x2), (3, x3)], type := ty', pos := pos, after := after, guard := none } :: rest) env := by
  obtain ⟨ie, h1, h2, h3, h4⟩ := info_parts he
  refine ⟨BytesF e [y0, y1, y2, y3], BytesF.later, fun a w hl hk => gives_of rfl ?_, hr⟩
  obtain ⟨e0, e1, e2, e3⟩ := hx a w hk
  refine wp_buildSlice t e 4 _ rfl #[.int .u8 y0, .int .u8 y1, .int .u8 y2, .int .u8 y3] ie _ hu h1 h2 (by rw [h3]; decide) (by rw [h3]; decide) ?_ ⟨_, rfl, ⟨_, rfl, Whole.new _ _ _⟩, (Later.refl w).alloc _⟩
  rw [h3]
  simp only [List.map_toArray, List.map_cons, List.map_nil, e0, e1, e2, e3]
  kernel_rfl
theorem wpG_build1 {t e : TypeId} {x0 : Operand} {y0 : Int} (hu : P.underlying t = some (.slice e)) (he : ByteT P e)
    (hx : ∀ a w, (∀ t', (Oper.looksAt ops { dst := d, op := .buildSlice t 1 #[(0, x0)], type := ty', pos := pos, after := after, guard := none }).contains t' = true → Known a0 env a w t') → a.eval x0 = .int .u8 y0)
    (hr : wpG P ops a0 w0 Fin rest ((d, BytesF e [y0]) :: env)) : wpG P ops a0 w0 Fin ({ dst := d, op := .buildSlice t 1 #[(0, x0)], type := ty', pos := pos, after := after, guard := none } :: rest) env := by
  obtain ⟨ie, h1, h2, h3, h4⟩ := info_parts he
  refine ⟨BytesF e [y0], BytesF.later, fun a w hl hk => gives_of rfl ?_, hr⟩
  have e0 := hx a w hk
  refine wp_buildSlice t e 1 _ rfl #[.int .u8 y0] ie _ hu h1 h2 (by rw [h3]; decide) (by rw [h3]; decide) ?_ ⟨_, rfl, ⟨_, rfl, Whole.new _ _ _⟩, (Later.refl w).alloc _⟩
  rw [h3]
  simp only [List.map_toArray, List.map_cons, List.map_nil, e0]
  kernel_rfl
/-- string(bytes). -/
theorem wpG_str {src dst e : TypeId} {l : List Int} (hs : P.underlying src = some (.slice e)) (he : P.underlying e = some (.int .u8)) (hd : P.underlying dst = some .string)
    (hx : ∀ a w, (∀ t, (Oper.looksAt ops { dst := d, op := .convert src dst x, type := ty', pos := pos, after := after, guard := none }).contains t = true → Known a0 env a w t) → BytesF e l (a.eval x) w)
    (hr : wpG P ops a0 w0 Fin rest ((d, Is (.string (strOfNums l))) :: env)) : wpG P ops a0 w0 Fin ({ dst := d, op := .convert src dst x, type := ty', pos := pos, after := after, guard := none } :: rest) env :=
  wpG_value _ rfl (fun a w hl hk K hK => by
    obtain ⟨g, hv, hw⟩ := hx a w hk
    have h1 := run_convert_bytes_arg (P := P) (w := w) src e hs he g 0 l.length l.length l rfl (fun i hi => by rw [hw.cell]; simp [hi]) dst hd
    simp only [execOp, hv, Sem.run_bind, h1, Result.andThen_ok, Sem.run_pure]
    exact hK) hr
theorem fin_is {K : Act → World → Prop} {d : Option Tmp} {v : Value} {rest : Env} {a : Act} {w : World} (h : fin K rest (a.put d v) w) : fin K ((d, Is v) :: rest) a w := fun u hu => by
  have : u = v := hu
  subst this
  exact h
theorem fin_some {K : Act → World → Prop} {d : Option Tmp} {F : Fact} {rest : Env} {a : Act} {w : World} (h : ∀ v, F v w → fin K rest (a.put d v) w) : fin K ((d, F) :: rest) a w := h
theorem fin_nil {K : Act → World → Prop} {a : Act} {w : World} (h : K a w) : fin K [] a w := h
end
end Go.Proofs.Ytknjbkbbhgjnlaa

/- Rows of texts in one block; make with a length; a call through a function's value. No conditions. -/
namespace Go.Proofs.Ytknjbkbbhgjnlaa
open Go.RowKit
set_option linter.unusedVariables false
set_option linter.unusedSimpArgs false
def sarr (l : List ByteArray) : Array Value := (l.map Value.string).toArray
theorem sarr_size (l : List ByteArray) : (sarr l).size = l.length := by simp [sarr]
theorem sarr_cell {W : World} {g : Nat} {T : TypeId} {l : List ByteArray} (h : Whole W g T (sarr l)) {i : Nat} (hi : i < l.length) : W.cell? ⟨g, i, none⟩ = some (.string (l.getD i ByteArray.empty)) := by
  rw [h.cell i]
  simp [sarr, hi]
theorem sarr_put {W : World} {g : Nat} {T : TypeId} {l : List ByteArray} (h : Whole W g T (sarr l)) (i : Nat) (s : ByteArray) : Whole (W.setCell ⟨g, i, none⟩ (.string s)) g T (sarr (l.set i s)) := by
  refine h.put' i _ ?_
  apply Array.ext_getElem?
  intro j
  simp only [sarr, List.setIfInBounds_toArray, List.getElem?_toArray, List.map_set]
theorem sgetD_set (l : List ByteArray) (i j : Nat) (s : ByteArray) : (l.set i s).getD j ByteArray.empty = if i = j ∧ i < l.length then s else l.getD j ByteArray.empty := by
  simp only [List.getD_eq_getElem?_getD, List.getElem?_set]
  by_cases h : i = j
  · subst h
    by_cases h2 : i < l.length
    · simp [h2]
    · simp [h2]
  · simp [h]
theorem made1 (z : Value) (hz : z.cells = #[z]) (n : Nat) : madeCells z.cells n = Array.replicate n z := by
  rw [hz]
  unfold madeCells
  apply Array.ext
  · simp
  · intro i h1 h2
    simp
    rw [Nat.mod_one]
    rfl
theorem sarr_replicate (n : Nat) : Array.replicate n (Value.string ⟨#[]⟩) = sarr (List.replicate n ByteArray.empty) := by
  unfold sarr
  rw [List.map_replicate]
  exact (List.toArray_replicate n _).symm
section
variable {P : Program}
/-- make([]T, n), T of one cell. -/
theorem run_make1 {t e : TypeId} {z : Value} {b : Nat} (ht : P.underlying t = some (.slice e)) (hi : (P.info? e).map (fun i => (i.zero, i.size, i.bytes)) = some (some z, 1, b)) (hz : z.cells = #[z]) (n : Nat) (hb : b * n ≤ 281474976710656) (hn : n ≤ 9223372036854775807) (w : World) :
    (Instr.makeSlice t (.int .i64 (n : Int)) (.int .i64 (n : Int))).run P w = .ok (.slice (some ⟨w.heap.size, 0, none⟩) n n) (w.alloc (.cells (Array.replicate n z) e)) := by
  obtain ⟨i, h1, h2, h3, h4⟩ := info_parts hi
  have := run_make (P := P) w t e i z ht h1 h2 .i64 .i64 (n : Int) n (by omega) (Int.le_refl _) (by rw [h4, ← Int.natCast_mul]; omega) (by omega)
  rw [this, h3, Nat.mul_one, Int.toNat_natCast, made1 z hz]
/-- A call through a function's value. -/
theorem wp_callv {d : Option Tmp} {ty' : TypeId} {ts : Array TypeId} {x : Operand} {f : FuncId} {xs : Array Operand} {pos : String} {after : Array Edge} {gd : Option (Nat × Bool)} {a : Act} {w : World} {K : Act → World → Prop} {Q : Exit → Act → World → Prop}
    {vs : Array Value} {post : Ending → World → Prop} (hf : ∀ args w, (callFunc f args).run P w = .ok (.enter f args) w) (hv : a.eval x = .func (.func f) #[] #[]) (hx : xs.map a.eval = vs) (hc : Calls P f vs w post)
    (h : ∀ e w', post e w' → ∃ r, e = .returned r ∧ K (a.put d r) w') :
    Oper.wp P { dst := d, op := .call { callee := .value x, args := xs, argTypes := ts }, type := ty', pos := pos, after := after, guard := gd } a w K Q := by
  have hrun : (execOp a.eval { dst := d, op := .call { callee := .value x, args := xs, argTypes := ts }, type := ty', pos := pos, after := after, guard := gd }).run P w = .ok (.enter f vs) w := by
    simp only [execOp, resolve, hx, hv]
    simp [Deferred.ofValue, invoke, hf]
  unfold Oper.wp
  rw [hrun]
  refine hc.mono fun e w' he => ?_
  obtain ⟨r, rfl, hK⟩ := h e w' he
  exact hK
theorem wl_store1 {ops : Array Oper} {rest : List Oper} {Q : Exit → Act → World → Prop} {d : Option Tmp} {ty ty' : TypeId} {x y : Operand} {pos : String} {after : Array Edge} {a : Act} {w : World}
    {p : Addr} {v old : Value} {i : TypeInfo} (hc : w.cell? p = some old) (hf : w.frozen? p = false) (hi : P.info? ty = some i) (hi1 : i.size = 1) (hx : a.eval x = .pointer (some p)) (hy : a.eval y = v)
    (hv : v.cells = #[v]) (h1 : v.oneCell' = true) (h : wpList P ops Q rest (a.put d undef) (w.setCell p v)) :
    wpList P ops Q ({ dst := d, op := .store ty x y, type := ty', pos := pos, after := after, guard := none } :: rest) a w :=
  wl_of_wp (by simp [Region.wanted]) (wp_store1 hc hf hi hi1 hx hy hv h1 h)
theorem wl_callv {ops : Array Oper} {rest : List Oper} {Q : Exit → Act → World → Prop} {d : Option Tmp} {ty' : TypeId} {ts : Array TypeId} {x : Operand} {f : FuncId} {xs : Array Operand} {pos : String} {after : Array Edge} {a : Act} {w : World}
    {vs : Array Value} {post : Ending → World → Prop} (hf : ∀ args w, (callFunc f args).run P w = .ok (.enter f args) w) (hv : a.eval x = .func (.func f) #[] #[]) (hx : xs.map a.eval = vs) (hc : Calls P f vs w post)
    (h : ∀ e w', post e w' → ∃ r, e = .returned r ∧ wpList P ops Q rest (a.put d r) w') :
    wpList P ops Q ({ dst := d, op := .call { callee := .value x, args := xs, argTypes := ts }, type := ty', pos := pos, after := after, guard := none } :: rest) a w :=
  wl_of_wp (by simp [Region.wanted]) (wp_callv hf hv hx hc h)
variable {ops : Array Oper} {a0 : Act} {w0 : World} {Fin : Env → Prop} {rest : List Oper} {env : Env} {d : Option Tmp} {ty ty' : TypeId} {x : Operand} {pos : String} {after : Array Edge}
theorem wpG_callv {ts : Array TypeId} {f : FuncId} {xs : Array Operand} (vs : Array Value) (v : Value) (hf : ∀ args w, (callFunc f args).run P w = .ok (.enter f args) w)
    (hc : ∀ w, Later w0 w → Calls P f vs w (fun e w' => e = .returned v ∧ Later w w'))
    (hx : ∀ a w, (∀ t, (Oper.looksAt ops { dst := d, op := .call { callee := .value x, args := xs, argTypes := ts }, type := ty', pos := pos, after := after, guard := none }).contains t = true → Known a0 env a w t) → a.eval x = .func (.func f) #[] #[] ∧ xs.map a.eval = vs)
    (hr : wpG P ops a0 w0 Fin rest ((d, Is v) :: env)) : wpG P ops a0 w0 Fin ({ dst := d, op := .call { callee := .value x, args := xs, argTypes := ts }, type := ty', pos := pos, after := after, guard := none } :: rest) env :=
  ⟨Is v, fun _ _ _ _ h => h, fun a w hl hk => gives_of rfl (wp_callv hf (hx a w hk).1 (hx a w hk).2 (hc w hl) (fun e w' he => ⟨v, he.1, ⟨v, rfl, rfl, he.2⟩⟩)), hr⟩
end
end Go.Proofs.Ytknjbkbbhgjnlaa

/- Regions that draw their order, more: a slice literal of one text; a row of texts of a call's own. No conditions. -/
namespace Go.Proofs.Ytknjbkbbhgjnlaa
open Go.RowKit
set_option linter.unusedVariables false
set_option linter.unusedSimpArgs false
section
variable {P : Program} {ops : Array Oper} {a0 : Act} {w0 : World} {Fin : Env → Prop} {rest : List Oper} {env : Env} {d : Option Tmp} {ty ty' : TypeId} {x : Operand} {pos : String} {after : Array Edge}
/-- One text in a block of its own. -/
def TextF (e : TypeId) (s : ByteArray) : Fact := fun v w => ∃ g, v = .slice (some ⟨g, 0, none⟩) 1 1 ∧ Whole w g e #[.string s]
theorem TextF.later {e : TypeId} {s : ByteArray} (v : Value) (w w' : World) (h : Later w w') (k : TextF e s v w) : TextF e s v w' := by
  obtain ⟨g, rfl, hw⟩ := k
  exact ⟨g, rfl, h.whole hw⟩
def StrT (P : Program) (e : TypeId) : Prop := (P.info? e).map (fun i => (i.zero, i.size, i.bytes)) = some (some (.string ⟨#[]⟩), 1, 16)
theorem wpG_buildS {t e : TypeId} {x0 : Operand} {s : ByteArray} (hu : P.underlying t = some (.slice e)) (he : StrT P e)
    (hx : ∀ a w, (∀ t', (Oper.looksAt ops { dst := d, op := .buildSlice t 1 #[(0, x0)], type := ty', pos := pos, after := after, guard := none }).contains t' = true → Known a0 env a w t') → a.eval x0 = .string s)
    (hr : wpG P ops a0 w0 Fin rest ((d, TextF e s) :: env)) : wpG P ops a0 w0 Fin ({ dst := d, op := .buildSlice t 1 #[(0, x0)], type := ty', pos := pos, after := after, guard := none } :: rest) env := by
  obtain ⟨ie, h1, h2, h3, h4⟩ := info_parts he
  refine ⟨TextF e s, TextF.later, fun a w hl hk => gives_of rfl ?_, hr⟩
  have e0 := hx a w hk
  refine wp_buildSlice t e 1 _ rfl #[.string s] ie _ hu h1 h2 (by rw [h3]; decide) (by rw [h3]; decide) ?_ ⟨_, rfl, ⟨_, rfl, Whole.new _ _ _⟩, (Later.refl w).alloc _⟩
  rw [h3]
  simp only [List.map_toArray, List.map_cons, List.map_nil, e0]
  kernel_rfl
/-- Texts in a row of a call's own, from base on. -/
def TextRow (e : TypeId) (base : Nat) (l : List ByteArray) : Fact := fun v w => w.ownsRow base e 1 v l.length (l.map Value.string)
theorem TextRow.later {e : TypeId} {base : Nat} {l : List ByteArray} (v : Value) (w w' : World) (h : Later w w') (k : TextRow e base l v w) : TextRow e base l v w' :=
  World.ownsRow.kept k (only_below h none) (by cases v.ownBlock <;> simp)
theorem TextRow.base {e : TypeId} {b b' : Nat} {l : List ByteArray} {v : Value} {w : World} (h : TextRow e b l v w) (hb : b' ≤ b) : TextRow e b' l v w := by
  refine ⟨h.1, ?_⟩
  rcases h.2 with h | ⟨g, cap, cur, hv, hg, r⟩
  · exact .inl h
  · exact .inr ⟨g, cap, cur, hv, Nat.le_trans hb hg, r⟩
/-- One text put behind a row of texts of the call's own. -/
theorem wl_appendS {P : Program} {ops : Array Oper} {rest : List Oper} {d : Option Tmp} {ty' t e : TypeId} {sl x : Operand} {pos : String} {after : Array Edge} {a : Act} {w : World} {Q : Exit → Act → World → Prop} {base g : Nat} {l : List ByteArray} {s : ByteArray} {v : Value}
    (ht : P.underlying t = some (.slice e)) (he : StrT P e) (hown : TextRow e base l v w) (hg : Whole w g e #[.string s]) (hlen : l.length ≤ 1048576) (hb : base ≤ w.heap.size) (hs : a.eval sl = v) (hx : a.eval x = .slice (some ⟨g, 0, none⟩) 1 1)
    (h : ∀ v' w', TextRow e base (l ++ [s]) v' w' → w.grownBy w' v.ownBlock → wpList P ops Q rest (a.put d v') w') :
    wpList P ops Q ({ dst := d, op := .call { callee := .builtin .append, args := #[sl, x], argTypes := #[t, t] }, type := ty', pos := pos, after := after, guard := none } :: rest) a w := by
  obtain ⟨ie, h1, h2, h3, h4⟩ := info_parts he
  refine wpList_append_own _ rfl sl x t rfl base e ie _ 1 16 ht h1 h2 h3 h4 rfl (by decide) v l.length (l.map Value.string) hs hown ⟨g, 0, none⟩ 1 1 [.string s] hx rfl ?c1 ?c2 ?c3 ?c4 hb ?_
  case c1 =>
    intro j u hj
    match j, hj with
    | 0, hj =>
      simp at hj
      subst hj
      have ha : (⟨g, 0, none⟩ : Addr).add 0 = ⟨g, 0, none⟩ := by unfold Addr.add; split <;> simp_all
      rw [ha, hg.cell 0]
      rfl
  case c2 => intro u hu; simp at hu; subst hu; rfl
  case c3 => unfold maxLen; omega
  case c4 => omega
  intro v' w3 ho3 hg3 _
  refine h v' w3 ?_ hg3
  unfold TextRow
  rw [List.length_append, List.map_append]
  exact ho3
end
end Go.Proofs.Ytknjbkbbhgjnlaa

/- Regions that draw their order, more: guarded operations. No conditions. -/
namespace Go.Proofs.Ytknjbkbbhgjnlaa
open Go.RowKit
set_option linter.unusedVariables false
set_option linter.unusedSimpArgs false
section
variable {P : Program} {ops : Array Oper} {a0 : Act} {w0 : World} {Fin : Env → Prop} {rest : List Oper} {env : Env}
theorem wanted_of {o : Oper} {a : Act} {j s : Nat} {want b : Bool} (hg : o.guard = some (j, want)) (hd : (ops[j]?).bind (·.dst) = some s) (hv : a.eval (.tmp s) = .bool b) : Region.wanted o (yielded ops a.tmps) = (b == want) := by
  have e : a.tmps[s]? = some (.bool b) := by
    have h : a.tmps.getD s undef = .bool b := hv
    rw [Array.getD_eq_getD_getElem?] at h
    cases hx : a.tmps[s]? with
    | none => rw [hx] at h; cases h
    | some v => rw [hx] at h; exact congrArg some h
  unfold Region.wanted
  rw [hg]
  show (yielded ops a.tmps j == some want) = _
  have y : yielded ops a.tmps j = some b := by
    unfold yielded
    rw [hd]
    show (match a.tmps[s]? with | some (.bool b) => some b | _ => none) = _
    rw [e]
  rw [y]
  cases b <;> cases want <;> rfl
/-- An operation that the guard lets out. -/
theorem wpG_skip {o : Oper} (hw : ∀ a w, Later w0 w → (∀ t, (o.looksAt ops).contains t = true → Known a0 env a w t) → Region.wanted o (yielded ops a.tmps) = false)
    (hr : wpG P ops a0 w0 Fin rest ((o.dst, Is undef) :: env)) : wpG P ops a0 w0 Fin (o :: rest) env :=
  ⟨Is undef, fun _ _ _ _ h => h, fun a w hl hk => by
    unfold Gives
    rw [if_neg (by rw [hw a w hl hk]; decide)], hr⟩
/-- An operation that the guard lets in: as if it had none. -/
theorem wpG_guard {d : Option Tmp} {op : Op} {ty : TypeId} {pos : String} {after : Array Edge} {g : Option (Nat × Bool)}
    (hw : ∀ a w, Later w0 w → (∀ t, (Oper.looksAt ops { dst := d, op := op, type := ty, pos := pos, after := after, guard := g }).contains t = true → Known a0 env a w t) → Region.wanted { dst := d, op := op, type := ty, pos := pos, after := after, guard := g } (yielded ops a.tmps) = true)
    (h : wpG P ops a0 w0 Fin ({ dst := d, op := op, type := ty, pos := pos, after := after, guard := none } :: rest) env) : wpG P ops a0 w0 Fin ({ dst := d, op := op, type := ty, pos := pos, after := after, guard := g } :: rest) env := by
  obtain ⟨F, hs, ho, hr⟩ := h
  refine ⟨F, hs, fun a w hl hk => ?_, hr⟩
  have g1 := ho a w hl (fun t ht => hk t (by
    simp only [Oper.looksAt, List.append_nil] at ht ⊢
    rw [List.contains_eq_mem, decide_eq_true_eq] at ht ⊢
    exact List.mem_append_left _ ht))
  unfold Gives at g1 ⊢
  rw [if_pos (by simp [Region.wanted])] at g1
  rw [if_pos (hw a w hl hk)]
  exact g1
/-- A value of which only something is known. -/
theorem wpG_valueF {o : Oper} (F : Fact) (hs : ∀ v w w', Later w w' → F v w → F v w') (hg : o.guard = none) (h : ∀ a w, Later w0 w → (∀ t, (o.looksAt ops).contains t = true → Known a0 env a w t) → ∃ v, F v w ∧ ∀ K : Result Next → Prop, K (.ok (.value v) w) → K ((execOp a.eval o).run P w))
    (hr : wpG P ops a0 w0 Fin rest ((o.dst, F) :: env)) : wpG P ops a0 w0 Fin (o :: rest) env := by
  refine ⟨F, hs, fun a w hl hk => ?_, hr⟩
  obtain ⟨v, hv, hK⟩ := h a w hl hk
  unfold Gives
  rw [if_pos (by simp [Region.wanted, hg])]
  unfold Oper.wp
  exact hK (fun r => Oper.upon P o a _ _ r) ⟨v, rfl, hv, Later.refl w⟩
variable {d : Option Tmp} {ty' : TypeId} {x : Operand} {pos : String} {after : Array Edge}
theorem wpG_moveF (F : Fact) (hs : ∀ v w w', Later w w' → F v w → F v w') (hx : ∀ a w, Later w0 w → (∀ t, (Oper.looksAt ops { dst := d, op := .move x, type := ty', pos := pos, after := after, guard := none }).contains t = true → Known a0 env a w t) → F (a.eval x) w)
    (hr : wpG P ops a0 w0 Fin rest ((d, F) :: env)) : wpG P ops a0 w0 Fin ({ dst := d, op := .move x, type := ty', pos := pos, after := after, guard := none } :: rest) env :=
  wpG_valueF F hs rfl (fun a w hl hk => ⟨_, hx a w hl hk, fun K hK => by simpa [execOp] using hK⟩) hr
theorem wpG_assignF (F : Fact) (hs : ∀ v w w', Later w w' → F v w → F v w') (hx : ∀ a w, Later w0 w → (∀ t, (Oper.looksAt ops { dst := d, op := .assign x, type := ty', pos := pos, after := after, guard := none }).contains t = true → Known a0 env a w t) → F (a.eval x) w)
    (hr : wpG P ops a0 w0 Fin rest ((d, F) :: env)) : wpG P ops a0 w0 Fin ({ dst := d, op := .assign x, type := ty', pos := pos, after := after, guard := none } :: rest) env :=
  wpG_valueF F hs rfl (fun a w hl hk => ⟨_, hx a w hl hk, fun K hK => by simpa [execOp] using hK⟩) hr
/-- A part of a call's results. -/
theorem wpG_extractF {i : Nat} (F : Fact) (hs : ∀ v w w', Later w w' → F v w → F v w') (hx : ∀ a w, Later w0 w → (∀ t, (Oper.looksAt ops { dst := d, op := .extract x i, type := ty', pos := pos, after := after, guard := none }).contains t = true → Known a0 env a w t) → ∃ vs v, a.eval x = .tuple vs ∧ vs[i]? = some v ∧ F v w)
    (hr : wpG P ops a0 w0 Fin rest ((d, F) :: env)) : wpG P ops a0 w0 Fin ({ dst := d, op := .extract x i, type := ty', pos := pos, after := after, guard := none } :: rest) env :=
  wpG_valueF F hs rfl (fun a w hl hk => by
    obtain ⟨vs, v, h1, h2, h3⟩ := hx a w hl hk
    exact ⟨v, h3, fun K hK => by simpa [execOp, Instr.extract, h1, h2] using hK⟩) hr
/-- Of two results: a row of texts of the call's own, and a number. -/
def RowAndF (e : TypeId) (base : Nat) (q : List ByteArray) (u : Value) : Fact := fun x W => ∃ v, x = .tuple #[v, u] ∧ TextRow e base q v W
theorem RowAndF.later {e : TypeId} {base : Nat} {q : List ByteArray} {u : Value} (x : Value) (W W' : World) (h : Later W W') (hh : RowAndF e base q u x W) : RowAndF e base q u x W' := by
  obtain ⟨v, h1, h2⟩ := hh
  exact ⟨v, h1, TextRow.later _ _ _ h h2⟩
theorem RowAndF.fst {e : TypeId} {base : Nat} {q : List ByteArray} {u x : Value} {W : World} (hh : RowAndF e base q u x W) : ∃ vs v, x = .tuple vs ∧ vs[0]? = some v ∧ TextRow e base q v W := by
  obtain ⟨v, h1, h2⟩ := hh
  exact ⟨_, v, h1, rfl, h2⟩
theorem RowAndF.snd {e : TypeId} {base : Nat} {q : List ByteArray} {u x : Value} {W : World} (hh : RowAndF e base q u x W) : ∃ vs v, x = .tuple vs ∧ vs[1]? = some v ∧ Is u v W := by
  obtain ⟨v, h1, h2⟩ := hh
  exact ⟨_, u, h1, rfl, rfl⟩
end
end Go.Proofs.Ytknjbkbbhgjnlaa

/- A region that draws its order, walked once, over whatever relation of worlds. No conditions. -/
namespace Go.Proofs.Ytknjbkbbhgjnlaa
open Go.RowKit
set_option linter.unusedVariables false
set_option linter.unusedSimpArgs false
/-- A relation of worlds that goes on. -/
structure Rel (R : World → World → Prop) : Prop where
  refl : ∀ w, R w w
  trans : ∀ {a b c}, R a b → R b c → R a c
  drew' : ∀ w : World, R w { w with drawn := w.drawn + 1 }
theorem Rel.below (B : Nat) : Rel (Below B) := ⟨fun w => Below.refl B w, fun h k => Below.trans h k, fun w => (Below.refl B w).drew⟩
section
variable {P : Program} {ops : Array Oper} {R : World → World → Prop}
/-- An operation gives a value of which so much is known, and makes memory at most. -/
def GivesR (P : Program) (ops : Array Oper) (R : World → World → Prop) (o : Oper) (a : Act) (w : World) (F : Fact) : Prop :=
  if Region.wanted o (yielded ops a.tmps) then o.wp P a w (fun a' w' => ∃ v, a' = a.put o.dst v ∧ F v w' ∧ R w w') (fun _ _ _ => False) else F undef w
def wpR (P : Program) (ops : Array Oper) (R : World → World → Prop) (a0 : Act) (w0 : World) (Fin : Env → Prop) : List Oper → Env → Prop
  | [], env => Fin env
  | o :: rest, env => ∃ F : Fact, (∀ v w w', R w w' → F v w → F v w') ∧
      (∀ a w, R w0 w → (∀ t, (o.looksAt ops).contains t = true → Known a0 env a w t) → GivesR P ops R o a w F) ∧ wpR P ops R a0 w0 Fin rest ((o.dst, F) :: env)
theorem wpR_spec {a0 : Act} {w0 : World} {Fin : Env → Prop} : ∀ (l : List Oper) (env : Env), wpR P ops R a0 w0 Fin l env → ∃ E : Env, E.length = l.length ∧ Fin (E.reverse ++ env) ∧ ∀ i o, l[i]? = some o → ∃ F : Fact, E[i]? = some (o.dst, F) ∧ (∀ v w w', R w w' → F v w → F v w') ∧
      ∀ a w, R w0 w → (∀ t, (o.looksAt ops).contains t = true → Known a0 ((E.take i).reverse ++ env) a w t) → GivesR P ops R o a w F
  | [], env, h => ⟨[], rfl, by have h' : Fin env := h; simpa using h', fun i o h => by simp at h⟩
  | o :: rest, env, ⟨F, hs, ho, hr⟩ => by
    obtain ⟨E, hl, hf, hE⟩ := wpR_spec rest ((o.dst, F) :: env) hr
    refine ⟨(o.dst, F) :: E, by simp [hl], by simpa using hf, fun i o' hi => ?_⟩
    cases i with
    | zero =>
      simp at hi
      subst hi
      exact ⟨F, rfl, hs, by simpa using ho⟩
    | succ i =>
      obtain ⟨F', h1, h2, h3⟩ := hE i o' (by simpa using hi)
      exact ⟨F', by simpa using h1, h2, by simpa using h3⟩
structure GInvR (R : World → World → Prop) (ops : Array Oper) (E : Env) (n : Nat) (a0 : Act) (w0 : World) (listed : Array Bool) (a : Act) (w : World) : Prop where
  later : R w0 w
  size : a.tmps.size = a0.tmps.size
  defers : a.defers = a0.defers
  old : ∀ t, (∀ i o, i < n → ops[i]? = some o → listed.getD i false = true → o.dst ≠ some t) → a.eval (.tmp t) = a0.eval (.tmp t)
  new : ∀ i o F, i < n → ops[i]? = some o → E[i]? = some (o.dst, F) → listed.getD i false = true → ∃ v, F v w ∧ ∀ d, o.dst = some d → a.eval (.tmp d) = v
theorem GInvR.step {E : Env} (hR : Rel R) {n sz i : Nat} {o : Oper} {a0 a : Act} {w0 w : World} {listed : Array Bool} (hok : GOk ops n sz) (hsz : a0.tmps.size = sz)
    (hE : ∀ j oj, ops[j]? = some oj → j < n → ∃ F : Fact, E[j]? = some (oj.dst, F) ∧ (∀ v w w', R w w' → F v w → F v w') ∧
      ∀ a w, R w0 w → (∀ t, (oj.looksAt ops).contains t = true → Known a0 (E.take j).reverse a w t) → GivesR P ops R oj a w F)
    (hH : HeadInv .any ops n listed) (hi : GInvR R ops E n a0 w0 listed a w) (hr : i ∈ Region.ready .any ops listed) (hin : i < n) (ho : ops[i]? = some o)
    {K : Act → World → Prop} {Q : Exit → Act → World → Prop} (hK : ∀ a' w', GInvR R ops E n a0 w0 (listed.setIfInBounds i true) a' w' → K a' w') : wpOp P ops Q i K a w := by
  obtain ⟨F, hF, hst, hob⟩ := hE i o ho hin
  have hun := (mem_ready.1 hr).1
  have hils : i < listed.size := by rw [hH.size]; exact Nat.lt_of_lt_of_le hin hok.le
  have hlist : ∀ j, listed.getD j false = true → j ≠ i := fun j hj e => by
    subst e
    rw [getD_both hun] at hj
    cases hj
  -- what is known
  have hkn : ∀ t, (o.looksAt ops).contains t = true → Known a0 (E.take i).reverse a w t := by
    intro t ht
    rcases known_find hok (fun j oj hj hoj => (hE j oj hoj hj).imp fun _ h => h.1) hin ho t with ⟨h1, h2⟩ | ⟨j, oj, G, hj, hoj, hd, hG, hf⟩
    · unfold Known
      rw [h1]
      refine hi.old t fun j oj hj hoj hl hd => ?_
      have hji := hlist j hl
      rcases hok.flow i j o oj t hin hj (Ne.symm hji) ho hoj hd ht with h | h
      · exact h2 j oj h.1 hoj hd
      · obtain ⟨oj', hoj', e, he, hb, hon⟩ := Region.waitsFor_spec h.2
        rw [hoj] at hoj'
        obtain rfl := Option.some.inj hoj'
        have := hH.closed j oj hoj hl e he hb
        rw [hon, getD_both hun] at this
        cases this
    · unfold Known
      rw [hf]
      have hw : listed.getD j false = true := by
        rcases hok.flow i j o oj t hin (by omega) (by omega) ho hoj hd ht with h | h
        · obtain ⟨o', ho', e, he, hb, hon⟩ := Region.waitsFor_spec h.2
          rw [ho] at ho'
          obtain rfl := Option.some.inj ho'
          obtain ⟨_, o'', ho'', hall⟩ := mem_ready.1 hr
          rw [ho] at ho''
          obtain rfl := Option.some.inj ho''
          rw [← hon]
          exact hall e he hb
        · omega
      obtain ⟨v, hv, hev⟩ := hi.new j oj G (by omega) hoj hG hw
      show G (a.eval (.tmp t)) w
      rw [hev t hd]
      exact hv
  have hg := hob a w hi.later hkn
  -- behind it
  have hnext : ∀ v w', F v w' → R w w' → GInvR R ops E n a0 w0 (listed.setIfInBounds i true) (a.put o.dst v) w' := by
    intro v w' hv hl
    refine ⟨hR.trans hi.later hl, by rw [put_size]; exact hi.size, by rw [put_def]; exact hi.defers, fun t ht => ?_, fun j oj G hj hoj hG hlj => ?_⟩
    · rw [eval_put_ne _ _ _ _ (ht i o hin ho (by simp [hils]))]
      exact hi.old t fun j oj hj hoj hlj => ht j oj hj hoj (getD_set_true hlj)
    · by_cases hji : j = i
      · subst hji
        rw [ho] at hoj
        obtain rfl := Option.some.inj hoj
        rw [hF] at hG
        injection hG with hG
        injection hG with _ hG
        subst hG
        refine ⟨v, hv, fun d hd => ?_⟩
        rw [hd]
        exact eval_put_eq a d v (by rw [hi.size, hsz]; exact (hok.fit j o d hin ho hd).1)
      · rw [getD_set_ne false (Ne.symm hji)] at hlj
        obtain ⟨u, hu, hev⟩ := hi.new j oj G hj hoj hG hlj
        obtain ⟨G', hG', hst', _⟩ := hE j oj hoj hj
        rw [hG] at hG'
        injection hG' with hG'
        injection hG' with _ hG'
        subst hG'
        exact ⟨u, hst' _ _ _ hl hu, fun d hd => by rw [eval_put_ne _ _ _ _ (hok.own i j o oj d hin hj (Ne.symm hji) ho hoj hd)]; exact hev d hd⟩
  unfold GivesR at hg
  unfold wpOp
  simp only [ho]
  split at hg
  · rename_i hw
    rw [if_pos hw]
    exact .inl (wp_monoQ (fun a' w' h => by
      obtain ⟨v, rfl, hv, hl⟩ := h
      exact hK _ _ (hnext v w' hv hl)) hg)
  · rename_i hw
    rw [if_neg hw]
    exact hK _ _ (hnext undef w hg (hR.refl w))
theorem wpAny_growR (hR : Rel R) {E : Env} {n sz : Nat} {a0 : Act} {w0 : World} {Q : Exit → Act → World → Prop} (hok : GOk ops n sz) (hsz : a0.tmps.size = sz)
    (hE : ∀ j oj, ops[j]? = some oj → j < n → ∃ F : Fact, E[j]? = some (oj.dst, F) ∧ (∀ v w w', R w w' → F v w → F v w') ∧
      ∀ a w, R w0 w → (∀ t, (oj.looksAt ops).contains t = true → Known a0 (E.take j).reverse a w t) → GivesR P ops R oj a w F)
    (hend : ∀ a w, GInvR R ops E n a0 w0 (headDone n ops.size) a w → wpAny P .any ops Q (ops.size - n) (headDone n ops.size) a w) :
    ∀ (f : Nat) (listed : Array Bool) (a : Act) (w : World), cntN listed n = f → HeadInv .any ops n listed → GInvR R ops E n a0 w0 listed a w → wpAny P .any ops Q (f + (ops.size - n)) listed a w
  | 0, listed, a, w, hc, hH, hi => by
    have hz := cntN_zero n hc
    have hl : listed = headDone n ops.size := by
      have hle := hok.le
      apply Array.ext
      · simp [headDone, hH.size]; omega
      · intro i h1 h2
        by_cases hin : i < n
        · have := hz i hin
          simp [h1] at this
          simp [headDone, Array.getElem_append, hin, this]
        · have := hH.tail i (by omega) (by rw [← hH.size]; exact h1)
          simp [h1] at this
          simp [headDone, Array.getElem_append, hin, this]
    subst hl
    rw [Nat.zero_add]
    exact hend a w hi
  | f + 1, listed, a, w, hc, hH, hi => by
    rw [show f + 1 + (ops.size - n) = (f + (ops.size - n)) + 1 by omega]
    -- the least one that isn't done is ready
    obtain ⟨k, hk, hku⟩ := cntN_pos n (by rw [hc]; exact Nat.succ_pos f)
    have hmin : ∃ m, m < n ∧ listed.getD m true = false ∧ ∀ j, j < m → listed.getD j true = true := by
      have : ∀ d k, k = d → k < n → listed.getD k true = false → ∃ m, m < n ∧ listed.getD m true = false ∧ ∀ j, j < m → listed.getD j true = true := by
        intro d
        induction d using Nat.strongRecOn with
        | _ d ih =>
          intro k hkd hkn hku
          by_cases h : ∃ j, j < k ∧ listed.getD j true = false
          · obtain ⟨j, hj, hju⟩ := h
            exact ih j (by omega) j rfl (by omega) hju
          · refine ⟨k, hkn, hku, fun j hj => ?_⟩
            cases hl : listed.getD j true with
            | true => rfl
            | false => exact absurd ⟨j, hj, hl⟩ h
      exact this k k rfl hk hku
    obtain ⟨m, hm, hmu, hml⟩ := hmin
    have hmlt : m < ops.size := Nat.lt_of_lt_of_le hm hok.le
    have hom : ops[m]? = some ops[m] := Array.getElem?_eq_getElem hmlt
    have hmr : m ∈ Region.ready .any ops listed := by
      refine mem_ready.2 ⟨hmu, _, hom, fun e he hb => ?_⟩
      have hlt := hok.back m _ hm hom e he hb
      have := hml e.on hlt
      have hs : e.on < listed.size := by rw [hH.size]; omega
      simp [hs] at this ⊢
      exact this
    refine ⟨fun h0 => (by rw [h0] at hmr; cases hmr), fun i hir => ?_⟩
    have hin : i < n := by
      rcases hok.tail with ht | ⟨hs, hc'⟩
      · obtain ⟨_, o, ho, _⟩ := mem_ready.1 hir
        rw [ht]
        exact (Array.getElem?_eq_some_iff.1 ho).1
      · rcases Nat.lt_or_ge i n with h | h
        · exact h
        · by_cases hns : n < ops.size
          · exact absurd hir (tail_waits hs hc' hns hH _ m rfl hm hmu i h)
          · obtain ⟨_, o, ho, _⟩ := mem_ready.1 hir
            have := (Array.getElem?_eq_some_iff.1 ho).1
            omega
    obtain ⟨hiu, o, ho, _⟩ := mem_ready.1 hir
    have hils : i < listed.size := by rw [hH.size]; exact (Array.getElem?_eq_some_iff.1 ho).1
    refine GInvR.step hR hok hsz hE hH hi hir hin ho fun a' w' hi' => ?_
    exact wpAny_growR hR hok hsz hE hend f _ a' w' (by have := cntN_set hils hiu n hin; omega) (hH.set hir hin) hi'
/-- The end: what is known of each slot, in the order of the text. -/
theorem fin_useR {E : Env} {n sz : Nat} {a0 a : Act} {w0 w : World} {K : Act → World → Prop} (hok : GOk ops n sz) (hsz : a0.tmps.size = sz) (hl : E.length = n) (hE : ∀ j oj, ops[j]? = some oj → j < n → ∃ F : Fact, E[j]? = some (oj.dst, F))
    (hi : GInvR R ops E n a0 w0 (headDone n ops.size) a w) (h : fin K E a0 w) : K a w := by
  have hdone : ∀ i, i < n → (headDone n ops.size).getD i false = true := fun i h => by
    have := hok.le
    simp [headDone, Array.getElem?_append, h]
  -- step by step: behind the first k
  have main : ∀ (m k : Nat) (b : Act), m + k = n → b.tmps.size = a0.tmps.size → b.defers = a0.defers →
      (∀ t, (∀ i o, i < k → ops[i]? = some o → o.dst ≠ some t) → b.eval (.tmp t) = a0.eval (.tmp t)) → (∀ i o d, i < k → ops[i]? = some o → o.dst = some d → b.eval (.tmp d) = a.eval (.tmp d)) → fin K (E.drop k) b w → K a w := by
    intro m
    induction m with
    | zero =>
      intro k b hk h1 h2 h3 h4 hf
      have hkn : k = n := by omega
      subst hkn
      rw [List.drop_of_length_le (by omega)] at hf
      have hab : a = b := by
        have ht : a.tmps = b.tmps := by
          apply Array.ext
          · rw [hi.size, h1]
          · intro t ht1 ht2
            have : a.eval (.tmp t) = b.eval (.tmp t) := by
              by_cases hx : ∃ i o, i < k ∧ ops[i]? = some o ∧ o.dst = some t
              · obtain ⟨i, o, hik, ho, hd⟩ := hx
                exact (h4 i o t hik ho hd).symm
              · rw [h3 t fun i o hik ho hd => hx ⟨i, o, hik, ho, hd⟩]
                exact hi.old t fun i o hik ho _ hd => hx ⟨i, o, hik, ho, hd⟩
            simpa [Act.eval, ht1, ht2] using this
        have hd : a.defers = b.defers := by rw [hi.defers, h2]
        cases a; cases b
        simp only at ht hd
        subst ht hd
        rfl
      rw [hab]
      exact hf
    | succ m ih =>
      intro k b hk h1 h2 h3 h4 hf
      have hkn : k < n := by omega
      have hlt : k < ops.size := Nat.lt_of_lt_of_le hkn hok.le
      have ho : ops[k]? = some ops[k] := Array.getElem?_eq_getElem hlt
      obtain ⟨F, hF⟩ := hE k _ ho hkn
      obtain ⟨v, hv, hev⟩ := hi.new k _ F hkn ho hF (hdone k hkn)
      have hdrop : E.drop k = (ops[k].dst, F) :: E.drop (k + 1) := by
        have hkl : k < E.length := by omega
        rw [List.drop_eq_getElem_cons hkl]
        rw [List.getElem?_eq_getElem hkl] at hF
        rw [Option.some.inj hF]
      rw [hdrop] at hf
      refine ih (k + 1) (b.put ops[k].dst v) (by omega) (by rw [put_size, h1]) (by rw [put_def, h2]) (fun t ht => ?_) (fun i o d hik hio hd => ?_) (hf v hv)
      · rw [eval_put_ne _ _ _ _ (ht k _ (Nat.lt_succ_self k) ho)]
        exact h3 t fun i o hik hio => ht i o (by omega) hio
      · by_cases hieq : i = k
        · subst hieq
          rw [ho] at hio
          obtain rfl := Option.some.inj hio
          rw [hev d hd, hd]
          exact eval_put_eq b d v (by rw [h1, hsz]; exact (hok.fit i _ d hkn ho hd).1)
        · rw [eval_put_ne _ _ _ _ (hok.own k i _ o d hkn (by omega) (Ne.symm hieq) ho hio hd)]
          exact h4 i o d (by omega) hio hd
  exact main n 0 a0 (by omega) rfl rfl (fun t _ => rfl) (fun i o d hik => absurd hik (Nat.not_lt_zero _)) (by simpa using h)
/-- A region that draws its order: its first n operations only read or make memory, the rest comes one by one. -/
theorem wp_region_growR (hR : Rel R) {id : Nat} {Q : Exit → Act → World → Prop} {a : Act} {w : World} {l : List Oper} (n sz : Nat) (hm : P.follows .mixedOrders = true) (hB : growB l.toArray n sz = true) (hsz : a.tmps.size = sz)
    (h : ∀ w0 : World, R w w0 → wpR P l.toArray R a w0 (fun env => ∀ w', R w0 w' → fin (fun a' w' => wpList P l.toArray Q (l.drop n) a' w') env.reverse a w') (l.take n) []) : (Code.region id l.toArray true).wp P Q a w := by
  have hok := GOk.of hB
  have hle : n ≤ l.length := by simpa using hok.le
  obtain ⟨E, hEl, hF, hE⟩ := wpR_spec _ _ (h { w with drawn := w.drawn + 1 } (hR.drew' _))
  simp only [List.append_nil, List.reverse_reverse] at hF hE
  have hEn : E.length = n := by rw [hEl, List.length_take]; omega
  have hE' : ∀ j oj, l.toArray[j]? = some oj → j < n → ∃ F : Fact, E[j]? = some (oj.dst, F) ∧ (∀ v w w', R w w' → F v w → F v w') ∧
      ∀ a1 w1, R { w with drawn := w.drawn + 1 } w1 → (∀ t, (oj.looksAt l.toArray).contains t = true → Known a (E.take j).reverse a1 w1 t) → GivesR P l.toArray R oj a1 w1 F := fun j oj hoj hj => by
    have : (l.take n)[j]? = some oj := by rw [List.getElem?_take, if_pos hj]; simpa using hoj
    exact hE j oj this
  have inv0 : HeadInv .any l.toArray n (Array.replicate l.toArray.size false) :=
    ⟨by simp, fun j oj _ hl => (by rw [getD_replicate_false] at hl; cases hl), fun t _ ht => getD_in (by simpa using ht) (getD_replicate_false _ _)⟩
  have hcnt : ∀ k, k ≤ l.toArray.size → cntN (Array.replicate l.toArray.size false) k = k := by
    intro k
    induction k with
    | zero => intro _; rfl
    | succ k ih =>
      intro hk
      simp only [cntN]
      rw [ih (by omega), if_pos (getD_in (by simp at hk ⊢; omega) (getD_replicate_false _ _))]
  refine wp_region_any hm ?_
  have := wpAny_growR (Q := Q) hR hok hsz hE' (fun a' w' hi => ?_) n _ a { w with drawn := w.drawn + 1 } (hcnt n hok.le) inv0
    ⟨hR.refl _, rfl, rfl, fun t _ => rfl, fun i o F _ _ _ hl => (by rw [getD_replicate_false] at hl; cases hl)⟩
  · rw [show n + (l.toArray.size - n) = l.toArray.size by have := hok.le; omega] at this
    exact this
  · have hk := fin_useR hok hsz hEn (fun j oj hoj hj => (hE' j oj hoj hj).imp fun _ h => h.1) hi (hF w' hi.later)
    have hdl : (l.drop n).length = l.toArray.size - n := by simp
    have := wpAny_of_seq (md := .any) (Q' := Q) (l.drop n) n (headDone n l.toArray.size) a' w' (fun j => by simp [List.getElem?_drop]) (by rw [hdl]; exact hok.seq) hk
    rwa [hdl] at this
/-! ### Laws for the single operations -/
variable {a0 : Act} {w0 : World} {Fin : Env → Prop} {rest : List Oper} {env : Env} {d : Option Tmp} {ty ty' : TypeId} {x : Operand} {pos : String} {after : Array Edge}
theorem wpR_nil (h : Fin env) : wpR P ops R a0 w0 Fin [] env := h
theorem givesR_of {o : Oper} {a : Act} {w : World} {F : Fact} (hg : o.guard = none) (h : o.wp P a w (fun a' w' => ∃ v, a' = a.put o.dst v ∧ F v w' ∧ R w w') (fun _ _ _ => False)) : GivesR P ops R o a w F := by
  unfold GivesR
  rw [if_pos (by simp [Region.wanted, hg])]
  exact h
theorem wpR_value (hR : Rel R) {o : Oper} (v : Value) (hg : o.guard = none) (h : ∀ a w, R w0 w → (∀ t, (o.looksAt ops).contains t = true → Known a0 env a w t) → ∀ K : Result Next → Prop, K (.ok (.value v) w) → K ((execOp a.eval o).run P w))
    (hr : wpR P ops R a0 w0 Fin rest ((o.dst, Is v) :: env)) : wpR P ops R a0 w0 Fin (o :: rest) env := by
  refine ⟨Is v, fun _ _ _ _ h => h, fun a w hl hk => ?_, hr⟩
  unfold GivesR
  rw [if_pos (by simp [Region.wanted, hg])]
  unfold Oper.wp
  exact h a w hl hk (fun r => Oper.upon P o a _ _ r) ⟨v, rfl, rfl, hR.refl w⟩
theorem wpR_value' (hR : Rel R) {o : Oper} {v : Value} (hg : o.guard = none) (h : ∀ a w, R w0 w → (∀ t, (o.looksAt ops).contains t = true → Known a0 env a w t) → ∀ K : Result Next → Prop, K (.ok (.value v) w) → K ((execOp a.eval o).run P w))
    (hr : wpR P ops R a0 w0 Fin rest ((o.dst, Is v) :: env)) : wpR P ops R a0 w0 Fin (o :: rest) env := wpR_value hR v hg h hr
theorem wpR_move (hR : Rel R) {v : Value} (hx : ∀ a w, (∀ t, (Oper.looksAt ops { dst := d, op := .move x, type := ty', pos := pos, after := after, guard := none }).contains t = true → Known a0 env a w t) → a.eval x = v)
    (hr : wpR P ops R a0 w0 Fin rest ((d, Is v) :: env)) : wpR P ops R a0 w0 Fin ({ dst := d, op := .move x, type := ty', pos := pos, after := after, guard := none } :: rest) env :=
  wpR_value hR v rfl (fun a w hl hk K hK => by rw [← hx a w hk] at hK; simpa [execOp] using hK) hr
theorem wpR_assign (hR : Rel R) {v : Value} (hx : ∀ a w, (∀ t, (Oper.looksAt ops { dst := d, op := .assign x, type := ty', pos := pos, after := after, guard := none }).contains t = true → Known a0 env a w t) → a.eval x = v)
    (hr : wpR P ops R a0 w0 Fin rest ((d, Is v) :: env)) : wpR P ops R a0 w0 Fin ({ dst := d, op := .assign x, type := ty', pos := pos, after := after, guard := none } :: rest) env :=
  wpR_value hR v rfl (fun a w hl hk K hK => by rw [← hx a w hk] at hK; simpa [execOp] using hK) hr
/-- A cell, or a whole block, read: it is there in each world of the region. -/
theorem wpR_load1 (hR : Rel R) {p : Addr} {v : Value} {u : TypeDesc} (hc : ∀ w, R w0 w → w.cell? p = some v) (hu : P.underlying ty = some u) (hd : (match u with | .struct _ | .array _ _ => true | _ => false) = false)
    (hx : ∀ a w, (∀ t, (Oper.looksAt ops { dst := d, op := .load ty x, type := ty', pos := pos, after := after, guard := none }).contains t = true → Known a0 env a w t) → a.eval x = .pointer (some p))
    (hr : wpR P ops R a0 w0 Fin rest ((d, Is v) :: env)) : wpR P ops R a0 w0 Fin ({ dst := d, op := .load ty x, type := ty', pos := pos, after := after, guard := none } :: rest) env :=
  ⟨Is v, fun _ _ _ _ h => h, fun a w hl hk => givesR_of rfl (wp_load1 (hc w hl) hu (hx a w hk) hd ⟨v, rfl, rfl, hR.refl w⟩), hr⟩
theorem wpR_loadW (hR : Rel R) {g : Nat} {t : TypeId} {cs : Array Value} {u : TypeDesc} (hw : ∀ w, R w0 w → Whole w g t cs) (hu : P.underlying ty = some u) (hd : (match u with | .struct _ | .array _ _ => true | _ => false) = true) (hi : (P.info? ty).map (·.size) = some cs.size)
    (hx : ∀ a w, (∀ t, (Oper.looksAt ops { dst := d, op := .load ty x, type := ty', pos := pos, after := after, guard := none }).contains t = true → Known a0 env a w t) → a.eval x = .pointer (some ⟨g, 0, none⟩))
    (hr : wpR P ops R a0 w0 Fin rest ((d, Is (.agg cs)) :: env)) : wpR P ops R a0 w0 Fin ({ dst := d, op := .load ty x, type := ty', pos := pos, after := after, guard := none } :: rest) env :=
  ⟨Is (.agg cs), fun _ _ _ _ h => h, fun a w hl hk => givesR_of rfl (wp_loadW (hw w hl) hu (hx a w hk) hd hi ⟨_, rfl, rfl, hR.refl w⟩), hr⟩
theorem wpR_call (hR : Rel R) {ts : Array TypeId} {f : FuncId} {xs : Array Operand} (vs : Array Value) (v : Value) {fn : Func} (hfn : P.funcs[f]? = some fn) (hname : (fn.name == "runtime.NumGoroutine") = false) (hbody : fn.body.isNone = false)
    (hc : ∀ w, R w0 w → Calls P f vs w (fun e w' => e = .returned v ∧ R w w'))
    (hx : ∀ a w, (∀ t, (Oper.looksAt ops { dst := d, op := .call { callee := .value (.func f), args := xs, argTypes := ts }, type := ty', pos := pos, after := after, guard := none }).contains t = true → Known a0 env a w t) → xs.map a.eval = vs)
    (hr : wpR P ops R a0 w0 Fin rest ((d, Is v) :: env)) : wpR P ops R a0 w0 Fin ({ dst := d, op := .call { callee := .value (.func f), args := xs, argTypes := ts }, type := ty', pos := pos, after := after, guard := none } :: rest) env :=
  ⟨Is v, fun _ _ _ _ h => h, fun a w hl hk => givesR_of rfl (wp_callf hfn hname hbody (hx a w hk) (hc w hl) (fun e w' he => ⟨v, he.1, ⟨v, rfl, rfl, he.2⟩⟩)), hr⟩
end
end Go.Proofs.Ytknjbkbbhgjnlaa

/- Drawn regions by hand: a frame under a name, other spellings, the rest one by one. No conditions. -/
namespace Go.Proofs.Ytknjbkbbhgjnlaa
open Go.RowKit
set_option linter.unusedVariables false
theorem anyCast {P : Program} {md : Region.Mode} {ops : Array Oper} {Q : Exit → Act → World → Prop} {fuel fuel' : Nat} {listed listed' : Array Bool} {a : Act} {w : World} (hf : fuel' = fuel) (hl : listed' = listed) (h : wpAny P md ops Q fuel listed a w) : wpAny P md ops Q fuel' listed' a w := by
  rw [hf, hl]
  exact h
theorem anyGen {P : Program} {md : Region.Mode} {ops : Array Oper} {Q : Exit → Act → World → Prop} {fuel : Nat} {listed : Array Bool} {a : Act} {w : World} (h : ∀ a1, a1 = a → wpAny P md ops Q fuel listed a1 w) : wpAny P md ops Q fuel listed a w := h a rfl
theorem anySeq {P : Program} {l : List Oper} {Q : Exit → Act → World → Prop} {a : Act} {w : World} (n : Nat) (hB : Region.seqB .any l.toArray (l.length - n) n (headDone n l.length) = true) (h : wpList P l.toArray Q (l.drop n) a w) : wpAny P .any l.toArray Q (l.length - n) (headDone n l.length) a w := by
  have hdl : (l.drop n).length = l.length - n := by simp
  have := wpAny_of_seq (md := .any) (Q' := Q) (l.drop n) n (headDone n l.length) a w (fun j => by simp [List.getElem?_drop]) (by rw [hdl]; exact hB) h
  rwa [hdl] at this
end Go.Proofs.Ytknjbkbbhgjnlaa
