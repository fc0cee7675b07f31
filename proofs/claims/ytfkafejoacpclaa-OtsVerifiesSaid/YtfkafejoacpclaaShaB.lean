/- A buffer of bytes that a call owns: []byte(s) and what is appended. Condition: at most 2^41 bytes. -/
import Derived.Test.YtfkafejoacpclaaShaSpec
import Derived.Test.YtfkafejoacpclaaSteps
import Derived.Laws.IdiomStrings
import Derived.Maps.AppendAt
import Derived.ArgAppend
import Derived.StillTactics
namespace Go.Proofs.Ytfkafejoacpclaa
open Go.RowKit
set_option linter.unusedVariables false
set_option linter.unusedSimpArgs false
def bt (l : List Nat) : List Value := l.map fun (n : Nat) => Value.int .u8 (n : Int)
/-- A slice of bytes in a block of the call's own, of which no cell in use is frozen. -/
def OwnB (e : TypeId) (W : World) (base : Nat) (v : Value) (bs : List Nat) : Prop :=
  ∃ (g cap : Nat) (cur : Array Value) (fr : Nat × Nat), v = .slice (some ⟨g, 0, none⟩) bs.length cap ∧ base ≤ g ∧ W.heap[g]? = some (.cells cur e fr) ∧ (fr = (0, 0) ∨ cap ≤ fr.1) ∧ bs.length ≤ cap ∧ cur.size = cap ∧ ∀ (j : Nat) (u : Value), (bt bs)[j]? = some u → cur[j]? = some u
theorem OwnB.lt {e : TypeId} {W : World} {base : Nat} {v : Value} {bs : List Nat} (h : OwnB e W base v bs) : ∀ k, v.ownBlock = some k → base ≤ k ∧ k < W.heap.size := by
  obtain ⟨g, cap, cur, fr, rfl, hb, hg, _⟩ := h
  intro k hk
  simp [Value.ownBlock] at hk
  subst hk
  exact ⟨hb, (Array.getElem?_eq_some_iff.1 hg).1⟩
theorem OwnB.kept {e : TypeId} {W W' : World} {base : Nat} {v : Value} {bs : List Nat} {row : Option Nat} (h : OwnB e W base v bs) (hg : W.grownBy W' row) (hne : v.ownBlock ≠ row) : OwnB e W' base v bs := by
  obtain ⟨g, cap, cur, fr, rfl, hb, hgg, rest⟩ := h
  exact ⟨g, cap, cur, fr, rfl, hb, (hg.block g (Array.getElem?_eq_some_iff.1 hgg).1 hne).trans hgg, rest⟩
theorem OwnB.alloc {e : TypeId} {W : World} {base : Nat} {v : Value} {bs : List Nat} (h : OwnB e W base v bs) (o : Obj) : OwnB e (W.alloc o) base v bs := by
  obtain ⟨g, cap, cur, fr, rfl, hb, hgg, rest⟩ := h
  exact ⟨g, cap, cur, fr, rfl, hb, (Below.heap_alloc W o g (Array.getElem?_eq_some_iff.1 hgg).1).trans hgg, rest⟩
theorem OwnB.below {e : TypeId} {W W' : World} {base : Nat} {v : Value} {bs : List Nat} (h : OwnB e W base v bs) (hb : Below W.heap.size W W') : OwnB e W' base v bs := by
  obtain ⟨g, cap, cur, fr, rfl, hbb, hgg, rest⟩ := h
  exact ⟨g, cap, cur, fr, rfl, hbb, (hb.block g (Array.getElem?_eq_some_iff.1 hgg).1).trans hgg, rest⟩
theorem OwnB.cells {e : TypeId} {W : World} {base g n cap : Nat} {bs : List Nat} (h : OwnB e W base (.slice (some ⟨g, 0, none⟩) n cap) bs) : (∀ j, j < bs.length → W.cell? ⟨g, j, none⟩ = some (.int .u8 ((bs.getD j 0 : Nat) : Int))) ∧ n = bs.length ∧ n ≤ cap ∧ base ≤ g ∧ g < W.heap.size := by
  obtain ⟨g', cap', cur, fr, hv, hb, hgg, _, hl, _, hc⟩ := h
  simp only [Value.slice.injEq, Option.some.injEq, Addr.mk.injEq] at hv
  obtain ⟨⟨rfl, _, _⟩, rfl, rfl⟩ := hv
  refine ⟨fun j hj => ?_, rfl, hl, hb, (Array.getElem?_eq_some_iff.1 hgg).1⟩
  rw [cell_of_row W g j cur e fr hgg]
  exact hc j _ (by simp [bt, hj])
/-- What []byte(s) lays. -/
theorem OwnB.ofString (w : World) (s : ByteArray) (e : TypeId) :
    OwnB e (w.drew.alloc (.cells (bytesRow s (grownCap w s.size 0 e)) e ((bytesRow s (grownCap w s.size 0 e)).size, (bytesRow s (grownCap w s.size 0 e)).size + 1))) w.heap.size (.slice (some ⟨w.heap.size, 0, none⟩) s.size (grownCap w s.size 0 e)) (s.data.toList.map (·.toNat)) := by
  have hc := grownCap_ge w s.size 0 e
  have hsz : (bytesRow s (grownCap w s.size 0 e)).size = grownCap w s.size 0 e := by
    simp [bytesRow]
    have : s.data.size = s.size := rfl
    omega
  refine ⟨w.heap.size, _, _, _, by simp, Nat.le_refl _, heap_alloc_new w.drew _, .inr (by rw [hsz]; exact Nat.le_refl _), by simp; exact hc, hsz, fun j u hu => ?_⟩
  simp only [bt, List.map_map] at hu
  have hj : j < s.data.toList.length := by
    rcases Nat.lt_or_ge j s.data.toList.length with h | h
    · exact h
    · rw [List.getElem?_eq_none (by simpa using h)] at hu; cases hu
  simp only [Array.length_toList] at hj
  simp only [bytesRow]
  rw [Array.getElem?_append_left (by simpa using hj)]
  simp [hj] at hu ⊢
  exact hu
section
variable {P : Program}
theorem run_appendB (w : World) (base : Nat) (t ty e : TypeId) (i : TypeInfo) (z : Value) (ht : P.underlying t = some (.slice e)) (hi : P.info? e = some i) (hz : i.zero = some z)
    (hsize : i.size = 1) (hby : i.bytes = 1) (hzs : z.cells.size = 1) (v : Value) (bs : List Nat) (hown : OwnB e w base v bs) (ad : Addr) (c y : Nat) (hy : w.cell? ad = some (.int .u8 (y : Int)))
    (hlen : bs.length + 1 ≤ 2199023255552) (hbase : base ≤ w.heap.size) :
    ∃ v' w', (Builtin.append_ #[t, t] ty #[v, .slice (some ad) 1 c]).run P w = .ok v' w' ∧ OwnB e w' base v' (bs ++ [y]) ∧ w.grownBy w' v.ownBlock := by
  obtain ⟨g, cap, cur, fr, rfl, hb, hg, hfr, hl, hsz, hc⟩ := hown
  have hbl : (bt bs).length = bs.length := by simp [bt]
  have hnews : ∀ j u, [Value.int .u8 (y : Int)][j]? = some u → w.cell? (ad.add j) = some u := fun j u hj => by
    match j, hj with
    | 0, hj =>
      simp at hj
      subst hj
      have : ad.add 0 = ad := by unfold Addr.add; split <;> simp_all
      rw [this]; exact hy
  by_cases hroom : bs.length + 1 ≤ cap
  · have hcell : w.cell? ⟨g, bs.length, none⟩ = some (cur[bs.length]'(by omega)) := by
      rw [cell_of_row w g _ cur e fr hg, Array.getElem?_eq_getElem (by omega)]
    have hfro : w.frozen? ⟨g, bs.length, none⟩ = false := by
      simp only [World.frozen?, hg]
      rcases hfr with rfl | h
      · simp
      · simp; omega
    have hr := run_append_room_cells (P := P) w t ty e i ht hi g 0 bs.length cap ad 1 c [Value.int .u8 (y : Int)] (by simp [hsize]) hnews (by simp; rfl) hroom (fun j hj => by
      have : j = 0 := by simp at hj; omega
      subst this
      rw [show 0 + bs.length * i.size + 0 = bs.length by rw [hsize]; omega, hcell]
      rfl) (fun j hj => by
      have : j = 0 := by simp at hj; omega
      subst this
      rw [show 0 + bs.length * i.size + 0 = bs.length by rw [hsize]; omega]
      exact hfro)
    rw [show 0 + bs.length * i.size = bs.length by rw [hsize]; omega] at hr
    refine ⟨_, _, hr, ⟨g, cap, cur.setIfInBounds bs.length (.int .u8 (y : Int)), fr, by simp, hb, ?_, hfr, by simpa using hroom, by simpa using hsz, fun j u hu => ?_⟩, ?_⟩
    · simp only [World.setCells]
      simp [World.setCell, Array.getElem?_modify, hg]
    · simp only [bt, List.map_append, List.map_cons, List.map_nil] at hu
      rw [Array.getElem?_setIfInBounds]
      by_cases hj : bs.length = j
      · subst hj
        rw [List.getElem?_append_right (by simp)] at hu
        simp at hu
        rw [if_pos rfl, if_pos (by omega), hu]
      · rw [if_neg hj]
        rcases Nat.lt_or_ge j bs.length with h | h
        · rw [List.getElem?_append_left (by simpa using h)] at hu
          exact hc j u hu
        · rw [List.getElem?_append_right (by simpa using h), List.getElem?_eq_none (by simp; omega)] at hu
          cases hu
    · simp only [World.setCells]
      exact only_put (only_same w _) (.inl rfl) _
  · have holds : ∀ j u, (bt bs)[j]? = some u → w.cell? ((⟨g, 0, none⟩ : Addr).add j) = some u := fun j u hu => by
      have hadd : (⟨g, 0, none⟩ : Addr).add j = ⟨g, j, none⟩ := by unfold Addr.add; split <;> simp_all
      rw [hadd, cell_of_row w g j cur e fr hg]
      exact hc j u hu
    have hr := run_append_grow (P := P) w t ty e i z ht hi hz ⟨g, 0, none⟩ bs.length cap (bt bs) (by rw [hbl, hsize]; omega) holds ad 1 c [Value.int .u8 (y : Int)] (by simp [hsize]) hnews (by omega) (by omega) (growslice_fits (by omega) (by rw [hby]; omega))
    have hge := grownCap_ge w (bs.length + 1) cap e
    refine ⟨_, _, hr, ⟨w.heap.size, _, _, _, by simp; rfl, hbase, heap_alloc_new w.drew _, .inl rfl, by simpa using hge, ?_, fun j u hu => ?_⟩, ⟨rfl, rfl, rfl, by simp, fun k hk _ => heap_alloc_old w.drew _ hk⟩⟩
    · simp only [Array.size_append, List.size_toArray, size_zeroCells, hzs, hbl, List.length_cons, List.length_nil]
      omega
    · rw [show bt (bs ++ [y]) = bt bs ++ [Value.int .u8 (y : Int)] by simp [bt]] at hu
      have hj : j < (bt bs ++ [Value.int .u8 (y : Int)]).length := by
        rcases Nat.lt_or_ge j (bt bs ++ [Value.int .u8 (y : Int)]).length with h | h
        · exact h
        · rw [List.getElem?_eq_none h] at hu; cases hu
      rw [Array.getElem?_append_left (by simpa using hj)]
      simpa using hu
theorem wpList_appendB (w : World) {ops : Array Oper} {rest : List Oper} {o : Oper} {a : Act} {Q : Exit → Act → World → Prop} (hgd : o.guard = none) (s x : Operand) (t : TypeId)
    (ho : o.op = .call { callee := .builtin .append, args := #[s, x], argTypes := #[t, t] }) (base : Nat) (e : TypeId) (i : TypeInfo) (z : Value) (ht : P.underlying t = some (.slice e)) (hi : P.info? e = some i) (hz : i.zero = some z)
    (hsize : i.size = 1) (hby : i.bytes = 1) (hzs : z.cells.size = 1) (v : Value) (bs : List Nat) (hs : a.eval s = v) (hown : OwnB e w base v bs) (ad : Addr) (c y : Nat) (hx : a.eval x = .slice (some ad) 1 c) (hy : w.cell? ad = some (.int .u8 (y : Int)))
    (hlen : bs.length + 1 ≤ 2199023255552) (hbase : base ≤ w.heap.size)
    (h : ∀ v' w', OwnB e w' base v' (bs ++ [y]) → w.grownBy w' v.ownBlock → wpList P ops Q rest (a.put o.dst v') w') : wpList P ops Q (o :: rest) a w := by
  refine wpList_plain hgd fun K hK => ?_
  obtain ⟨v', w', hr, h2, h3⟩ := run_appendB (P := P) w base t o.type e i z ht hi hz hsize hby hzs v bs hown ad c y hy hlen hbase
  unfold Oper.wp execOp
  simp only [ho, resolve, invoke, builtin, Sem.run_bind, Sem.run_pure, Result.andThen_ok, List.map_toArray, List.map_cons, List.map_nil, hs, hx, hr]
  exact hK _ _ (h v' w' h2 h3)
theorem wpList_bytesOf (w : World) {ops : Array Oper} {rest : List Oper} {o : Oper} {a : Act} {Q : Exit → Act → World → Prop} (hgd : o.guard = none) (src dst e : TypeId) (x : Operand) (ho : o.op = .convert src dst x) (s : ByteArray) (hx : a.eval x = .string s)
    (hs : P.underlying src = some .string) (hd : P.underlying dst = some (.slice e)) (he : P.underlying e = some (.int .u8))
    (h : ∀ v' w', OwnB e w' w.heap.size v' (s.data.toList.map (·.toNat)) → Below w.heap.size w w' → wpList P ops Q rest (a.put o.dst v') w') : wpList P ops Q (o :: rest) a w := by
  refine wpList_plain hgd fun K hK => ?_
  unfold Oper.wp execOp
  simp only [ho, hx, Sem.run_bind, run_bytes_of_string w src dst e s hs hd he, Result.andThen_ok, Sem.run_pure]
  exact hK _ _ (h _ _ (OwnB.ofString w s e) ((Below.refl _ w).drew.alloc (Nat.le_refl _) _))
/-- A whole struct read, in a region whose operations only read. -/
theorem still_loadW {ops : Array Oper} {rest : List Oper} {Q : Act → Prop} {d : Option Tmp} {ty ty' : TypeId} {x : Operand} {pos : String} {after : Array Edge} {a : Act} {w : World}
    {g : Nat} {t : TypeId} {cs : Array Value} {u : TypeDesc} (hg : Whole w g t cs) (hu : P.underlying ty = some u) (hx : a.eval x = .pointer (some ⟨g, 0, none⟩))
    (hd : (match u with | .struct _ | .array _ _ => true | _ => false) = true) (hi : (P.info? ty).map (·.size) = some cs.size)
    (h : wpStill P ops w Q rest (a.put d (.agg cs))) :
    wpStill P ops w Q ({ dst := d, op := .load ty x, type := ty', pos := pos, after := after, guard := none } :: rest) a := by
  unfold wpStill
  rw [if_pos (by simp [Region.wanted])]
  unfold Oper.still execOp
  simp only [hx, Instr.loadAt, Instr.sureAddr, Sem.run_bind, Sem.run_pure, Result.andThen_ok, run_loadVar_row w g t ty cs (0, 0) u hg hu hd hi, Oper.stillUpon_value]
  exact h
end
end Go.Proofs.Ytfkafejoacpclaa
