/- Rows of structs of the call's own: one put behind, read again. No conditions. -/
import Derived.Test.YtknjbkbbhgjnlaaKinds
import Derived.Test.YtknjbkbbhgjnlaaToolA
import Derived.Test.YtknjbkbbhgjnlaaLoadAt
import Derived.Maps.AppendAt
namespace Go.Proofs.Ytknjbkbbhgjnlaa
open Go.RowKit
set_option linter.unusedVariables false
set_option linter.unusedSimpArgs false
section
variable {α : Type}
def SRow (e : TypeId) (sz base : Nat) (f : α → List Value) (l : List α) : Fact := fun v w => w.ownsRow base e sz v l.length (l.flatMap f)
theorem SRow.nil (e : TypeId) (sz base : Nat) (f : α → List Value) (w : World) : SRow e sz base f [] (.slice none 0 0) w := World.ownsRow_nil _ _ _ _
theorem SRow.later {e : TypeId} {sz base : Nat} {f : α → List Value} {l : List α} (v : Value) (w w' : World) (h : Later w w') (k : SRow e sz base f l v w) : SRow e sz base f l v w' :=
  World.ownsRow.kept k (only_below h none) (by cases v.ownBlock <;> simp)
theorem SRow.base {e : TypeId} {sz b b' : Nat} {f : α → List Value} {l : List α} {v : Value} {w : World} (h : SRow e sz b f l v w) (hb : b' ≤ b) : SRow e sz b' f l v w := by
  refine ⟨h.1, ?_⟩
  rcases h.2 with h | ⟨g, cap, cur, hv, hg, r⟩
  · exact .inl h
  · exact .inr ⟨g, cap, cur, hv, Nat.le_trans hb hg, r⟩
theorem flat_get (f : α → List Value) (sz : Nat) (hf : ∀ x, (f x).length = sz) : ∀ (l : List α) (j i : Nat) (x : α), l[j]? = some x → i < sz → (l.flatMap f)[j * sz + i]? = (f x)[i]?
  | [], j, i, x, h, _ => by simp at h
  | y :: l, 0, i, x, h, hi => by
    simp at h
    subst h
    rw [List.flatMap_cons, List.getElem?_append_left (by rw [hf]; omega), Nat.zero_mul, Nat.zero_add]
  | y :: l, j + 1, i, x, h, hi => by
    rw [List.flatMap_cons, List.getElem?_append_right (by rw [hf, Nat.succ_mul]; omega), hf, show (j + 1) * sz + i - sz = j * sz + i by rw [Nat.succ_mul]; omega]
    exact flat_get f sz hf l j i x (by simpa using h) hi
theorem SRow.rows {e : TypeId} {sz base : Nat} {f : α → List Value} {l : List α} {v : Value} {w : World} (h : SRow e sz base f l v w) (d : Kn α) (hsz : d.sz = sz) (hf : ∀ x, (f x).length = sz) (hK : ∀ w x, d.K w x (f x)) (hl : l.length ≤ 9223372036854775807) :
    ∃ A c, v = .slice A l.length c ∧ l.length ≤ c ∧ d.Rows w A l := by
  rcases h.2 with ⟨rfl, hn⟩ | ⟨g, cap, cur, rfl, hb, hgg, hc, _⟩
  · refine ⟨none, 0, by rw [hn], by omega, hl, fun h => absurd h (by omega)⟩
  · refine ⟨some ⟨g, 0, none⟩, cap, rfl, hc, hl, fun _ => ⟨_, rfl, (Array.getElem?_eq_some_iff.1 hgg).1, fun j x hj => ⟨f x, hK w x, fun i u hu => ?_⟩⟩⟩
    refine h.cells rfl _ _ ?_
    rw [hsz, flat_get f sz hf l j i x hj (by rw [← hf x]; exact (List.getElem?_eq_some_iff.1 hu).1)]
    exact hu
theorem wl_appendR {P : Program} {ops : Array Oper} {rest : List Oper} {d : Option Tmp} {ty' t e : TypeId} {sl x : Operand} {pos : String} {after : Array Edge} {a : Act} {w : World} {Q : Exit → Act → World → Prop} {base g sz by_ : Nat} {z : Value} {f : α → List Value} {s : α} {l : List α} {v : Value}
    (ht : P.underlying t = some (.slice e)) (he : (P.info? e).map (fun i => (i.zero, i.size, i.bytes)) = some (some z, sz, by_)) (hz : z.cells.size = sz) (h0 : 0 < sz) (hby : by_ ≤ 256) (hown : SRow e sz base f l v w) (hg : Whole w g e (f s).toArray) (hfs : (f s).length = sz) (hone : ∀ u ∈ f s, u.oneCell' = true) (hlen : l.length ≤ 1048576) (hb : base ≤ w.heap.size) (hs : a.eval sl = v) (hx : a.eval x = .slice (some ⟨g, 0, none⟩) 1 1)
    (h : ∀ v' w', SRow e sz base f (l ++ [s]) v' w' → w.grownBy w' v.ownBlock → wpList P ops Q rest (a.put d v') w') :
    wpList P ops Q ({ dst := d, op := .call { callee := .builtin .append, args := #[sl, x], argTypes := #[t, t] }, type := ty', pos := pos, after := after, guard := none } :: rest) a w := by
  obtain ⟨ie, h1, h2, h3, h4⟩ := info_parts he
  refine wpList_append_own _ rfl sl x t rfl base e ie _ sz by_ ht h1 h2 h3 h4 hz h0 v l.length (l.flatMap f) hs hown ⟨g, 0, none⟩ 1 1 (f s) hx (by rw [hfs, Nat.one_mul]) ?c1 ?c2 ?c3 ?c4 hb ?_
  case c1 =>
    intro j u hj
    have ha : (⟨g, 0, none⟩ : Addr).add j = ⟨g, j, none⟩ := by unfold Addr.add; split <;> simp_all
    rw [ha, hg.cell j]
    simpa using hj
  case c2 => exact hone
  case c3 => unfold maxLen; omega
  case c4 =>
    have : (l.length + 1) * by_ ≤ 1048577 * 256 := Nat.mul_le_mul (by omega) hby
    omega
  intro v' w3 ho3 hg3 _
  refine h v' w3 ?_ hg3
  unfold SRow
  rw [List.length_append, List.flatMap_append]
  simpa using ho3
theorem wl_appendRL {P : Program} {ops : Array Oper} {rest : List Oper} {d : Option Tmp} {ty' t e : TypeId} {sl x : Operand} {pos : String} {after : Array Edge} {a : Act} {w : World} {Q : Exit → Act → World → Prop} {base g sz by_ : Nat} {z : Value} {f : α → List Value} {s : α} {l : List α} {v : Value}
    (ht : P.underlying t = some (.slice e)) (he : (P.info? e).map (fun i => (i.zero, i.size, i.bytes)) = some (some z, sz, by_)) (hz : z.cells.size = sz) (h0 : 0 < sz) (hby : by_ ≤ 256) (hown : SRow e sz base f l v w) (hg : Whole w g e (f s).toArray) (hfs : (f s).length = sz) (hone : ∀ u ∈ f s, u.oneCell' = true) (hlen : l.length ≤ 1048576) (hb : base ≤ w.heap.size) (hs : a.eval sl = v) (hx : a.eval x = .slice (some ⟨g, 0, none⟩) 1 1)
    (h : ∀ v' w', SRow e sz base f (l ++ [s]) v' w' → w.grownBy w' v.ownBlock → (v'.ownBlock = v.ownBlock ∨ v'.ownBlock = some w.heap.size) → wpList P ops Q rest (a.put d v') w') :
    wpList P ops Q ({ dst := d, op := .call { callee := .builtin .append, args := #[sl, x], argTypes := #[t, t] }, type := ty', pos := pos, after := after, guard := none } :: rest) a w := by
  obtain ⟨ie, h1, h2, h3, h4⟩ := info_parts he
  refine wpList_append_own_at _ rfl sl x t rfl base e ie _ sz by_ ht h1 h2 h3 h4 hz h0 v l.length (l.flatMap f) hs hown ⟨g, 0, none⟩ 1 1 (f s) hx (by rw [hfs, Nat.one_mul]) ?c1 ?c2 ?c3 ?c4 hb ?_
  case c1 =>
    intro j u hj
    have ha : (⟨g, 0, none⟩ : Addr).add j = ⟨g, j, none⟩ := by unfold Addr.add; split <;> simp_all
    rw [ha, hg.cell j]
    simpa using hj
  case c2 => exact hone
  case c3 => unfold maxLen; omega
  case c4 =>
    have : (l.length + 1) * by_ ≤ 1048577 * 256 := Nat.mul_le_mul (by omega) hby
    omega
  intro v' w3 ho3 hg3 _ hloc
  refine h v' w3 ?_ hg3 hloc
  unfold SRow
  rw [List.length_append, List.flatMap_append]
  simpa using ho3
def Dis (u v : Value) : Prop := ∀ g, u.ownBlock = some g → v.ownBlock ≠ some g
theorem Dis.symm {u v : Value} (h : Dis u v) : Dis v u := fun g h1 h2 => h g h2 h1
theorem Dis.nil (v : Value) : Dis (.slice none 0 0) v := fun g h => by cases h
theorem SRow.dis {e : TypeId} {sz base : Nat} {f : α → List Value} {l : List α} {u v : Value} {w w' : World} (h : SRow e sz base f l u w) (hg : w.grownBy w' v.ownBlock) (hd : Dis u v) : SRow e sz base f l u w' := by
  refine World.ownsRow.kept h hg ?_
  cases hu : u.ownBlock with
  | none => exact .inl rfl
  | some g => exact .inr (fun q => hd g hu q.symm)
theorem SRow.other {β : Type} {e e2 : TypeId} {sz base sz2 base2 : Nat} {f : α → List Value} {f2 : β → List Value} {l : List α} {l2 : List β} {u v : Value} {w w' : World} (h : SRow e sz base f l u w) (k : SRow e2 sz2 base2 f2 l2 v w) (hne : e ≠ e2) (hg : w.grownBy w' v.ownBlock) : SRow e sz base f l u w' := by
  refine h.dis hg (fun g h1 h2 => ?_)
  rcases h.2 with ⟨rfl, _⟩ | ⟨g1, c1, cur1, rfl, _, a1, _⟩
  · cases h1
  · rcases k.2 with ⟨rfl, _⟩ | ⟨g2, c2, cur2, rfl, _, a2, _⟩
    · cases h2
    · simp only [Value.ownBlock, Option.some.injEq] at h1 h2
      subst h1
      subst h2
      rw [a1] at a2
      simp only [Option.some.injEq, Obj.cells.injEq] at a2
      exact hne a2.2.1
theorem Dis.grown {e : TypeId} {sz base : Nat} {f : α → List Value} {l : List α} {u v v' : Value} {w W : World} (hd : Dis u v) (h : SRow e sz base f l u w) (hl : v'.ownBlock = v.ownBlock ∨ v'.ownBlock = some W.heap.size) (hle : w.heap.size ≤ W.heap.size) : Dis u v' := by
  intro g h1 h2
  rcases hl with q | q
  · rw [q] at h2; exact hd g h1 h2
  · rw [q] at h2
    have := (World.ownsRow.lt h g h1).2
    have := Option.some.inj h2
    omega
end
section
variable {P : Program} {ops : Array Oper} {a0 : Act} {w0 : World} {Fin : Env → Prop} {rest : List Oper} {env : Env} {d : Option Tmp} {ty ty' : TypeId} {x : Operand} {pos : String} {after : Array Edge}
/-- A struct read at an address of which only the cells are known, in a drawn region. -/
theorem wpG_loadAt {p : Addr} {u : TypeDesc} (part : Array Value) (hc : ∀ j v, part.toList[j]? = some v → w0.cell? (p.add j) = some v) (hu : P.underlying ty = some u) (hd : (match u with | .struct _ | .array _ _ => true | _ => false) = true) (hi : (P.info? ty).map (·.size) = some part.size)
    (hx : ∀ a w, (∀ t, (Oper.looksAt ops { dst := d, op := .load ty x, type := ty', pos := pos, after := after, guard := none }).contains t = true → Known a0 env a w t) → a.eval x = .pointer (some p))
    (hr : wpG P ops a0 w0 Fin rest ((d, Is (.agg part)) :: env)) : wpG P ops a0 w0 Fin ({ dst := d, op := .load ty x, type := ty', pos := pos, after := after, guard := none } :: rest) env :=
  ⟨Is (.agg part), fun _ _ _ _ h => h, fun a w hl hk => gives_of rfl (wp_loadAt part (fun j v hj => hl.cell (hc j v hj)) hu (hx a w hk) hd hi ⟨_, rfl, rfl, Later.refl w⟩), hr⟩
/-- A block of one struct's cells. -/
def BlockF (e : TypeId) (part : Array Value) : Fact := fun v w => ∃ g, v = .slice (some ⟨g, 0, none⟩) 1 1 ∧ Whole w g e part
theorem BlockF.later {e : TypeId} {part : Array Value} (v : Value) (w w' : World) (h : Later w w') (k : BlockF e part v w) : BlockF e part v w' := by
  obtain ⟨g, rfl, hw⟩ := k
  exact ⟨g, rfl, h.whole hw⟩
theorem wpG_buildR {t e : TypeId} {x0 : Operand} (part : Array Value) {z : Value} {by_ : Nat} (hu : P.underlying t = some (.slice e)) (he : (P.info? e).map (fun i => (i.zero, i.size, i.bytes)) = some (some z, part.size, by_)) (hpos : 0 < part.size) (hsmall : part.size ≤ 16777216)
    (hf : Instr.fill (fun i => some (i * part.size, part.size)) ((Array.range (1 * part.size)).map (z.cells[· % z.cells.size]!)) [(0, .agg part)] = some part)
    (hx : ∀ a w, (∀ t', (Oper.looksAt ops { dst := d, op := .buildSlice t 1 #[(0, x0)], type := ty', pos := pos, after := after, guard := none }).contains t' = true → Known a0 env a w t') → a.eval x0 = .agg part)
    (hr : wpG P ops a0 w0 Fin rest ((d, BlockF e part) :: env)) : wpG P ops a0 w0 Fin ({ dst := d, op := .buildSlice t 1 #[(0, x0)], type := ty', pos := pos, after := after, guard := none } :: rest) env := by
  obtain ⟨ie, h1, h2, h3, h4⟩ := info_parts he
  refine ⟨BlockF e part, BlockF.later, fun a w hl hk => gives_of rfl ?_, hr⟩
  exact wp_buildOne hu h1 h2 h3 hpos hsmall (hx a w hk) hf ⟨_, rfl, ⟨_, rfl, Whole.new _ _ _⟩, (Later.refl w).alloc _⟩
end
abbrev PairV (p : ByteArray × ByteArray) : List Value := [.string p.1, .string p.2]
theorem PairV_one (p : ByteArray × ByteArray) : ∀ u ∈ PairV p, u.oneCell' = true := by
  intro u hu
  simp at hu
  rcases hu with rfl | rfl <;> rfl
abbrev TxtV (s : ByteArray) : List Value := [.string s]
theorem TxtV_one (s : ByteArray) : ∀ u ∈ TxtV s, u.oneCell' = true := by
  intro u hu
  simp at hu
  subst hu
  rfl
def PK : Kn (ByteArray × ByteArray) := Kn.str.pair Kn.str
theorem PK.pair_ {w : World} {A : Option Addr} {xs : List (ByteArray × ByteArray)} (h : PK.Rows w A xs) {k : Nat} (hk : k < xs.length) :
    ∃ ad, A = some ad ∧ ad.block < w.heap.size ∧ w.cell? (ad.add (k * 2)) = some (.string xs[k].1) ∧ w.cell? ⟨(ad.add (k * 2)).block, (ad.add (k * 2)).off + 1, none⟩ = some (.string xs[k].2) := by
  obtain ⟨ad, c, e, hlt, hK, h0, h1⟩ := h.fields hk
  obtain ⟨c0, c1, rfl, e0, e1⟩ := hK
  obtain rfl := e0
  obtain rfl := e1
  exact ⟨ad, e, hlt, h0 _ rfl, h1 0 _ rfl⟩
theorem PK.K_mk (w : World) (p : ByteArray × ByteArray) : PK.K w p (PairV p) := ⟨[.string p.1], [.string p.2], rfl, rfl, rfl⟩
theorem pair_load {w : World} {a : Addr} {x y : Value} (h0 : w.cell? a = some x) (h1 : w.cell? ⟨a.block, a.off + 1, none⟩ = some y) : ∀ j v, (#[x, y] : Array Value).toList[j]? = some v → w.cell? (a.add j) = some v := by
  intro j v hj
  match j, hj with
  | 0, hj => simp at hj; subst hj; exact h0
  | 1, hj => simp at hj; subst hj; exact h1
end Go.Proofs.Ytknjbkbbhgjnlaa
