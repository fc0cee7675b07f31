/- Regions that draw their order, more: a slice literal of one text; a row of texts of a call's own. No conditions. -/
import Derived.Test.YtfkafejoacpclaaGrowL
import Derived.Test.YtfkafejoacpclaaRows1
namespace Go.Proofs.Ytfkafejoacpclaa
open Go.RowKit
set_option linter.unusedVariables false
set_option linter.unusedSimpArgs false
section
variable {P : Program} {ops : Array Oper} {a0 : Act} {w0 : World} {Fin : Env → Prop} {rest : List Oper} {env : Env} {d : Option Tmp} {ty ty' : TypeId} {x : Operand} {pos : String} {after : Array Edge}
/-- One text in a block of its own. -/
def TextF (e : TypeId) (s : ByteArray) : Fact := fun v w => ∃ g, v = .slice (some ⟨g, 0, none⟩) 1 1 ∧ Whole w g e #[.string s]
theorem TextF.later {e : TypeId} {s : ByteArray} (v : Value) (w w' : World) (h : Later w w') (k : TextF e s v w) : TextF e s v w' := by
  obtain ⟨g, rfl, hw⟩ := k
  exact ⟨g, rfl, h.whole hw⟩
def StrT (P : Program) (e : TypeId) : Prop := (P.info? e).map (fun i => (i.zero, i.size, i.bytes)) = some (some (.string ⟨#[]⟩), 1, 16)
theorem wpG_buildS {t e : TypeId} {x0 : Operand} {s : ByteArray} (hu : P.underlying t = some (.slice e)) (he : StrT P e)
    (hx : ∀ a w, (∀ t', (Oper.looksAt ops { dst := d, op := .buildSlice t 1 #[(0, x0)], type := ty', pos := pos, after := after, guard := none }).contains t' = true → Known a0 env a w t') → a.eval x0 = .string s)
    (hr : wpG P ops a0 w0 Fin rest ((d, TextF e s) :: env)) : wpG P ops a0 w0 Fin ({ dst := d, op := .buildSlice t 1 #[(0, x0)], type := ty', pos := pos, after := after, guard := none } :: rest) env := by
  obtain ⟨ie, h1, h2, h3, h4⟩ := info_parts he
  refine ⟨TextF e s, TextF.later, fun a w hl hk => gives_of rfl ?_, hr⟩
  have e0 := hx a w hk
  refine wp_buildSlice t e 1 _ rfl #[.string s] ie _ hu h1 h2 (by rw [h3]; decide) (by rw [h3]; decide) ?_ ⟨_, rfl, ⟨_, rfl, Whole.new _ _ _⟩, (Later.refl w).alloc _⟩
  rw [h3]
  simp only [List.map_toArray, List.map_cons, List.map_nil, e0]
  kernel_rfl
/-- Texts in a row of a call's own, from base on. -/
def TextRow (e : TypeId) (base : Nat) (l : List ByteArray) : Fact := fun v w => w.ownsRow base e 1 v l.length (l.map Value.string)
theorem TextRow.later {e : TypeId} {base : Nat} {l : List ByteArray} (v : Value) (w w' : World) (h : Later w w') (k : TextRow e base l v w) : TextRow e base l v w' :=
  World.ownsRow.kept k (only_below h none) (by cases v.ownBlock <;> simp)
theorem TextRow.base {e : TypeId} {b b' : Nat} {l : List ByteArray} {v : Value} {w : World} (h : TextRow e b l v w) (hb : b' ≤ b) : TextRow e b' l v w := by
  refine ⟨h.1, ?_⟩
  rcases h.2 with h | ⟨g, cap, cur, hv, hg, r⟩
  · exact .inl h
  · exact .inr ⟨g, cap, cur, hv, Nat.le_trans hb hg, r⟩
/-- One text put behind a row of texts of the call's own. -/
theorem wl_appendS {P : Program} {ops : Array Oper} {rest : List Oper} {d : Option Tmp} {ty' t e : TypeId} {sl x : Operand} {pos : String} {after : Array Edge} {a : Act} {w : World} {Q : Exit → Act → World → Prop} {base g : Nat} {l : List ByteArray} {s : ByteArray} {v : Value}
    (ht : P.underlying t = some (.slice e)) (he : StrT P e) (hown : TextRow e base l v w) (hg : Whole w g e #[.string s]) (hlen : l.length ≤ 1048576) (hb : base ≤ w.heap.size) (hs : a.eval sl = v) (hx : a.eval x = .slice (some ⟨g, 0, none⟩) 1 1)
    (h : ∀ v' w', TextRow e base (l ++ [s]) v' w' → w.grownBy w' v.ownBlock → wpList P ops Q rest (a.put d v') w') :
    wpList P ops Q ({ dst := d, op := .call { callee := .builtin .append, args := #[sl, x], argTypes := #[t, t] }, type := ty', pos := pos, after := after, guard := none } :: rest) a w := by
  obtain ⟨ie, h1, h2, h3, h4⟩ := info_parts he
  refine wpList_append_own _ rfl sl x t rfl base e ie _ 1 16 ht h1 h2 h3 h4 rfl (by decide) v l.length (l.map Value.string) hs hown ⟨g, 0, none⟩ 1 1 [.string s] hx rfl ?c1 ?c2 ?c3 ?c4 hb ?_
  case c1 =>
    intro j u hj
    match j, hj with
    | 0, hj =>
      simp at hj
      subst hj
      have ha : (⟨g, 0, none⟩ : Addr).add 0 = ⟨g, 0, none⟩ := by unfold Addr.add; split <;> simp_all
      rw [ha, hg.cell 0]
      rfl
  case c2 => intro u hu; simp at hu; subst hu; rfl
  case c3 => unfold maxLen; omega
  case c4 => omega
  intro v' w3 ho3 hg3 _
  refine h v' w3 ?_ hg3
  unfold TextRow
  rw [List.length_append, List.map_append]
  exact ho3
end
end Go.Proofs.Ytfkafejoacpclaa
