/- Regions that draw their order, more: a text's bytes. No conditions. -/
import Derived.Test.YteipcmbbonfklaaToolA
import Derived.Test.YteipcmbbonfklaaShaR3
import Derived.Lib.ConvBytes
import Derived.Lib.AtoiErrMem
namespace Go.Proofs.Yteipcmbbonfklaa
open Go.RowKit
set_option linter.unusedVariables false
set_option linter.unusedSimpArgs false
/-- A text's bytes in a row of their own, from base on. -/
def BytesOf (base : Nat) (s : ByteArray) : Fact := fun v W => ∃ g cap, v = .slice (some ⟨g, 0, none⟩) s.size cap ∧ base ≤ g ∧ ∀ j, j < s.size → W.cell? ⟨g, j, none⟩ = some (.int .u8 (((bytesN s).getD j 0 : Nat) : Int))
theorem BytesOf.later {base : Nat} {s : ByteArray} (v : Value) (w w' : World) (h : Later w w') (k : BytesOf base s v w) : BytesOf base s v w' := by
  obtain ⟨g, c, h1, h2, h3⟩ := k
  exact ⟨g, c, h1, h2, fun j hj => h.cell (h3 j hj)⟩
section
variable {P : Program} {ops : Array Oper} {a0 : Act} {w0 : World} {Fin : Env → Prop} {rest : List Oper} {env : Env} {d : Option Tmp} {ty ty' : TypeId} {x : Operand} {pos : String} {after : Array Edge}
theorem wpG_bytes {src dst e : TypeId} {s : ByteArray} {u : TypeDesc} (hs : P.underlying src = some u) (hd : P.underlying dst = some (.slice e)) (he : P.underlying e = some (.int .u8))
    (hx : ∀ a w, (∀ t, (Oper.looksAt ops { dst := d, op := .convert src dst x, type := ty', pos := pos, after := after, guard := none }).contains t = true → Known a0 env a w t) → a.eval x = .string s)
    (hr : wpG P ops a0 w0 Fin rest ((d, BytesOf w0.heap.size s) :: env)) : wpG P ops a0 w0 Fin ({ dst := d, op := .convert src dst x, type := ty', pos := pos, after := after, guard := none } :: rest) env := by
  refine ⟨BytesOf w0.heap.size s, BytesOf.later, fun a w hl hk => gives_of rfl ?_, hr⟩
  have h1 := Lib.run_convert_string_bytes (P := P) w src dst e s hs hd he
  unfold Oper.wp
  simp only [execOp, hx a w hk, Sem.run_bind, h1, Result.andThen_ok, Sem.run_pure]
  refine ⟨_, rfl, ⟨w.heap.size, _, rfl, hl.size, fun j hj => ?_⟩, Lib.bytesWorld_below w e s⟩
  rw [Lib.bytesWorld_cell w e s j hj]
  unfold bytesN
  rw [List.getD_eq_getElem?_getD, List.getD_eq_getElem?_getD, List.getElem?_map]
  have : j < s.data.toList.length := by simpa using hj
  rw [List.getElem?_eq_getElem this]
  rfl
end
end Go.Proofs.Yteipcmbbonfklaa
