/- A struct read at an address of which only the cells are known (a row's element). No conditions. -/
import Derived.Test.YtknjbkbbhgjnlaaToolA
namespace Go.Proofs.Ytknjbkbbhgjnlaa
open Go.RowKit
set_option linter.unusedVariables false
set_option linter.unusedSimpArgs false
section
variable {P : Program}
theorem wp_loadAt {d : Option Tmp} {ty ty' : TypeId} {x : Operand} {pos : String} {after : Array Edge} {gd : Option (Nat × Bool)} {a : Act} {w : World} {K : Act → World → Prop} {Q : Exit → Act → World → Prop}
    {p : Addr} {u : TypeDesc} (part : Array Value) (hc : ∀ j v, part.toList[j]? = some v → w.cell? (p.add j) = some v) (hu : P.underlying ty = some u) (hx : a.eval x = .pointer (some p))
    (hd : (match u with | .struct _ | .array _ _ => true | _ => false) = true) (hi : (P.info? ty).map (·.size) = some part.size)
    (h : K (a.put d (.agg part)) w) :
    Oper.wp P { dst := d, op := .load ty x, type := ty', pos := pos, after := after, guard := gd } a w K Q := by
  have hl : (loadCells p part.toList.length).run P w = .ok part.toList.toArray w := run_loadCells_list (P := P) w p part.toList hc
  have hrun : (loadVar ty p).run P w = .ok (.agg part) w := by
    cases hq : P.info? ty with
    | none => simp [hq] at hi
    | some i =>
      have hs : i.size = part.size := by simpa [hq] using hi
      have hagg : (isAgg ty).run P w = .ok true w := by
        unfold isAgg
        rw [Sem.run_bind, run_underlying hu w]
        cases u <;> simp_all
      simp only [Array.length_toList, Array.toArray_toList] at hl
      simp [loadVar, Sem.run_bind, hagg, sizeOf, typeInfo, hq, hs, hl]
  unfold Oper.wp execOp
  simp only [hx, Instr.loadAt, Instr.sureAddr, Sem.run_bind, Sem.run_pure, Result.andThen_ok, hrun]
  exact h
theorem wl_loadAt {ops : Array Oper} {rest : List Oper} {d : Option Tmp} {ty ty' : TypeId} {x : Operand} {pos : String} {after : Array Edge} {gd : Option (Nat × Bool)} {a : Act} {w : World} {Q : Exit → Act → World → Prop}
    {p : Addr} {u : TypeDesc} (part : Array Value) (hc : ∀ j v, part.toList[j]? = some v → w.cell? (p.add j) = some v) (hu : P.underlying ty = some u)
    (hw : Region.wanted { dst := d, op := .load ty x, type := ty', pos := pos, after := after, guard := gd } (yielded ops a.tmps) = true)
    (hx : a.eval x = .pointer (some p))
    (hd : (match u with | .struct _ | .array _ _ => true | _ => false) = true) (hi : (P.info? ty).map (·.size) = some part.size)
    (h : wpList P ops Q rest (a.put d (.agg part)) w) :
    wpList P ops Q ({ dst := d, op := .load ty x, type := ty', pos := pos, after := after, guard := gd } :: rest) a w :=
  wl_of_wp hw (wp_loadAt part hc hu hx hd hi h)
end
end Go.Proofs.Ytknjbkbbhgjnlaa
