/- Package smt: the least item by its key. Condition: at most 2^20 items. -/
import Derived.Test.YtknjbkbbhgjnlaaSmtPart
import Derived.Lib.Bytealg
import Derived.Laws.Externs
namespace Go.Proofs.Ytknjbkbbhgjnlaa
open Go.RowKit
set_option linter.unusedVariables false
set_option linter.unusedSimpArgs false
theorem cmp_less : ∀ a b : List UInt8, decide (Lib.compareBytes a b < 0) = Op.bytesLess a b
  | [], [] => rfl
  | [], _ :: _ => rfl
  | _ :: _, [] => rfl
  | a :: as', b :: bs' => by
    have ih := cmp_less as' bs'
    unfold Lib.compareBytes Op.bytesLess
    by_cases h1 : a < b
    · simp [h1]
    · by_cases h2 : b < a
      · have h3 : ¬ a = b := fun e => by subst e; exact h1 h2
        simp [h1, h2, h3]
      · have h3 : a = b := UInt8.le_antisymm (UInt8.not_lt.1 h2) (UInt8.not_lt.1 h1)
        subst h3
        simpa [h1] using ih
set_option maxHeartbeats 1000000 in
set_option maxRecDepth 100000 in
theorem compareString_calls (a b : ByteArray) (w : World) : Calls Try.prog 118 #[.string a, .string b] w fun e w' => e = .returned (.int .i64 (Lib.compareBytes a.data.toList b.data.toList)) ∧ w' = w := by
  go_enter Try.func118, Try.ntmps118
  go_wp2
  rw [run_callFunc_extern Try.func136 (by kernel_rfl) (by kernel_rfl) (by kernel_rfl) (e := Extern.BytealgCompare.compare) (by kernel_rfl), Lib.run_compareString]
  simp only [Result.andThen]
  rw [Oper.upon_value]
  go_wp2
  go_returns
  exact ⟨rfl, rfl⟩
set_option maxHeartbeats 1000000 in
set_option maxRecDepth 100000 in
theorem compare_calls (a b : ByteArray) (w : World) : Calls Try.prog 93 #[.string a, .string b] w fun e w' => e = .returned (.int .i64 (Lib.compareBytes a.data.toList b.data.toList)) ∧ w' = w := by
  have C := fun w => compareString_calls a b w
  replace C := Lib.hid C
  go_enter Try.func93, Try.ntmps93
  go_wp2_with ((with_reducible refine (C.out _).mono ?_); rintro e w2 ⟨rfl, rfl⟩)
  go_returns
  exact ⟨rfl, rfl⟩
set_option maxHeartbeats 1000000 in
set_option maxRecDepth 100000 in
theorem rootcmp_calls (p q : KV) (w : World) : Calls Try.prog 92 #[.agg (ItemV p).toArray, .agg (ItemV q).toArray] w fun e w' => e = .returned (.int .i64 (Lib.compareBytes p.1.data.toList q.1.data.toList)) ∧ Later w w' := by
  have C := fun w => compare_calls p.1 q.1 w
  generalize Lib.compareBytes p.1.data.toList q.1.data.toList = r at *
  have hP := (Whole.new w 147 (ItemV p).toArray).alloc (.cells (ItemV q).toArray 147)
  have hQ := Whole.new1 w (.cells (ItemV p).toArray 147) 147 (ItemV q).toArray
  have hB : Later w ((w.alloc (.cells (ItemV p).toArray 147)).alloc (.cells (ItemV q).toArray 147)) := ((Later.refl w).alloc _).alloc _
  have c1 : _ = some (Value.string p.1) := hP.cell 1
  have d1 : _ = some (Value.string q.1) := hQ.cell 1
  replace C := Lib.hid C
  go_enter Try.func92, Try.ntmps92
  go_upto_region 1 with (fail)
  generalize (w.alloc (.cells (ItemV p).toArray 147)).alloc (.cells (ItemV q).toArray 147) = W1 at *
  go_wp2_with ((with_reducible refine (C.out _).mono ?_); rintro e w2 ⟨rfl, rfl⟩)
  go_returns
  go_light
  exact ⟨rfl, hB⟩
end Go.Proofs.Ytknjbkbbhgjnlaa
