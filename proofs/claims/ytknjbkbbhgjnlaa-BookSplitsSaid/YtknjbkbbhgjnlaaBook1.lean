/- Package book's and the reference's looks at heads. No conditions. -/
import Derived.Test.YtknjbkbbhgjnlaaHeadSpec
import Derived.Laws.StructEq
namespace Go.Proofs.Ytknjbkbbhgjnlaa
open Go.RowKit
set_option linter.unusedVariables false
set_option linter.unusedSimpArgs false
def Hd.formed (h : Hd) : Bool := decide (1 ≤ h.q) && decide (1 ≤ h.z) && decide (h.z ≤ 64) && decide (0 ≤ h.t) && decide (h.r.size = 32) && decide (h.m.size = 32)
def Hd.eqv (a b : Hd) : Bool := decide (a.q = b.q) && decide (a.z = b.z) && decide (a.t = b.t) && decide (a.r = b.r) && decide (a.m = b.m)
def splitB (a b : Hd) : Bool :=
  if (a.formed && b.formed) = false then false
  else if a.q = b.q then !(a.eqv b)
  else if a.q < b.q then decide (b.z ≤ a.z) || decide (b.t < a.t) else decide (a.z ≤ b.z) || decide (a.t < b.t)
theorem eqv_comm (a b : Hd) : a.eqv b = b.eqv a := by
  unfold Hd.eqv
  congr 1; congr 1; congr 1; congr 1
  all_goals exact decide_eq_decide.2 ⟨Eq.symm, Eq.symm⟩
theorem splitB_comm (a b : Hd) : splitB a b = splitB b a := by
  unfold splitB
  rw [eqv_comm a b, Bool.and_comm a.formed]
  by_cases h : (b.formed && a.formed) = false
  · rw [if_pos h, if_pos h]
  · rw [if_neg h, if_neg h]
    by_cases h1 : a.q = b.q
    · rw [if_pos h1, if_pos h1.symm]
    · have h1' : ¬ b.q = a.q := fun q => h1 q.symm
      rw [if_neg h1, if_neg h1']
      by_cases h2 : a.q < b.q
      · have h3 : ¬ b.q < a.q := by omega
        rw [if_pos h2, if_neg h3]
      · have h3 : b.q < a.q := by omega
        rw [if_neg h2, if_pos h3]
theorem splitB_self (a : Hd) : splitB a a = false := by
  unfold splitB
  split
  · rfl
  · rw [if_pos rfl]; simp [Hd.eqv]
set_option maxRecDepth 100000 in
theorem head_eqIn (a b : Hd) (w : World) : (Op.equalIn 10000 87 (.agg #[.int .i64 a.q, .int .i64 a.z, .int .i64 a.t, .string a.r, .string a.m]) (.agg #[.int .i64 b.q, .int .i64 b.z, .int .i64 b.t, .string b.r, .string b.m])).run Try.prog w = .ok (a.eqv b) w := by
  rw [run_equalIn_struct w 9999 _ _ _ (by kernel_rfl) (by kernel_rfl)]
  have hf : (Try.prog.fieldsOf 87) = (match Try.prog.underlying 87 with | some (.struct fs) => fs | _ => #[]) := rfl
  rw [hf, Try.underlying87]
  unfold Hd.eqv
  by_cases h1 : a.q = b.q
  · by_cases h2 : a.z = b.z
    · by_cases h3 : a.t = b.t
      · by_cases h4 : a.r = b.r
        · by_cases h5 : a.m = b.m
          all_goals simp [go_sem, Op.eqFields, Try.underlying3, Try.underlying9, h1, h2, h3, h4, h5, beqL]
        · simp [go_sem, Op.eqFields, Try.underlying3, Try.underlying9, h1, h2, h3, h4, beqL]
      · simp [go_sem, Op.eqFields, Try.underlying3, Try.underlying9, h1, h2, h3]
    · simp [go_sem, Op.eqFields, Try.underlying3, Try.underlying9, h1, h2]
  · simp [go_sem, Op.eqFields, Try.underlying3, Try.underlying9, h1]
/-- A head in a box of the call's own. -/
theorem hd_whole (w : World) (h : Hd) : Whole (w.alloc (.cells #[.int .i64 h.q, .int .i64 h.z, .int .i64 h.t, .string h.r, .string h.m] 87)) w.heap.size 87 #[.int .i64 h.q, .int .i64 h.z, .int .i64 h.t, .string h.r, .string h.m] := Whole.new _ _ _
set_option maxHeartbeats 1000000 in
set_option maxRecDepth 100000 in
theorem formed_calls (h : Hd) (w : World) : Calls Try.prog 48 #[.agg h.A] w fun e w' => e = .returned (.bool h.formed) ∧ Below w.heap.size w w' := by
  obtain ⟨q, z, t, r, m⟩ := h
  have hw := hd_whole w ⟨q, z, t, r, m⟩
  have hB : Below w.heap.size w (w.alloc (.cells #[.int .i64 q, .int .i64 z, .int .i64 t, .string r, .string m] 87)) := by go_grown
  simp only [Hd.A] at *
  have c0 := hw.cell 0; have c1 := hw.cell 1; have c2 := hw.cell 2; have c3 := hw.cell 3; have c4 := hw.cell 4
  by_cases h1 : 1 ≤ q
  · by_cases h2 : 1 ≤ z
    · by_cases h3 : z ≤ 64
      · by_cases h4 : 0 ≤ t
        · by_cases h5 : (r.size : Int) = 32
          · go_enter Try.func48, Try.ntmps48
            go_wp2_with (fail)
            go_returns
            go_light
            exact ⟨ret_bool (by rw [Bool.eq_iff_iff]; simp [Hd.formed]; omega), hB⟩
          · go_enter Try.func48, Try.ntmps48
            go_wp2_with (fail)
            go_returns
            go_light
            exact ⟨ret_bool (by rw [Bool.eq_iff_iff]; simp [Hd.formed]; omega), hB⟩
        · go_enter Try.func48, Try.ntmps48
          go_wp2_with (fail)
          go_returns
          go_light
          exact ⟨ret_bool (by rw [Bool.eq_iff_iff]; simp [Hd.formed]; omega), hB⟩
      · go_enter Try.func48, Try.ntmps48
        go_wp2_with (fail)
        go_returns
        go_light
        exact ⟨ret_bool (by rw [Bool.eq_iff_iff]; simp [Hd.formed]; omega), hB⟩
    · go_enter Try.func48, Try.ntmps48
      go_wp2_with (fail)
      go_returns
      go_light
      exact ⟨ret_bool (by rw [Bool.eq_iff_iff]; simp [Hd.formed]; omega), hB⟩
  · go_enter Try.func48, Try.ntmps48
    go_wp2_with (fail)
    go_returns
    go_light
    exact ⟨ret_bool (by rw [Bool.eq_iff_iff]; simp [Hd.formed]; omega), hB⟩
end Go.Proofs.Ytknjbkbbhgjnlaa
