/- The walk of the law SlotReads. No conditions. -/
import Derived.Test.YtdohmkanpdhmaaaSlotRead
namespace Go.Proofs.Ytdohmkanpdhmaaa
open Go.RowKit
set_option linter.unusedVariables false
set_option linter.unusedSimpArgs false
set_option maxHeartbeats 400000 in
set_option maxRecDepth 100000 in
theorem slotReads_long (b : ByteArray) (w : World) (hl : 500 < (b.size : Int)) : Calls Try.prog 10 #[.string b] w fun e w' => e = .returned (.bool true) ∧ Below w.heap.size w w' := by
  have hB := Below.refl w.heap.size w
  go_enter Try.func10, Try.ntmps10
  go_upto_region 2 with (((with_reducible refine (awake17_calls _).mono ?_); rintro e w2 ⟨rfl, hb2⟩; replace hB := below_next' (by first | (with_reducible exact hB) | (with_reducible exact hB.alloc hB.size _) | (with_reducible exact (hB.alloc hB.size _).alloc (hB.alloc hB.size _).size _) | exact below_drewN' hB _) hb2))
  all_goals go_wp2_with (((with_reducible refine (awake17_calls _).mono ?_); rintro e w5 ⟨rfl, hb5⟩; replace hB := below_next' (by first | (with_reducible exact hB) | (with_reducible exact hB.alloc hB.size _) | (with_reducible exact (hB.alloc hB.size _).alloc (hB.alloc hB.size _).size _) | exact below_drewN' hB _) hb5))
  all_goals go_returns
  all_goals exact ⟨rfl, hB⟩
set_option maxHeartbeats 400000 in
set_option maxRecDepth 100000 in
theorem slotReads_none (b : ByteArray) (w : World) (l1 : b.size ≤ 500) (e : readSlot b = (SL.zero, 2)) : Calls Try.prog 10 #[.string b] w fun e w' => e = .returned (.bool true) ∧ Below w.heap.size w w' := by
  have R1 := fun W => readSlot_calls b W
  rw [e] at R1
  simp only [SL.A, SL.zero] at R1
  replace R1 := Lib.hid R1
  clear e
  have hB := Below.refl w.heap.size w
  go_enter Try.func10, Try.ntmps10
  go_upto_region 4 with (first | ((with_reducible refine (awake17_calls _).mono ?_); rintro e w2 ⟨rfl, hb2⟩; replace hB := below_next' (by first | (with_reducible exact hB) | (with_reducible exact hB.alloc hB.size _) | (with_reducible exact (hB.alloc hB.size _).alloc (hB.alloc hB.size _).size _) | exact below_drewN' hB _) hb2) | (((with_reducible refine (R1.out _).mono ?_); rintro e w3 ⟨rfl, hb3⟩; replace hB := below_next' (by first | (with_reducible exact hB) | (with_reducible exact hB.alloc hB.size _) | (with_reducible exact (hB.alloc hB.size _).alloc (hB.alloc hB.size _).size _) | exact below_drewN' hB _) hb3); have hx := Whole.new w3 23 #[.int .i64 0, .int .i64 0, .string ByteArray.empty]))
  have hB' := hB.alloc hB.size (.cells #[.int .i64 0, .int .i64 0, .string ByteArray.empty] 23)
  generalize w3.alloc (.cells #[.int .i64 0, .int .i64 0, .string ByteArray.empty] 23) = W4 at *
  have x0 : W4.cell? ⟨w3.heap.size, 0, none⟩ = some (.int .i64 0) := hx.cell 0; have x1 : W4.cell? ⟨w3.heap.size, 1, none⟩ = some (.int .i64 0) := hx.cell 1; have x2 : W4.cell? ⟨w3.heap.size, 2, none⟩ = some (.string ByteArray.empty) := hx.cell 2
  go_wp2
  all_goals go_returns
  all_goals go_light
  all_goals exact ⟨ret_bool rfl, hB'⟩
set_option maxHeartbeats 400000 in
set_option maxRecDepth 100000 in
theorem slotReads_some (b : ByteArray) (s : SL) (w : World) (l1 : b.size ≤ 500) (e : readSlot b = (s, 0)) (hr : s.right = true) (hb : listB s.L = b) : Calls Try.prog 10 #[.string b] w fun e w' => e = .returned (.bool true) ∧ Below w.heap.size w w' := by
  have hbnd := sright_bounds hr
  have R1 := fun W => readSlot_calls b W
  have Q := fun W => refRight_calls s W
  have P := fun W => refBytes_calls s W (by omega)
  rw [e] at R1
  rw [hr] at Q
  rw [hb] at P
  obtain ⟨p, q, v⟩ := s
  simp only [SL.A] at R1 Q P
  replace R1 := Lib.hid R1
  replace Q := Lib.hid Q
  replace P := Lib.hid P
  clear e hr hb hbnd
  have hB := Below.refl w.heap.size w
  go_enter Try.func10, Try.ntmps10
  go_upto_region 4 with (first | ((with_reducible refine (awake17_calls _).mono ?_); rintro e w2 ⟨rfl, hb2⟩; replace hB := below_next' (by first | (with_reducible exact hB) | (with_reducible exact hB.alloc hB.size _) | (with_reducible exact (hB.alloc hB.size _).alloc (hB.alloc hB.size _).size _) | exact below_drewN' hB _) hb2) | (((with_reducible refine (R1.out _).mono ?_); rintro e w3 ⟨rfl, hb3⟩; replace hB := below_next' (by first | (with_reducible exact hB) | (with_reducible exact hB.alloc hB.size _) | (with_reducible exact (hB.alloc hB.size _).alloc (hB.alloc hB.size _).size _) | exact below_drewN' hB _) hb3); have hx := Whole.new w3 23 #[.int .i64 p, .int .i64 q, .string v]))
  replace hB := hB.alloc hB.size (.cells #[.int .i64 p, .int .i64 q, .string v] 23)
  generalize w3.alloc (.cells #[.int .i64 p, .int .i64 q, .string v] 23) = W4 at *
  have x0 : W4.cell? ⟨w3.heap.size, 0, none⟩ = some (.int .i64 p) := hx.cell 0; have x1 : W4.cell? ⟨w3.heap.size, 1, none⟩ = some (.int .i64 q) := hx.cell 1; have x2 : W4.cell? ⟨w3.heap.size, 2, none⟩ = some (.string v) := hx.cell 2
  go_wp2_with (first | (go_at_call 16; ((with_reducible refine (Q.out _).mono ?_); rintro e w6 ⟨rfl, hb6⟩; replace hx := Whole.below (by first | (with_reducible exact hx) | (with_reducible exact hx.alloc _) | (with_reducible exact (hx.alloc _).alloc _) | (with_reducible exact hx.drewN _)) hb6 (by have := hx.lt; go_size); replace hB := below_next' (by first | (with_reducible exact hB) | (with_reducible exact hB.alloc hB.size _) | (with_reducible exact (hB.alloc hB.size _).alloc (hB.alloc hB.size _).size _) | exact below_drewN' hB _) hb6); have y0 : w6.cell? ⟨w3.heap.size, 0, none⟩ = some (.int .i64 p) := hx.cell 0; have y1 : w6.cell? ⟨w3.heap.size, 1, none⟩ = some (.int .i64 q) := hx.cell 1; have y2 : w6.cell? ⟨w3.heap.size, 2, none⟩ = some (.string v) := hx.cell 2) | (go_at_call 32; ((with_reducible refine (P.out _).mono ?_); rintro e w7 ⟨rfl, hb7⟩; replace hx := Whole.below (by first | (with_reducible exact hx) | (with_reducible exact hx.alloc _) | (with_reducible exact (hx.alloc _).alloc _) | (with_reducible exact hx.drewN _)) hb7 (by have := hx.lt; go_size); replace hB := below_next' (by first | (with_reducible exact hB) | (with_reducible exact hB.alloc hB.size _) | (with_reducible exact (hB.alloc hB.size _).alloc (hB.alloc hB.size _).size _) | exact below_drewN' hB _) hb7)))
  all_goals go_returns
  all_goals go_light
  all_goals exact ⟨ret_bool (by simp), hB⟩
theorem slotReads_calls (b : ByteArray) (w : World) : Calls Try.prog 10 #[.string b] w fun e w' => e = .returned (.bool true) ∧ Below w.heap.size w w' := by
  by_cases h : b.size ≤ 500
  · rcases slot_cases b with e | ⟨s, e, h1, h2⟩
    · exact slotReads_none b w h e
    · exact slotReads_some b s w h e h1 h2
  · exact slotReads_long b w (by omega)
end Go.Proofs.Ytdohmkanpdhmaaa
