/- The walk of the law SlotBytes. No conditions. -/
import Derived.Test.YtdohmkanpdhmaaaSlotRead
namespace Go.Proofs.Ytdohmkanpdhmaaa
open Go.RowKit
set_option linter.unusedVariables false
set_option linter.unusedSimpArgs false
set_option maxHeartbeats 400000 in
set_option maxRecDepth 100000 in
theorem slotBytes_long (s : SL) (w : World) (hl : 1100 < (s.v.size : Int)) : Calls Try.prog 14 #[.agg s.A] w fun e w' => e = .returned (.bool true) ∧ Below w.heap.size w w' := by
  obtain ⟨p, q, v⟩ := s
  simp only at hl
  unfold SL.A
  have ha := Whole.new w 23 #[.int .i64 p, .int .i64 q, .string v]
  have hB : Below w.heap.size w (w.alloc (.cells #[.int .i64 p, .int .i64 q, .string v] 23)) := by go_grown
  go_enter Try.func14, Try.ntmps14
  go_upto_region 2 with (((with_reducible refine (awake17_calls _).mono ?_); rintro e w2 ⟨rfl, hb2⟩; replace ha := Whole.below (by first | (with_reducible exact ha) | (with_reducible exact ha.alloc _) | (with_reducible exact (ha.alloc _).alloc _) | (with_reducible exact ha.drewN _)) hb2 (by have := ha.lt; go_size); replace hB := below_next' (by first | (with_reducible exact hB) | (with_reducible exact hB.alloc hB.size _) | (with_reducible exact (hB.alloc hB.size _).alloc (hB.alloc hB.size _).size _) | exact below_drewN' hB _) hb2); have a0 : w2.cell? ⟨w.heap.size, 0, none⟩ = some (.int .i64 p) := ha.cell 0; have a1 : w2.cell? ⟨w.heap.size, 1, none⟩ = some (.int .i64 q) := ha.cell 1; have a2 : w2.cell? ⟨w.heap.size, 2, none⟩ = some (.string v) := ha.cell 2)
  all_goals go_wp2_with (((with_reducible refine (awake17_calls _).mono ?_); rintro e w5 ⟨rfl, hb5⟩; replace ha := Whole.below (by first | (with_reducible exact ha) | (with_reducible exact ha.alloc _) | (with_reducible exact (ha.alloc _).alloc _) | (with_reducible exact ha.drewN _)) hb5 (by have := ha.lt; go_size); replace hB := below_next' (by first | (with_reducible exact hB) | (with_reducible exact hB.alloc hB.size _) | (with_reducible exact (hB.alloc hB.size _).alloc (hB.alloc hB.size _).size _) | exact below_drewN' hB _) hb5))
  all_goals go_returns
  all_goals exact ⟨rfl, hB⟩
set_option maxHeartbeats 1000000 in
set_option maxRecDepth 100000 in
theorem slotBytes_bad (s : SL) (w : World) (l1 : s.v.size ≤ 1100) (hr : s.right = false) (e : readSlot (listB s.L) = (SL.zero, 2)) : Calls Try.prog 14 #[.agg s.A] w fun e w' => e = .returned (.bool true) ∧ Below w.heap.size w w' := by
  have B1 := fun W => sbytes_calls s W (by omega)
  have B2 := fun W => refBytes_calls s W (by omega)
  have R := fun W => readSlot_calls (listB s.L) W
  have Q := fun W => refRight_calls s W
  have P := fun W => sright_calls s W
  have ha := Whole.new w 23 s.A
  have hB : Below w.heap.size w (w.alloc (.cells s.A 23)) := by go_grown
  obtain ⟨y, hy⟩ : ∃ y, listB s.L = y := ⟨_, rfl⟩
  rw [e] at R
  simp only [hy, hr, SL.zero] at B1 B2 R Q P
  obtain ⟨p, q, v⟩ := s
  unfold SL.A at *
  simp only at l1 B1 B2 R Q P
  replace B1 := Lib.hid B1
  replace B2 := Lib.hid B2
  replace R := Lib.hid R
  replace Q := Lib.hid Q
  replace P := Lib.hid P
  clear hy hr e
  go_enter Try.func14, Try.ntmps14
  go_upto_region 4 with (first | (first | ((with_reducible apply wl_loadW (ty := 23) ha Try.underlying23); rfl; rfl; rfl; kernel_rfl) | ((with_reducible apply wl_loadW (ty := 23) (ha.alloc _) Try.underlying23); rfl; rfl; rfl; kernel_rfl) | ((with_reducible apply wl_loadW (ty := 23) ((ha.alloc _).alloc _) Try.underlying23); rfl; rfl; rfl; kernel_rfl)) | ((with_reducible refine (B1.out _).mono ?_); rintro e w1 ⟨rfl, hb1⟩; replace ha := Whole.below (by first | (with_reducible exact ha) | (with_reducible exact ha.alloc _) | (with_reducible exact (ha.alloc _).alloc _) | (with_reducible exact ha.drewN _)) hb1 (by have := ha.lt; go_size); replace hB := below_next' (by first | (with_reducible exact hB) | (with_reducible exact hB.alloc hB.size _) | (with_reducible exact (hB.alloc hB.size _).alloc (hB.alloc hB.size _).size _) | exact below_drewN' hB _) hb1) | (((with_reducible refine (awake17_calls _).mono ?_); rintro e w2 ⟨rfl, hb2⟩; replace ha := Whole.below (by first | (with_reducible exact ha) | (with_reducible exact ha.alloc _) | (with_reducible exact (ha.alloc _).alloc _) | (with_reducible exact ha.drewN _)) hb2 (by have := ha.lt; go_size); replace hB := below_next' (by first | (with_reducible exact hB) | (with_reducible exact hB.alloc hB.size _) | (with_reducible exact (hB.alloc hB.size _).alloc (hB.alloc hB.size _).size _) | exact below_drewN' hB _) hb2); have a0 : w2.cell? ⟨w.heap.size, 0, none⟩ = some (.int .i64 p) := ha.cell 0; have a1 : w2.cell? ⟨w.heap.size, 1, none⟩ = some (.int .i64 q) := ha.cell 1; have a2 : w2.cell? ⟨w.heap.size, 2, none⟩ = some (.string v) := ha.cell 2))
  clear B1 l1
  go_upto_region 5 with (((with_reducible refine (R.out _).mono ?_); rintro e w3 ⟨rfl, hb3⟩; replace ha := Whole.below (by first | (with_reducible exact ha) | (with_reducible exact ha.alloc _) | (with_reducible exact (ha.alloc _).alloc _) | (with_reducible exact ha.drewN _)) hb3 (by have := ha.lt; go_size); replace hB := below_next' (by first | (with_reducible exact hB) | (with_reducible exact hB.alloc hB.size _) | (with_reducible exact (hB.alloc hB.size _).alloc (hB.alloc hB.size _).size _) | exact below_drewN' hB _) hb3); have hx := Whole.new w3 23 #[.int .i64 0, .int .i64 0, .string ByteArray.empty])
  clear R
  replace ha := ha.alloc (.cells #[.int .i64 0, .int .i64 0, .string ByteArray.empty] 23)
  replace hB := hB.alloc hB.size (.cells #[.int .i64 0, .int .i64 0, .string ByteArray.empty] 23)
  generalize w3.alloc (.cells #[.int .i64 0, .int .i64 0, .string ByteArray.empty] 23) = W5 at *
  have a0 : W5.cell? ⟨w.heap.size, 0, none⟩ = some (.int .i64 p) := ha.cell 0; have a1 : W5.cell? ⟨w.heap.size, 1, none⟩ = some (.int .i64 q) := ha.cell 1; have a2 : W5.cell? ⟨w.heap.size, 2, none⟩ = some (.string v) := ha.cell 2
  go_cut [32] (fun p wc => p = .bool false ∧ Below W5.heap.size W5 wc)
  case first =>
    have hD := (Below.refl W5.heap.size W5).drew
    go_region_held3 (fun W : World => W.cell? ⟨w.heap.size, 0, none⟩ = some (.int .i64 p) ∧ W.cell? ⟨w.heap.size, 1, none⟩ = some (.int .i64 q) ∧ W.cell? ⟨w.heap.size, 2, none⟩ = some (.string v)) (first | exact ⟨a0, a1, a2⟩ | exact ⟨cell_keep a0 hD, cell_keep a1 hD, cell_keep a2 hD⟩ | go_keep) (first | (go_simp; (with_reducible refine (P.out _).mono ?_); rintro e w4 ⟨rfl, hb4⟩; replace hD := below_next' hD hb4) | (go_simp; (with_reducible refine (Q.out _).mono ?_); rintro e w5 ⟨rfl, hb5⟩; replace hD := below_next' hD hb5) | (go_simp; (with_reducible refine (B2.out _).mono ?_); rintro e w6 ⟨rfl, hb6⟩; replace hD := below_next' hD hb6))
    all_goals (go_wp2_with (fail); go_meet)
    all_goals exact ⟨rfl, hD⟩
  case rest =>
    obtain ⟨rfl, hbc⟩ := hcut
    replace ha := ha.below hbc ha.lt
    replace hx := hx.below hbc hx.lt
    replace hB := below_next' hB hbc
    clear a0 a1 a2
    go_upto_region 9 with (first | (first | ((with_reducible apply wl_loadW (ty := 23) ha Try.underlying23); rfl; rfl; rfl; kernel_rfl) | ((with_reducible apply wl_loadW (ty := 23) (ha.alloc _) Try.underlying23); rfl; rfl; rfl; kernel_rfl) | ((with_reducible apply wl_loadW (ty := 23) ((ha.alloc _).alloc _) Try.underlying23); rfl; rfl; rfl; kernel_rfl)) | ((with_reducible refine (Q.out _).mono ?_); rintro e w7 ⟨rfl, hb7⟩; replace ha := Whole.below (by first | (with_reducible exact ha) | (with_reducible exact ha.alloc _) | (with_reducible exact (ha.alloc _).alloc _) | (with_reducible exact ha.drewN _)) hb7 (by have := ha.lt; go_size); replace hx := Whole.below (by first | (with_reducible exact hx) | (with_reducible exact hx.alloc _) | (with_reducible exact (hx.alloc _).alloc _) | (with_reducible exact hx.drewN _)) hb7 (by have := hx.lt; go_size); replace hB := below_next' (by first | (with_reducible exact hB) | (with_reducible exact hB.alloc hB.size _) | (with_reducible exact (hB.alloc hB.size _).alloc (hB.alloc hB.size _).size _) | exact below_drewN' hB _) hb7))
    have x0 : w7.cell? ⟨w3.heap.size, 0, none⟩ = some (.int .i64 0) := hx.cell 0; have x1 : w7.cell? ⟨w3.heap.size, 1, none⟩ = some (.int .i64 0) := hx.cell 1; have x2 : w7.cell? ⟨w3.heap.size, 2, none⟩ = some (.string ByteArray.empty) := hx.cell 2
    go_wp2
    all_goals go_returns
    all_goals go_light
    all_goals exact ⟨ret_bool rfl, hB⟩
set_option maxHeartbeats 1000000 in
set_option maxRecDepth 100000 in
theorem slotBytes_other (s x : SL) (w : World) (l1 : s.v.size ≤ 1100) (hr : s.right = false) (e : readSlot (listB s.L) = (x, 0)) (hx1 : x.right = true) (hx2 : listB x.L = listB s.L) : Calls Try.prog 14 #[.agg s.A] w fun e w' => e = .returned (.bool true) ∧ Below w.heap.size w w' := by
  have hbx := sright_bounds hx1
  have Q2 := fun W => refRight_calls x W
  have B3 := fun W => refBytes_calls x W (by omega)
  have B1 := fun W => sbytes_calls s W (by omega)
  have B2 := fun W => refBytes_calls s W (by omega)
  have R := fun W => readSlot_calls (listB s.L) W
  have Q := fun W => refRight_calls s W
  have P := fun W => sright_calls s W
  have ha := Whole.new w 23 s.A
  have hB : Below w.heap.size w (w.alloc (.cells s.A 23)) := by go_grown
  obtain ⟨y, hy⟩ : ∃ y, listB s.L = y := ⟨_, rfl⟩
  rw [e] at R
  rw [hy] at hx2
  simp only [hy, hr, hx1, hx2] at B1 B2 R Q P Q2 B3
  obtain ⟨p', q', v'⟩ := x
  unfold SL.A at Q2 B3
  simp only at Q2 B3
  replace Q2 := Lib.hid Q2
  replace B3 := Lib.hid B3
  clear hx1 hx2 hbx
  obtain ⟨p, q, v⟩ := s
  unfold SL.A at *
  simp only at l1 B1 B2 R Q P
  replace B1 := Lib.hid B1
  replace B2 := Lib.hid B2
  replace R := Lib.hid R
  replace Q := Lib.hid Q
  replace P := Lib.hid P
  clear hy hr e
  go_enter Try.func14, Try.ntmps14
  go_upto_region 4 with (first | (first | ((with_reducible apply wl_loadW (ty := 23) ha Try.underlying23); rfl; rfl; rfl; kernel_rfl) | ((with_reducible apply wl_loadW (ty := 23) (ha.alloc _) Try.underlying23); rfl; rfl; rfl; kernel_rfl) | ((with_reducible apply wl_loadW (ty := 23) ((ha.alloc _).alloc _) Try.underlying23); rfl; rfl; rfl; kernel_rfl)) | ((with_reducible refine (B1.out _).mono ?_); rintro e w1 ⟨rfl, hb1⟩; replace ha := Whole.below (by first | (with_reducible exact ha) | (with_reducible exact ha.alloc _) | (with_reducible exact (ha.alloc _).alloc _) | (with_reducible exact ha.drewN _)) hb1 (by have := ha.lt; go_size); replace hB := below_next' (by first | (with_reducible exact hB) | (with_reducible exact hB.alloc hB.size _) | (with_reducible exact (hB.alloc hB.size _).alloc (hB.alloc hB.size _).size _) | exact below_drewN' hB _) hb1) | (((with_reducible refine (awake17_calls _).mono ?_); rintro e w2 ⟨rfl, hb2⟩; replace ha := Whole.below (by first | (with_reducible exact ha) | (with_reducible exact ha.alloc _) | (with_reducible exact (ha.alloc _).alloc _) | (with_reducible exact ha.drewN _)) hb2 (by have := ha.lt; go_size); replace hB := below_next' (by first | (with_reducible exact hB) | (with_reducible exact hB.alloc hB.size _) | (with_reducible exact (hB.alloc hB.size _).alloc (hB.alloc hB.size _).size _) | exact below_drewN' hB _) hb2); have a0 : w2.cell? ⟨w.heap.size, 0, none⟩ = some (.int .i64 p) := ha.cell 0; have a1 : w2.cell? ⟨w.heap.size, 1, none⟩ = some (.int .i64 q) := ha.cell 1; have a2 : w2.cell? ⟨w.heap.size, 2, none⟩ = some (.string v) := ha.cell 2))
  clear B1 l1
  go_upto_region 5 with (((with_reducible refine (R.out _).mono ?_); rintro e w3 ⟨rfl, hb3⟩; replace ha := Whole.below (by first | (with_reducible exact ha) | (with_reducible exact ha.alloc _) | (with_reducible exact (ha.alloc _).alloc _) | (with_reducible exact ha.drewN _)) hb3 (by have := ha.lt; go_size); replace hB := below_next' (by first | (with_reducible exact hB) | (with_reducible exact hB.alloc hB.size _) | (with_reducible exact (hB.alloc hB.size _).alloc (hB.alloc hB.size _).size _) | exact below_drewN' hB _) hb3); have hx := Whole.new w3 23 #[.int .i64 p', .int .i64 q', .string v'])
  clear R
  replace ha := ha.alloc (.cells #[.int .i64 p', .int .i64 q', .string v'] 23)
  replace hB := hB.alloc hB.size (.cells #[.int .i64 p', .int .i64 q', .string v'] 23)
  generalize w3.alloc (.cells #[.int .i64 p', .int .i64 q', .string v'] 23) = W5 at *
  have a0 : W5.cell? ⟨w.heap.size, 0, none⟩ = some (.int .i64 p) := ha.cell 0; have a1 : W5.cell? ⟨w.heap.size, 1, none⟩ = some (.int .i64 q) := ha.cell 1; have a2 : W5.cell? ⟨w.heap.size, 2, none⟩ = some (.string v) := ha.cell 2
  go_cut [32] (fun p wc => p = .bool false ∧ Below W5.heap.size W5 wc)
  case first =>
    have hD := (Below.refl W5.heap.size W5).drew
    go_region_held3 (fun W : World => W.cell? ⟨w.heap.size, 0, none⟩ = some (.int .i64 p) ∧ W.cell? ⟨w.heap.size, 1, none⟩ = some (.int .i64 q) ∧ W.cell? ⟨w.heap.size, 2, none⟩ = some (.string v)) (first | exact ⟨a0, a1, a2⟩ | exact ⟨cell_keep a0 hD, cell_keep a1 hD, cell_keep a2 hD⟩ | go_keep) (first | (go_simp; (with_reducible refine (P.out _).mono ?_); rintro e w4 ⟨rfl, hb4⟩; replace hD := below_next' hD hb4) | (go_simp; (with_reducible refine (Q.out _).mono ?_); rintro e w5 ⟨rfl, hb5⟩; replace hD := below_next' hD hb5) | (go_simp; (with_reducible refine (B2.out _).mono ?_); rintro e w6 ⟨rfl, hb6⟩; replace hD := below_next' hD hb6))
    all_goals (go_wp2_with (fail); go_meet)
    all_goals exact ⟨rfl, hD⟩
  case rest =>
    obtain ⟨rfl, hbc⟩ := hcut
    replace ha := ha.below hbc ha.lt
    replace hx := hx.below hbc hx.lt
    replace hB := below_next' hB hbc
    clear a0 a1 a2
    go_upto_region 9 with (first | (first | ((with_reducible apply wl_loadW (ty := 23) ha Try.underlying23); rfl; rfl; rfl; kernel_rfl) | ((with_reducible apply wl_loadW (ty := 23) (ha.alloc _) Try.underlying23); rfl; rfl; rfl; kernel_rfl) | ((with_reducible apply wl_loadW (ty := 23) ((ha.alloc _).alloc _) Try.underlying23); rfl; rfl; rfl; kernel_rfl)) | ((with_reducible refine (Q.out _).mono ?_); rintro e w7 ⟨rfl, hb7⟩; replace ha := Whole.below (by first | (with_reducible exact ha) | (with_reducible exact ha.alloc _) | (with_reducible exact (ha.alloc _).alloc _) | (with_reducible exact ha.drewN _)) hb7 (by have := ha.lt; go_size); replace hx := Whole.below (by first | (with_reducible exact hx) | (with_reducible exact hx.alloc _) | (with_reducible exact (hx.alloc _).alloc _) | (with_reducible exact hx.drewN _)) hb7 (by have := hx.lt; go_size); replace hB := below_next' (by first | (with_reducible exact hB) | (with_reducible exact hB.alloc hB.size _) | (with_reducible exact (hB.alloc hB.size _).alloc (hB.alloc hB.size _).size _) | exact below_drewN' hB _) hb7))
    have x0 : w7.cell? ⟨w3.heap.size, 0, none⟩ = some (.int .i64 p') := hx.cell 0; have x1 : w7.cell? ⟨w3.heap.size, 1, none⟩ = some (.int .i64 q') := hx.cell 1; have x2 : w7.cell? ⟨w3.heap.size, 2, none⟩ = some (.string v') := hx.cell 2
    go_wp2_with (first | (go_at_call 16; ((with_reducible refine (Q2.out _).mono ?_); rintro e w8 ⟨rfl, hb8⟩; replace ha := Whole.below (by first | (with_reducible exact ha) | (with_reducible exact ha.alloc _) | (with_reducible exact (ha.alloc _).alloc _) | (with_reducible exact ha.drewN _)) hb8 (by have := ha.lt; go_size); replace hx := Whole.below (by first | (with_reducible exact hx) | (with_reducible exact hx.alloc _) | (with_reducible exact (hx.alloc _).alloc _) | (with_reducible exact hx.drewN _)) hb8 (by have := hx.lt; go_size); replace hB := below_next' (by first | (with_reducible exact hB) | (with_reducible exact hB.alloc hB.size _) | (with_reducible exact (hB.alloc hB.size _).alloc (hB.alloc hB.size _).size _) | exact below_drewN' hB _) hb8); have z0 : w8.cell? ⟨w3.heap.size, 0, none⟩ = some (.int .i64 p') := hx.cell 0; have z1 : w8.cell? ⟨w3.heap.size, 1, none⟩ = some (.int .i64 q') := hx.cell 1; have z2 : w8.cell? ⟨w3.heap.size, 2, none⟩ = some (.string v') := hx.cell 2) | (go_at_call 32; ((with_reducible refine (B3.out _).mono ?_); rintro e w9 ⟨rfl, hb9⟩; replace ha := Whole.below (by first | (with_reducible exact ha) | (with_reducible exact ha.alloc _) | (with_reducible exact (ha.alloc _).alloc _) | (with_reducible exact ha.drewN _)) hb9 (by have := ha.lt; go_size); replace hx := Whole.below (by first | (with_reducible exact hx) | (with_reducible exact hx.alloc _) | (with_reducible exact (hx.alloc _).alloc _) | (with_reducible exact hx.drewN _)) hb9 (by have := hx.lt; go_size); replace hB := below_next' (by first | (with_reducible exact hB) | (with_reducible exact hB.alloc hB.size _) | (with_reducible exact (hB.alloc hB.size _).alloc (hB.alloc hB.size _).size _) | exact below_drewN' hB _) hb9)))
    all_goals go_returns
    all_goals go_light
    all_goals exact ⟨ret_bool (by simp), hB⟩
set_option maxHeartbeats 1000000 in
set_option maxRecDepth 100000 in
theorem slotBytes_right (s : SL) (w : World) (l1 : s.v.size ≤ 1100) (hr : s.right = true) : Calls Try.prog 14 #[.agg s.A] w fun e w' => e = .returned (.bool true) ∧ Below w.heap.size w w' := by
  have e := slot_app hr
  have B1 := fun W => sbytes_calls s W (by omega)
  have B2 := fun W => refBytes_calls s W (by omega)
  have R := fun W => readSlot_calls (listB s.L) W
  have Q := fun W => refRight_calls s W
  have P := fun W => sright_calls s W
  have ha := Whole.new w 23 s.A
  have hB : Below w.heap.size w (w.alloc (.cells s.A 23)) := by go_grown
  obtain ⟨y, hy⟩ : ∃ y, listB s.L = y := ⟨_, rfl⟩
  rw [e] at R
  simp only [hy, hr] at B1 B2 R Q P
  obtain ⟨p, q, v⟩ := s
  unfold SL.A at *
  simp only at l1 B1 B2 R Q P
  replace B1 := Lib.hid B1
  replace B2 := Lib.hid B2
  replace R := Lib.hid R
  replace Q := Lib.hid Q
  replace P := Lib.hid P
  clear hy hr e
  go_enter Try.func14, Try.ntmps14
  go_upto_region 4 with (first | (first | ((with_reducible apply wl_loadW (ty := 23) ha Try.underlying23); rfl; rfl; rfl; kernel_rfl) | ((with_reducible apply wl_loadW (ty := 23) (ha.alloc _) Try.underlying23); rfl; rfl; rfl; kernel_rfl) | ((with_reducible apply wl_loadW (ty := 23) ((ha.alloc _).alloc _) Try.underlying23); rfl; rfl; rfl; kernel_rfl)) | ((with_reducible refine (B1.out _).mono ?_); rintro e w1 ⟨rfl, hb1⟩; replace ha := Whole.below (by first | (with_reducible exact ha) | (with_reducible exact ha.alloc _) | (with_reducible exact (ha.alloc _).alloc _) | (with_reducible exact ha.drewN _)) hb1 (by have := ha.lt; go_size); replace hB := below_next' (by first | (with_reducible exact hB) | (with_reducible exact hB.alloc hB.size _) | (with_reducible exact (hB.alloc hB.size _).alloc (hB.alloc hB.size _).size _) | exact below_drewN' hB _) hb1) | (((with_reducible refine (awake17_calls _).mono ?_); rintro e w2 ⟨rfl, hb2⟩; replace ha := Whole.below (by first | (with_reducible exact ha) | (with_reducible exact ha.alloc _) | (with_reducible exact (ha.alloc _).alloc _) | (with_reducible exact ha.drewN _)) hb2 (by have := ha.lt; go_size); replace hB := below_next' (by first | (with_reducible exact hB) | (with_reducible exact hB.alloc hB.size _) | (with_reducible exact (hB.alloc hB.size _).alloc (hB.alloc hB.size _).size _) | exact below_drewN' hB _) hb2); have a0 : w2.cell? ⟨w.heap.size, 0, none⟩ = some (.int .i64 p) := ha.cell 0; have a1 : w2.cell? ⟨w.heap.size, 1, none⟩ = some (.int .i64 q) := ha.cell 1; have a2 : w2.cell? ⟨w.heap.size, 2, none⟩ = some (.string v) := ha.cell 2))
  clear B1 l1
  go_upto_region 5 with (((with_reducible refine (R.out _).mono ?_); rintro e w3 ⟨rfl, hb3⟩; replace ha := Whole.below (by first | (with_reducible exact ha) | (with_reducible exact ha.alloc _) | (with_reducible exact (ha.alloc _).alloc _) | (with_reducible exact ha.drewN _)) hb3 (by have := ha.lt; go_size); replace hB := below_next' (by first | (with_reducible exact hB) | (with_reducible exact hB.alloc hB.size _) | (with_reducible exact (hB.alloc hB.size _).alloc (hB.alloc hB.size _).size _) | exact below_drewN' hB _) hb3); have hx := Whole.new w3 23 #[.int .i64 p, .int .i64 q, .string v])
  clear R
  replace ha := ha.alloc (.cells #[.int .i64 p, .int .i64 q, .string v] 23)
  replace hB := hB.alloc hB.size (.cells #[.int .i64 p, .int .i64 q, .string v] 23)
  generalize w3.alloc (.cells #[.int .i64 p, .int .i64 q, .string v] 23) = W5 at *
  have a0 : W5.cell? ⟨w.heap.size, 0, none⟩ = some (.int .i64 p) := ha.cell 0; have a1 : W5.cell? ⟨w.heap.size, 1, none⟩ = some (.int .i64 q) := ha.cell 1; have a2 : W5.cell? ⟨w.heap.size, 2, none⟩ = some (.string v) := ha.cell 2
  go_cut [32] (fun p wc => p = .bool false ∧ Below W5.heap.size W5 wc)
  case first =>
    have hD := (Below.refl W5.heap.size W5).drew
    go_region_held3 (fun W : World => W.cell? ⟨w.heap.size, 0, none⟩ = some (.int .i64 p) ∧ W.cell? ⟨w.heap.size, 1, none⟩ = some (.int .i64 q) ∧ W.cell? ⟨w.heap.size, 2, none⟩ = some (.string v)) (first | exact ⟨a0, a1, a2⟩ | exact ⟨cell_keep a0 hD, cell_keep a1 hD, cell_keep a2 hD⟩ | go_keep) (first | (go_simp; (with_reducible refine (P.out _).mono ?_); rintro e w4 ⟨rfl, hb4⟩; replace hD := below_next' hD hb4) | (go_simp; (with_reducible refine (Q.out _).mono ?_); rintro e w5 ⟨rfl, hb5⟩; replace hD := below_next' hD hb5) | (go_simp; (with_reducible refine (B2.out _).mono ?_); rintro e w6 ⟨rfl, hb6⟩; replace hD := below_next' hD hb6))
    all_goals (go_wp2_with (fail); go_meet)
    all_goals exact ⟨rfl, hD⟩
  case rest =>
    obtain ⟨rfl, hbc⟩ := hcut
    replace ha := ha.below hbc ha.lt
    replace hx := hx.below hbc hx.lt
    replace hB := below_next' hB hbc
    clear a0 a1 a2
    go_upto_region 8 with (first | (first | ((with_reducible apply wl_loadW (ty := 23) ha Try.underlying23); rfl; rfl; rfl; kernel_rfl) | ((with_reducible apply wl_loadW (ty := 23) (ha.alloc _) Try.underlying23); rfl; rfl; rfl; kernel_rfl) | ((with_reducible apply wl_loadW (ty := 23) ((ha.alloc _).alloc _) Try.underlying23); rfl; rfl; rfl; kernel_rfl)) | ((with_reducible refine (Q.out _).mono ?_); rintro e w7 ⟨rfl, hb7⟩; replace ha := Whole.below (by first | (with_reducible exact ha) | (with_reducible exact ha.alloc _) | (with_reducible exact (ha.alloc _).alloc _) | (with_reducible exact ha.drewN _)) hb7 (by have := ha.lt; go_size); replace hx := Whole.below (by first | (with_reducible exact hx) | (with_reducible exact hx.alloc _) | (with_reducible exact (hx.alloc _).alloc _) | (with_reducible exact hx.drewN _)) hb7 (by have := hx.lt; go_size); replace hB := below_next' (by first | (with_reducible exact hB) | (with_reducible exact hB.alloc hB.size _) | (with_reducible exact (hB.alloc hB.size _).alloc (hB.alloc hB.size _).size _) | exact below_drewN' hB _) hb7))
    have x0 : w7.cell? ⟨w3.heap.size, 0, none⟩ = some (.int .i64 p) := hx.cell 0; have x1 : w7.cell? ⟨w3.heap.size, 1, none⟩ = some (.int .i64 q) := hx.cell 1; have x2 : w7.cell? ⟨w3.heap.size, 2, none⟩ = some (.string v) := hx.cell 2
    have a0 : w7.cell? ⟨w.heap.size, 0, none⟩ = some (.int .i64 p) := ha.cell 0; have a1 : w7.cell? ⟨w.heap.size, 1, none⟩ = some (.int .i64 q) := ha.cell 1; have a2 : w7.cell? ⟨w.heap.size, 2, none⟩ = some (.string v) := ha.cell 2
    go_wp2
    all_goals go_returns
    all_goals go_light
    all_goals exact ⟨ret_bool (by simp), hB⟩
theorem slotBytes_calls (s : SL) (w : World) : Calls Try.prog 14 #[.agg s.A] w fun e w' => e = .returned (.bool true) ∧ Below w.heap.size w w' := by
  by_cases h : s.v.size ≤ 1100
  · cases hr : s.right
    · rcases slot_cases (listB s.L) with e | ⟨x, e, h1, h2⟩
      · exact slotBytes_bad s w h hr e
      · exact slotBytes_other s x w h hr e h1 h2
    · exact slotBytes_right s w h hr
  · exact slotBytes_long s w (by omega)
end Go.Proofs.Ytdohmkanpdhmaaa
