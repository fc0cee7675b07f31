/- The walk of the law WireHeads. No conditions. -/
import Derived.Test.YtdohmkanpdhmaaaWireAwake
import Derived.Test.YtdohmkanpdhmaaaWireH
namespace Go.Proofs.Ytdohmkanpdhmaaa
open Go.RowKit
set_option linter.unusedVariables false
set_option linter.unusedSimpArgs false
/-- What is read of any bytes. -/
theorem head_cases (b : ByteArray) : readHead b = (Hd.zero, 2) ∨ ∃ x : Hd, readHead b = (x, 0) ∧ x.right = true ∧ x.B = b := by
  by_cases h : ∃ x, readHead b = (x, 0)
  · obtain ⟨x, hx⟩ := h
    exact .inr ⟨x, hx, head_back hx⟩
  · refine .inl ?_
    unfold readHead at h ⊢
    simp only at h ⊢
    split at h
    · exact absurd ⟨_, rfl⟩ h
    · rename_i hd
      rw [if_neg hd]
set_option maxHeartbeats 1000000 in
set_option maxRecDepth 100000 in
theorem wireHeads_long (h : Hd) (w : World) (hl : ¬ (h.r.size ≤ 300 ∧ h.m.size ≤ 300)) : Calls Try.prog 9 #[.agg h.A] w fun e w' => e = .returned (.bool true) ∧ Below w.heap.size w w' := by
  obtain ⟨q, z, t, r, m⟩ := h
  simp only at hl
  unfold Hd.A
  have ha := Whole.new w 64 #[.int .i64 q, .int .i64 z, .int .i64 t, .string r, .string m]
  have hB : Below w.heap.size w (w.alloc (.cells #[.int .i64 q, .int .i64 z, .int .i64 t, .string r, .string m] 64)) := by go_grown
  have d1 : (300 < (r.size : Int)) ∨ (r.size ≤ 300 ∧ 300 < (m.size : Int)) := by omega
  rcases d1 with d1 | ⟨d0, d1⟩
  all_goals clear hl
  all_goals go_enter Try.func9, Try.ntmps9
  all_goals go_upto_region 2 with (((with_reducible refine (awake02_calls _).mono ?_); rintro e w2 ⟨rfl, hb2⟩; replace ha := Whole.below (by first | (with_reducible exact ha) | (with_reducible exact ha.alloc _) | (with_reducible exact (ha.alloc _).alloc _) | (with_reducible exact ha.drewN _)) hb2 (by have := ha.lt; go_size); replace hB := below_next' (by first | (with_reducible exact hB) | (with_reducible exact hB.alloc hB.size _) | (with_reducible exact (hB.alloc hB.size _).alloc (hB.alloc hB.size _).size _) | exact below_drewN' hB _) hb2); have a3 : w2.cell? ⟨w.heap.size, 3, none⟩ = some (.string r) := ha.cell 3; have a4 : w2.cell? ⟨w.heap.size, 4, none⟩ = some (.string m) := ha.cell 4)
  all_goals go_wp2_with (((with_reducible refine (awake02_calls _).mono ?_); rintro e w5 ⟨rfl, hb5⟩; replace ha := Whole.below (by first | (with_reducible exact ha) | (with_reducible exact ha.alloc _) | (with_reducible exact (ha.alloc _).alloc _) | (with_reducible exact ha.drewN _)) hb5 (by have := ha.lt; go_size); replace hB := below_next' (by first | (with_reducible exact hB) | (with_reducible exact hB.alloc hB.size _) | (with_reducible exact (hB.alloc hB.size _).alloc (hB.alloc hB.size _).size _) | exact below_drewN' hB _) hb5))
  all_goals go_returns
  all_goals exact ⟨rfl, hB⟩
set_option maxHeartbeats 1000000 in
set_option maxRecDepth 100000 in
theorem wireHeads_bad (h : Hd) (w : World) (l1 : h.r.size ≤ 300) (l2 : h.m.size ≤ 300) (hr : h.right = false) (e : readHead h.B = (Hd.zero, 2)) : Calls Try.prog 9 #[.agg h.A] w fun e w' => e = .returned (.bool true) ∧ Below w.heap.size w w' := by
  have B1 := fun W => head_calls h W (by omega) (by omega)
  have B2 := fun W => refHead_calls h W (by omega) (by omega)
  have R := fun W => readHead_calls h.B W
  have Q := fun W => refRightHead_calls h W
  have ha := Whole.new w 64 h.A
  have hB : Below w.heap.size w (w.alloc (.cells h.A 64)) := by go_grown
  obtain ⟨y, hy⟩ : ∃ y, h.B = y := ⟨_, rfl⟩
  rw [e] at R
  simp only [hy, hr, Hd.zero] at B1 B2 R Q
  obtain ⟨q, z, t, r, m⟩ := h
  unfold Hd.A at *
  simp only at l1 l2 B1 B2 R Q
  replace B1 := Lib.hid B1
  replace B2 := Lib.hid B2
  replace R := Lib.hid R
  replace Q := Lib.hid Q
  clear hy hr e
  go_enter Try.func9, Try.ntmps9
  go_upto_region 4 with (first | (first | ((with_reducible apply wl_loadW (ty := 64) ha Try.underlying64); rfl; rfl; rfl; kernel_rfl) | ((with_reducible apply wl_loadW (ty := 64) (ha.alloc _) Try.underlying64); rfl; rfl; rfl; kernel_rfl) | ((with_reducible apply wl_loadW (ty := 64) ((ha.alloc _).alloc _) Try.underlying64); rfl; rfl; rfl; kernel_rfl)) | ((with_reducible refine (B1.out _).mono ?_); rintro e w1 ⟨rfl, hb1⟩; replace ha := Whole.below (by first | (with_reducible exact ha) | (with_reducible exact ha.alloc _) | (with_reducible exact (ha.alloc _).alloc _) | (with_reducible exact ha.drewN _)) hb1 (by have := ha.lt; go_size); replace hB := below_next' (by first | (with_reducible exact hB) | (with_reducible exact hB.alloc hB.size _) | (with_reducible exact (hB.alloc hB.size _).alloc (hB.alloc hB.size _).size _) | exact below_drewN' hB _) hb1) | (((with_reducible refine (awake02_calls _).mono ?_); rintro e w2 ⟨rfl, hb2⟩; replace ha := Whole.below (by first | (with_reducible exact ha) | (with_reducible exact ha.alloc _) | (with_reducible exact (ha.alloc _).alloc _) | (with_reducible exact ha.drewN _)) hb2 (by have := ha.lt; go_size); replace hB := below_next' (by first | (with_reducible exact hB) | (with_reducible exact hB.alloc hB.size _) | (with_reducible exact (hB.alloc hB.size _).alloc (hB.alloc hB.size _).size _) | exact below_drewN' hB _) hb2); have a3 : w2.cell? ⟨w.heap.size, 3, none⟩ = some (.string r) := ha.cell 3; have a4 : w2.cell? ⟨w.heap.size, 4, none⟩ = some (.string m) := ha.cell 4))
  clear B1 l1 l2
  go_upto_region 5 with (((with_reducible refine (R.out _).mono ?_); rintro e w3 ⟨rfl, hb3⟩; replace ha := Whole.below (by first | (with_reducible exact ha) | (with_reducible exact ha.alloc _) | (with_reducible exact (ha.alloc _).alloc _) | (with_reducible exact ha.drewN _)) hb3 (by have := ha.lt; go_size); replace hB := below_next' (by first | (with_reducible exact hB) | (with_reducible exact hB.alloc hB.size _) | (with_reducible exact (hB.alloc hB.size _).alloc (hB.alloc hB.size _).size _) | exact below_drewN' hB _) hb3); (have hx := Whole.new w3 64 #[.int .i64 0, .int .i64 0, .int .i64 0, .string ByteArray.empty, .string ByteArray.empty]))
  go_upto_region 9 with (first | (first | ((with_reducible apply wl_loadW (ty := 64) ha Try.underlying64); rfl; rfl; rfl; kernel_rfl) | ((with_reducible apply wl_loadW (ty := 64) (ha.alloc _) Try.underlying64); rfl; rfl; rfl; kernel_rfl) | ((with_reducible apply wl_loadW (ty := 64) ((ha.alloc _).alloc _) Try.underlying64); rfl; rfl; rfl; kernel_rfl)) | (first | ((with_reducible apply wl_loadW (ty := 64) hx Try.underlying64); rfl; rfl; rfl; kernel_rfl) | ((with_reducible apply wl_loadW (ty := 64) (hx.alloc _) Try.underlying64); rfl; rfl; rfl; kernel_rfl) | ((with_reducible apply wl_loadW (ty := 64) ((hx.alloc _).alloc _) Try.underlying64); rfl; rfl; rfl; kernel_rfl)) | ((with_reducible refine (Q.out _).mono ?_); rintro e w4 ⟨rfl, hb4⟩; replace ha := Whole.below (by first | (with_reducible exact ha) | (with_reducible exact ha.alloc _) | (with_reducible exact (ha.alloc _).alloc _) | (with_reducible exact ha.drewN _)) hb4 (by have := ha.lt; go_size); replace hx := Whole.below (by first | (with_reducible exact hx) | (with_reducible exact hx.alloc _) | (with_reducible exact (hx.alloc _).alloc _) | (with_reducible exact hx.drewN _)) hb4 (by have := hx.lt; go_size); replace hB := below_next' (by first | (with_reducible exact hB) | (with_reducible exact hB.alloc hB.size _) | (with_reducible exact (hB.alloc hB.size _).alloc (hB.alloc hB.size _).size _) | exact below_drewN' hB _) hb4) | ((with_reducible refine (B2.out _).mono ?_); rintro e w5 ⟨rfl, hb5⟩; replace ha := Whole.below (by first | (with_reducible exact ha) | (with_reducible exact ha.alloc _) | (with_reducible exact (ha.alloc _).alloc _) | (with_reducible exact ha.drewN _)) hb5 (by have := ha.lt; go_size); replace hx := Whole.below (by first | (with_reducible exact hx) | (with_reducible exact hx.alloc _) | (with_reducible exact (hx.alloc _).alloc _) | (with_reducible exact hx.drewN _)) hb5 (by have := hx.lt; go_size); replace hB := below_next' (by first | (with_reducible exact hB) | (with_reducible exact hB.alloc hB.size _) | (with_reducible exact (hB.alloc hB.size _).alloc (hB.alloc hB.size _).size _) | exact below_drewN' hB _) hb5))
  go_wp2
  all_goals go_returns
  all_goals go_light
  all_goals exact ⟨ret_bool rfl, hB⟩
set_option maxHeartbeats 1000000 in
set_option maxRecDepth 100000 in
theorem wireHeads_other (h x : Hd) (w : World) (l1 : h.r.size ≤ 300) (l2 : h.m.size ≤ 300) (hr : h.right = false) (e : readHead h.B = (x, 0)) (hx1 : x.right = true) (hx2 : x.B = h.B) : Calls Try.prog 9 #[.agg h.A] w fun e w' => e = .returned (.bool true) ∧ Below w.heap.size w w' := by
  obtain ⟨_, _, _, _, _, _, g7, g8⟩ := hright_bounds hx1
  have Q2 := fun W => refRightHead_calls x W
  have B3 := fun W => refHead_calls x W (by omega) (by omega)
  have B1 := fun W => head_calls h W (by omega) (by omega)
  have B2 := fun W => refHead_calls h W (by omega) (by omega)
  have R := fun W => readHead_calls h.B W
  have Q := fun W => refRightHead_calls h W
  have ha := Whole.new w 64 h.A
  have hB : Below w.heap.size w (w.alloc (.cells h.A 64)) := by go_grown
  obtain ⟨y, hy⟩ : ∃ y, h.B = y := ⟨_, rfl⟩
  rw [e] at R
  rw [hy] at hx2
  simp only [hy, hr, hx1, hx2] at B1 B2 R Q Q2 B3
  obtain ⟨q', z', t', r', m'⟩ := x
  unfold Hd.A at Q2 B3
  simp only at Q2 B3
  replace Q2 := Lib.hid Q2
  replace B3 := Lib.hid B3
  clear hx1 hx2 g7 g8
  obtain ⟨q, z, t, r, m⟩ := h
  unfold Hd.A at *
  simp only at l1 l2 B1 B2 R Q
  replace B1 := Lib.hid B1
  replace B2 := Lib.hid B2
  replace R := Lib.hid R
  replace Q := Lib.hid Q
  clear hy hr e
  go_enter Try.func9, Try.ntmps9
  go_upto_region 4 with (first | (first | ((with_reducible apply wl_loadW (ty := 64) ha Try.underlying64); rfl; rfl; rfl; kernel_rfl) | ((with_reducible apply wl_loadW (ty := 64) (ha.alloc _) Try.underlying64); rfl; rfl; rfl; kernel_rfl) | ((with_reducible apply wl_loadW (ty := 64) ((ha.alloc _).alloc _) Try.underlying64); rfl; rfl; rfl; kernel_rfl)) | ((with_reducible refine (B1.out _).mono ?_); rintro e w1 ⟨rfl, hb1⟩; replace ha := Whole.below (by first | (with_reducible exact ha) | (with_reducible exact ha.alloc _) | (with_reducible exact (ha.alloc _).alloc _) | (with_reducible exact ha.drewN _)) hb1 (by have := ha.lt; go_size); replace hB := below_next' (by first | (with_reducible exact hB) | (with_reducible exact hB.alloc hB.size _) | (with_reducible exact (hB.alloc hB.size _).alloc (hB.alloc hB.size _).size _) | exact below_drewN' hB _) hb1) | (((with_reducible refine (awake02_calls _).mono ?_); rintro e w2 ⟨rfl, hb2⟩; replace ha := Whole.below (by first | (with_reducible exact ha) | (with_reducible exact ha.alloc _) | (with_reducible exact (ha.alloc _).alloc _) | (with_reducible exact ha.drewN _)) hb2 (by have := ha.lt; go_size); replace hB := below_next' (by first | (with_reducible exact hB) | (with_reducible exact hB.alloc hB.size _) | (with_reducible exact (hB.alloc hB.size _).alloc (hB.alloc hB.size _).size _) | exact below_drewN' hB _) hb2); have a3 : w2.cell? ⟨w.heap.size, 3, none⟩ = some (.string r) := ha.cell 3; have a4 : w2.cell? ⟨w.heap.size, 4, none⟩ = some (.string m) := ha.cell 4))
  clear B1 l1 l2
  go_upto_region 5 with (((with_reducible refine (R.out _).mono ?_); rintro e w3 ⟨rfl, hb3⟩; replace ha := Whole.below (by first | (with_reducible exact ha) | (with_reducible exact ha.alloc _) | (with_reducible exact (ha.alloc _).alloc _) | (with_reducible exact ha.drewN _)) hb3 (by have := ha.lt; go_size); replace hB := below_next' (by first | (with_reducible exact hB) | (with_reducible exact hB.alloc hB.size _) | (with_reducible exact (hB.alloc hB.size _).alloc (hB.alloc hB.size _).size _) | exact below_drewN' hB _) hb3); (have hx := Whole.new w3 64 #[.int .i64 q', .int .i64 z', .int .i64 t', .string r', .string m']))
  go_upto_region 9 with (first | (first | ((with_reducible apply wl_loadW (ty := 64) ha Try.underlying64); rfl; rfl; rfl; kernel_rfl) | ((with_reducible apply wl_loadW (ty := 64) (ha.alloc _) Try.underlying64); rfl; rfl; rfl; kernel_rfl) | ((with_reducible apply wl_loadW (ty := 64) ((ha.alloc _).alloc _) Try.underlying64); rfl; rfl; rfl; kernel_rfl)) | (first | ((with_reducible apply wl_loadW (ty := 64) hx Try.underlying64); rfl; rfl; rfl; kernel_rfl) | ((with_reducible apply wl_loadW (ty := 64) (hx.alloc _) Try.underlying64); rfl; rfl; rfl; kernel_rfl) | ((with_reducible apply wl_loadW (ty := 64) ((hx.alloc _).alloc _) Try.underlying64); rfl; rfl; rfl; kernel_rfl)) | ((with_reducible refine (Q.out _).mono ?_); rintro e w4 ⟨rfl, hb4⟩; replace ha := Whole.below (by first | (with_reducible exact ha) | (with_reducible exact ha.alloc _) | (with_reducible exact (ha.alloc _).alloc _) | (with_reducible exact ha.drewN _)) hb4 (by have := ha.lt; go_size); replace hx := Whole.below (by first | (with_reducible exact hx) | (with_reducible exact hx.alloc _) | (with_reducible exact (hx.alloc _).alloc _) | (with_reducible exact hx.drewN _)) hb4 (by have := hx.lt; go_size); replace hB := below_next' (by first | (with_reducible exact hB) | (with_reducible exact hB.alloc hB.size _) | (with_reducible exact (hB.alloc hB.size _).alloc (hB.alloc hB.size _).size _) | exact below_drewN' hB _) hb4) | ((with_reducible refine (B2.out _).mono ?_); rintro e w5 ⟨rfl, hb5⟩; replace ha := Whole.below (by first | (with_reducible exact ha) | (with_reducible exact ha.alloc _) | (with_reducible exact (ha.alloc _).alloc _) | (with_reducible exact ha.drewN _)) hb5 (by have := ha.lt; go_size); replace hx := Whole.below (by first | (with_reducible exact hx) | (with_reducible exact hx.alloc _) | (with_reducible exact (hx.alloc _).alloc _) | (with_reducible exact hx.drewN _)) hb5 (by have := hx.lt; go_size); replace hB := below_next' (by first | (with_reducible exact hB) | (with_reducible exact hB.alloc hB.size _) | (with_reducible exact (hB.alloc hB.size _).alloc (hB.alloc hB.size _).size _) | exact below_drewN' hB _) hb5))
  go_wp2_with (first | (first | ((with_reducible apply wl_loadW (ty := 64) hx Try.underlying64); rfl; rfl; rfl; kernel_rfl) | ((with_reducible apply wl_loadW (ty := 64) (hx.alloc _) Try.underlying64); rfl; rfl; rfl; kernel_rfl) | ((with_reducible apply wl_loadW (ty := 64) ((hx.alloc _).alloc _) Try.underlying64); rfl; rfl; rfl; kernel_rfl)) | ((with_reducible refine (Q2.out _).mono ?_); rintro e w6 ⟨rfl, hb6⟩; replace ha := Whole.below (by first | (with_reducible exact ha) | (with_reducible exact ha.alloc _) | (with_reducible exact (ha.alloc _).alloc _) | (with_reducible exact ha.drewN _)) hb6 (by have := ha.lt; go_size); replace hx := Whole.below (by first | (with_reducible exact hx) | (with_reducible exact hx.alloc _) | (with_reducible exact (hx.alloc _).alloc _) | (with_reducible exact hx.drewN _)) hb6 (by have := hx.lt; go_size); replace hB := below_next' (by first | (with_reducible exact hB) | (with_reducible exact hB.alloc hB.size _) | (with_reducible exact (hB.alloc hB.size _).alloc (hB.alloc hB.size _).size _) | exact below_drewN' hB _) hb6) | ((with_reducible refine (B3.out _).mono ?_); rintro e w7 ⟨rfl, hb7⟩; replace ha := Whole.below (by first | (with_reducible exact ha) | (with_reducible exact ha.alloc _) | (with_reducible exact (ha.alloc _).alloc _) | (with_reducible exact ha.drewN _)) hb7 (by have := ha.lt; go_size); replace hx := Whole.below (by first | (with_reducible exact hx) | (with_reducible exact hx.alloc _) | (with_reducible exact (hx.alloc _).alloc _) | (with_reducible exact hx.drewN _)) hb7 (by have := hx.lt; go_size); replace hB := below_next' (by first | (with_reducible exact hB) | (with_reducible exact hB.alloc hB.size _) | (with_reducible exact (hB.alloc hB.size _).alloc (hB.alloc hB.size _).size _) | exact below_drewN' hB _) hb7))
  all_goals go_returns
  all_goals go_light
  all_goals exact ⟨ret_bool rfl, hB⟩
set_option maxHeartbeats 1000000 in
set_option maxRecDepth 100000 in
theorem wireHeads_right (h : Hd) (w : World) (l1 : h.r.size ≤ 300) (l2 : h.m.size ≤ 300) (hr : h.right = true) : Calls Try.prog 9 #[.agg h.A] w fun e w' => e = .returned (.bool true) ∧ Below w.heap.size w w' := by
  have e := head_app h hr
  have B1 := fun W => head_calls h W (by omega) (by omega)
  have B2 := fun W => refHead_calls h W (by omega) (by omega)
  have R := fun W => readHead_calls h.B W
  have Q := fun W => refRightHead_calls h W
  have ha := Whole.new w 64 h.A
  have hB : Below w.heap.size w (w.alloc (.cells h.A 64)) := by go_grown
  obtain ⟨y, hy⟩ : ∃ y, h.B = y := ⟨_, rfl⟩
  rw [e] at R
  simp only [hy, hr] at B1 B2 R Q
  obtain ⟨q, z, t, r, m⟩ := h
  unfold Hd.A at *
  simp only at l1 l2 B1 B2 R Q
  replace B1 := Lib.hid B1
  replace B2 := Lib.hid B2
  replace R := Lib.hid R
  replace Q := Lib.hid Q
  clear hy hr e
  go_enter Try.func9, Try.ntmps9
  go_upto_region 4 with (first | (first | ((with_reducible apply wl_loadW (ty := 64) ha Try.underlying64); rfl; rfl; rfl; kernel_rfl) | ((with_reducible apply wl_loadW (ty := 64) (ha.alloc _) Try.underlying64); rfl; rfl; rfl; kernel_rfl) | ((with_reducible apply wl_loadW (ty := 64) ((ha.alloc _).alloc _) Try.underlying64); rfl; rfl; rfl; kernel_rfl)) | ((with_reducible refine (B1.out _).mono ?_); rintro e w1 ⟨rfl, hb1⟩; replace ha := Whole.below (by first | (with_reducible exact ha) | (with_reducible exact ha.alloc _) | (with_reducible exact (ha.alloc _).alloc _) | (with_reducible exact ha.drewN _)) hb1 (by have := ha.lt; go_size); replace hB := below_next' (by first | (with_reducible exact hB) | (with_reducible exact hB.alloc hB.size _) | (with_reducible exact (hB.alloc hB.size _).alloc (hB.alloc hB.size _).size _) | exact below_drewN' hB _) hb1) | (((with_reducible refine (awake02_calls _).mono ?_); rintro e w2 ⟨rfl, hb2⟩; replace ha := Whole.below (by first | (with_reducible exact ha) | (with_reducible exact ha.alloc _) | (with_reducible exact (ha.alloc _).alloc _) | (with_reducible exact ha.drewN _)) hb2 (by have := ha.lt; go_size); replace hB := below_next' (by first | (with_reducible exact hB) | (with_reducible exact hB.alloc hB.size _) | (with_reducible exact (hB.alloc hB.size _).alloc (hB.alloc hB.size _).size _) | exact below_drewN' hB _) hb2); have a3 : w2.cell? ⟨w.heap.size, 3, none⟩ = some (.string r) := ha.cell 3; have a4 : w2.cell? ⟨w.heap.size, 4, none⟩ = some (.string m) := ha.cell 4))
  clear B1 l1 l2
  go_upto_region 5 with (((with_reducible refine (R.out _).mono ?_); rintro e w3 ⟨rfl, hb3⟩; replace ha := Whole.below (by first | (with_reducible exact ha) | (with_reducible exact ha.alloc _) | (with_reducible exact (ha.alloc _).alloc _) | (with_reducible exact ha.drewN _)) hb3 (by have := ha.lt; go_size); replace hB := below_next' (by first | (with_reducible exact hB) | (with_reducible exact hB.alloc hB.size _) | (with_reducible exact (hB.alloc hB.size _).alloc (hB.alloc hB.size _).size _) | exact below_drewN' hB _) hb3); (have hx := Whole.new w3 64 #[.int .i64 q, .int .i64 z, .int .i64 t, .string r, .string m]))
  go_upto_region 8 with (first | (first | ((with_reducible apply wl_loadW (ty := 64) ha Try.underlying64); rfl; rfl; rfl; kernel_rfl) | ((with_reducible apply wl_loadW (ty := 64) (ha.alloc _) Try.underlying64); rfl; rfl; rfl; kernel_rfl) | ((with_reducible apply wl_loadW (ty := 64) ((ha.alloc _).alloc _) Try.underlying64); rfl; rfl; rfl; kernel_rfl)) | (first | ((with_reducible apply wl_loadW (ty := 64) hx Try.underlying64); rfl; rfl; rfl; kernel_rfl) | ((with_reducible apply wl_loadW (ty := 64) (hx.alloc _) Try.underlying64); rfl; rfl; rfl; kernel_rfl) | ((with_reducible apply wl_loadW (ty := 64) ((hx.alloc _).alloc _) Try.underlying64); rfl; rfl; rfl; kernel_rfl)) | ((with_reducible refine (Q.out _).mono ?_); rintro e w4 ⟨rfl, hb4⟩; replace ha := Whole.below (by first | (with_reducible exact ha) | (with_reducible exact ha.alloc _) | (with_reducible exact (ha.alloc _).alloc _) | (with_reducible exact ha.drewN _)) hb4 (by have := ha.lt; go_size); replace hx := Whole.below (by first | (with_reducible exact hx) | (with_reducible exact hx.alloc _) | (with_reducible exact (hx.alloc _).alloc _) | (with_reducible exact hx.drewN _)) hb4 (by have := hx.lt; go_size); replace hB := below_next' (by first | (with_reducible exact hB) | (with_reducible exact hB.alloc hB.size _) | (with_reducible exact (hB.alloc hB.size _).alloc (hB.alloc hB.size _).size _) | exact below_drewN' hB _) hb4) | ((with_reducible refine (B2.out _).mono ?_); rintro e w5 ⟨rfl, hb5⟩; replace ha := Whole.below (by first | (with_reducible exact ha) | (with_reducible exact ha.alloc _) | (with_reducible exact (ha.alloc _).alloc _) | (with_reducible exact ha.drewN _)) hb5 (by have := ha.lt; go_size); replace hx := Whole.below (by first | (with_reducible exact hx) | (with_reducible exact hx.alloc _) | (with_reducible exact (hx.alloc _).alloc _) | (with_reducible exact hx.drewN _)) hb5 (by have := hx.lt; go_size); replace hB := below_next' (by first | (with_reducible exact hB) | (with_reducible exact hB.alloc hB.size _) | (with_reducible exact (hB.alloc hB.size _).alloc (hB.alloc hB.size _).size _) | exact below_drewN' hB _) hb5))
  go_wp2_with (first | (first | ((with_reducible apply wl_loadW (ty := 64) ha Try.underlying64); rfl; rfl; rfl; kernel_rfl) | ((with_reducible apply wl_loadW (ty := 64) (ha.alloc _) Try.underlying64); rfl; rfl; rfl; kernel_rfl) | ((with_reducible apply wl_loadW (ty := 64) ((ha.alloc _).alloc _) Try.underlying64); rfl; rfl; rfl; kernel_rfl)) | (first | ((with_reducible apply wl_loadW (ty := 64) hx Try.underlying64); rfl; rfl; rfl; kernel_rfl) | ((with_reducible apply wl_loadW (ty := 64) (hx.alloc _) Try.underlying64); rfl; rfl; rfl; kernel_rfl) | ((with_reducible apply wl_loadW (ty := 64) ((hx.alloc _).alloc _) Try.underlying64); rfl; rfl; rfl; kernel_rfl)))
  all_goals go_returns
  all_goals go_light
  all_goals exact ⟨ret_bool (by simp), hB⟩
theorem wireHeads_calls (h : Hd) (w : World) : Calls Try.prog 9 #[.agg h.A] w fun e w' => e = .returned (.bool true) ∧ Below w.heap.size w w' := by
  by_cases hl : h.r.size ≤ 300 ∧ h.m.size ≤ 300
  · cases hr : h.right
    · rcases head_cases h.B with e | ⟨x, e, h1, h2⟩
      · exact wireHeads_bad h w hl.1 hl.2 hr e
      · exact wireHeads_other h x w hl.1 hl.2 hr e h1 h2
    · exact wireHeads_right h w hl.1 hl.2 hr
  · exact wireHeads_long h w hl
end Go.Proofs.Ytdohmkanpdhmaaa
