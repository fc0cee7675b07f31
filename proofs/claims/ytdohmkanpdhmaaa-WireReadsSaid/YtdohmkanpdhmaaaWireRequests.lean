/- The walk of the law WireRequests. No conditions. -/
import Derived.Test.YtdohmkanpdhmaaaWireAwake
import Derived.Test.YtdohmkanpdhmaaaWireR
import Derived.Test.YtdohmkanpdhmaaaWire4
namespace Go.Proofs.Ytdohmkanpdhmaaa
open Go.RowKit
set_option linter.unusedVariables false
set_option linter.unusedSimpArgs false
/-- What is read of any bytes. -/
theorem req_cases (b : ByteArray) : readReq b = (Rq.zero, 2) ∨ ∃ x : Rq, readReq b = (x, 0) ∧ x.right = true ∧ x.B = b := by
  by_cases h : ∃ x, readReq b = (x, 0)
  · obtain ⟨x, hx⟩ := h
    exact .inr ⟨x, hx, req_back hx⟩
  · refine .inl ?_
    unfold readReq at h ⊢
    simp only at h ⊢
    split at h
    · exact absurd ⟨_, rfl⟩ h
    · rename_i hd
      rw [if_neg hd]
set_option maxHeartbeats 1000000 in
set_option maxRecDepth 100000 in
theorem wireRequests_long (r : Rq) (w : World) (hl : ¬ (r.l.size ≤ 300 ∧ r.k.size ≤ 300 ∧ r.v.size ≤ 300)) : Calls Try.prog 12 #[.agg r.A] w fun e w' => e = .returned (.bool true) ∧ Below w.heap.size w w' := by
  obtain ⟨c, s, l, k, v⟩ := r
  simp only at hl
  unfold Rq.A
  have ha := Whole.new w 56 #[.int .i64 c, .int .i64 s, .string l, .string k, .string v]
  have hB : Below w.heap.size w (w.alloc (.cells #[.int .i64 c, .int .i64 s, .string l, .string k, .string v] 56)) := by go_grown
  have d1 : (300 < (l.size : Int)) ∨ (l.size ≤ 300 ∧ 300 < (k.size : Int)) ∨ (l.size ≤ 300 ∧ k.size ≤ 300 ∧ 300 < (v.size : Int)) := by omega
  rcases d1 with d1 | ⟨d0, d1⟩ | ⟨d0, d1, d2⟩
  all_goals clear hl
  all_goals go_enter Try.func12, Try.ntmps12
  all_goals go_upto_region 2 with (((with_reducible refine (awake02_calls _).mono ?_); rintro e w2 ⟨rfl, hb2⟩; replace ha := Whole.below (by first | (with_reducible exact ha) | (with_reducible exact ha.alloc _) | (with_reducible exact (ha.alloc _).alloc _) | (with_reducible exact ha.drewN _)) hb2 (by have := ha.lt; go_size); replace hB := below_next' (by first | (with_reducible exact hB) | (with_reducible exact hB.alloc hB.size _) | (with_reducible exact (hB.alloc hB.size _).alloc (hB.alloc hB.size _).size _) | exact below_drewN' hB _) hb2); have a2 : w2.cell? ⟨w.heap.size, 2, none⟩ = some (.string l) := ha.cell 2; have a3 : w2.cell? ⟨w.heap.size, 3, none⟩ = some (.string k) := ha.cell 3; have a4 : w2.cell? ⟨w.heap.size, 4, none⟩ = some (.string v) := ha.cell 4)
  all_goals go_wp2_with (((with_reducible refine (awake02_calls _).mono ?_); rintro e w5 ⟨rfl, hb5⟩; replace ha := Whole.below (by first | (with_reducible exact ha) | (with_reducible exact ha.alloc _) | (with_reducible exact (ha.alloc _).alloc _) | (with_reducible exact ha.drewN _)) hb5 (by have := ha.lt; go_size); replace hB := below_next' (by first | (with_reducible exact hB) | (with_reducible exact hB.alloc hB.size _) | (with_reducible exact (hB.alloc hB.size _).alloc (hB.alloc hB.size _).size _) | exact below_drewN' hB _) hb5))
  all_goals go_returns
  all_goals exact ⟨rfl, hB⟩
set_option maxHeartbeats 1000000 in
set_option maxRecDepth 100000 in
theorem wireRequests_bad (r : Rq) (w : World) (l1 : r.l.size ≤ 300) (l2 : r.k.size ≤ 300) (l3 : r.v.size ≤ 300) (hr : r.right = false) (e : readReq r.B = (Rq.zero, 2)) : Calls Try.prog 12 #[.agg r.A] w fun e w' => e = .returned (.bool true) ∧ Below w.heap.size w w' := by
  have B1 := fun W => request_calls r W (by omega) (by omega) (by omega)
  have B2 := fun W => refRequest_calls r W (by omega) (by omega) (by omega)
  have R := fun W => readReq_calls r.B W
  have Q := fun W => refRight02_calls r.c r.s r.l r.k r.v W
  have P := fun W => right_calls r.c r.s r.l r.k r.v W
  have ha := Whole.new w 56 r.A
  have hB : Below w.heap.size w (w.alloc (.cells r.A 56)) := by go_grown
  obtain ⟨y, hy⟩ : ∃ y, r.B = y := ⟨_, rfl⟩
  have hrr : Rq.right ⟨r.c, r.s, r.l, r.k, r.v⟩ = r.right := rfl
  rw [e] at R
  simp only [hy, hrr, hr, Rq.zero] at B1 B2 R Q P
  obtain ⟨c, s, l, k, v⟩ := r
  unfold Rq.A at *
  simp only at l1 l2 l3 B1 B2 R Q P
  replace B1 := Lib.hid B1
  replace B2 := Lib.hid B2
  replace R := Lib.hid R
  replace Q := Lib.hid Q
  replace P := Lib.hid P
  clear hy hr hrr e
  go_enter Try.func12, Try.ntmps12
  go_upto_region 4 with (first | (first | ((with_reducible apply wl_loadW (ty := 56) ha Try.underlying56); rfl; rfl; rfl; kernel_rfl) | ((with_reducible apply wl_loadW (ty := 56) (ha.alloc _) Try.underlying56); rfl; rfl; rfl; kernel_rfl) | ((with_reducible apply wl_loadW (ty := 56) ((ha.alloc _).alloc _) Try.underlying56); rfl; rfl; rfl; kernel_rfl)) | ((with_reducible refine (B1.out _).mono ?_); rintro e w1 ⟨rfl, hb1⟩; replace ha := Whole.below (by first | (with_reducible exact ha) | (with_reducible exact ha.alloc _) | (with_reducible exact (ha.alloc _).alloc _) | (with_reducible exact ha.drewN _)) hb1 (by have := ha.lt; go_size); replace hB := below_next' (by first | (with_reducible exact hB) | (with_reducible exact hB.alloc hB.size _) | (with_reducible exact (hB.alloc hB.size _).alloc (hB.alloc hB.size _).size _) | exact below_drewN' hB _) hb1) | (((with_reducible refine (awake02_calls _).mono ?_); rintro e w2 ⟨rfl, hb2⟩; replace ha := Whole.below (by first | (with_reducible exact ha) | (with_reducible exact ha.alloc _) | (with_reducible exact (ha.alloc _).alloc _) | (with_reducible exact ha.drewN _)) hb2 (by have := ha.lt; go_size); replace hB := below_next' (by first | (with_reducible exact hB) | (with_reducible exact hB.alloc hB.size _) | (with_reducible exact (hB.alloc hB.size _).alloc (hB.alloc hB.size _).size _) | exact below_drewN' hB _) hb2); have a2 : w2.cell? ⟨w.heap.size, 2, none⟩ = some (.string l) := ha.cell 2; have a3 : w2.cell? ⟨w.heap.size, 3, none⟩ = some (.string k) := ha.cell 3; have a4 : w2.cell? ⟨w.heap.size, 4, none⟩ = some (.string v) := ha.cell 4))
  clear B1 l1 l2 l3
  go_upto_region 5 with (((with_reducible refine (R.out _).mono ?_); rintro e w3 ⟨rfl, hb3⟩; replace ha := Whole.below (by first | (with_reducible exact ha) | (with_reducible exact ha.alloc _) | (with_reducible exact (ha.alloc _).alloc _) | (with_reducible exact ha.drewN _)) hb3 (by have := ha.lt; go_size); replace hB := below_next' (by first | (with_reducible exact hB) | (with_reducible exact hB.alloc hB.size _) | (with_reducible exact (hB.alloc hB.size _).alloc (hB.alloc hB.size _).size _) | exact below_drewN' hB _) hb3); (have hx := Whole.new w3 56 #[.int .i64 0, .int .i64 0, .string ByteArray.empty, .string ByteArray.empty, .string ByteArray.empty]))
  clear R
  replace ha := ha.alloc (.cells #[.int .i64 0, .int .i64 0, .string ByteArray.empty, .string ByteArray.empty, .string ByteArray.empty] 56)
  replace hB := hB.alloc hB.size (.cells #[.int .i64 0, .int .i64 0, .string ByteArray.empty, .string ByteArray.empty, .string ByteArray.empty] 56)
  generalize w3.alloc (.cells #[.int .i64 0, .int .i64 0, .string ByteArray.empty, .string ByteArray.empty, .string ByteArray.empty] 56) = W5 at *
  have a0 : W5.cell? ⟨w.heap.size, 0, none⟩ = some (.int .i64 c) := ha.cell 0
  have a1 : W5.cell? ⟨w.heap.size, 1, none⟩ = some (.int .i64 s) := ha.cell 1
  have a2 : W5.cell? ⟨w.heap.size, 2, none⟩ = some (.string l) := ha.cell 2
  have a3 : W5.cell? ⟨w.heap.size, 3, none⟩ = some (.string k) := ha.cell 3
  have a4 : W5.cell? ⟨w.heap.size, 4, none⟩ = some (.string v) := ha.cell 4
  go_cut [44] (fun p wc => p = .bool false ∧ Below W5.heap.size W5 wc)
  case first =>
    have hD := (Below.refl W5.heap.size W5).drew
    go_region_held3 (fun W : World => W.cell? ⟨w.heap.size, 0, none⟩ = some (.int .i64 c) ∧ W.cell? ⟨w.heap.size, 1, none⟩ = some (.int .i64 s) ∧ W.cell? ⟨w.heap.size, 2, none⟩ = some (.string l) ∧ W.cell? ⟨w.heap.size, 3, none⟩ = some (.string k) ∧ W.cell? ⟨w.heap.size, 4, none⟩ = some (.string v)) (first | exact ⟨a0, a1, a2, a3, a4⟩ | exact ⟨cell_keep a0 hD, cell_keep a1 hD, cell_keep a2 hD, cell_keep a3 hD, cell_keep a4 hD⟩ | go_keep) (first | (go_simp; (with_reducible refine (P.out _).mono ?_); rintro e w4 ⟨rfl, hb4⟩; replace hD := below_next' hD hb4) | (go_simp; (with_reducible refine (Q.out _).mono ?_); rintro e w5 ⟨rfl, hb5⟩; replace hD := below_next' hD hb5) | (go_simp; (with_reducible refine (B2.out _).mono ?_); rintro e w6 ⟨rfl, hb6⟩; replace hD := below_next' hD hb6))
    all_goals (go_wp2_with (fail); go_meet)
    all_goals exact ⟨rfl, hD⟩
  case rest =>
    obtain ⟨rfl, hbc⟩ := hcut
    replace ha := ha.below hbc ha.lt
    replace hx := hx.below hbc hx.lt
    replace hB := below_next' hB hbc
    clear a0 a1 a2 a3 a4
    go_upto_region 8 with (first | (first | ((with_reducible apply wl_loadW (ty := 56) ha Try.underlying56); rfl; rfl; rfl; kernel_rfl) | ((with_reducible apply wl_loadW (ty := 56) (ha.alloc _) Try.underlying56); rfl; rfl; rfl; kernel_rfl) | ((with_reducible apply wl_loadW (ty := 56) ((ha.alloc _).alloc _) Try.underlying56); rfl; rfl; rfl; kernel_rfl)) | ((with_reducible refine (Q.out _).mono ?_); rintro e w7 ⟨rfl, hb7⟩; replace ha := Whole.below (by first | (with_reducible exact ha) | (with_reducible exact ha.alloc _) | (with_reducible exact (ha.alloc _).alloc _) | (with_reducible exact ha.drewN _)) hb7 (by have := ha.lt; go_size); replace hx := Whole.below (by first | (with_reducible exact hx) | (with_reducible exact hx.alloc _) | (with_reducible exact (hx.alloc _).alloc _) | (with_reducible exact hx.drewN _)) hb7 (by have := hx.lt; go_size); replace hB := below_next' (by first | (with_reducible exact hB) | (with_reducible exact hB.alloc hB.size _) | (with_reducible exact (hB.alloc hB.size _).alloc (hB.alloc hB.size _).size _) | exact below_drewN' hB _) hb7))
    go_wp2_with (first | (first | ((with_reducible apply wl_loadW (ty := 56) hx Try.underlying56); rfl; rfl; rfl; kernel_rfl) | ((with_reducible apply wl_loadW (ty := 56) (hx.alloc _) Try.underlying56); rfl; rfl; rfl; kernel_rfl) | ((with_reducible apply wl_loadW (ty := 56) ((hx.alloc _).alloc _) Try.underlying56); rfl; rfl; rfl; kernel_rfl)))
    all_goals go_returns
    all_goals go_light
    all_goals exact ⟨ret_bool rfl, hB⟩
set_option maxHeartbeats 2000000 in
set_option maxRecDepth 100000 in
theorem wireRequests_other (r x : Rq) (w : World) (l1 : r.l.size ≤ 300) (l2 : r.k.size ≤ 300) (l3 : r.v.size ≤ 300) (hr : r.right = false) (e : readReq r.B = (x, 0)) (hx1 : x.right = true) (hx2 : x.B = r.B) : Calls Try.prog 12 #[.agg r.A] w fun e w' => e = .returned (.bool true) ∧ Below w.heap.size w w' := by
  have nba : ∀ (_ : x.c = r.c) (_ : x.s = r.s) (_ : x.l.toList = r.l.toList) (_ : x.k.toList = r.k.toList) (_ : x.v.toList = r.v.toList), False := by
    intro e1 e2 e3 e4 e5
    rw [toL_inj] at e3 e4 e5
    have : x = r := by cases x; cases r; simp only at e1 e2 e3 e4 e5; subst e1; subst e2; subst e3; subst e4; subst e5; rfl
    rw [this, hr] at hx1
    cases hx1
  have Q2 := fun W => refRight02_calls x.c x.s x.l x.k x.v W
  have hxx : Rq.right ⟨x.c, x.s, x.l, x.k, x.v⟩ = x.right := rfl
  have B1 := fun W => request_calls r W (by omega) (by omega) (by omega)
  have B2 := fun W => refRequest_calls r W (by omega) (by omega) (by omega)
  have R := fun W => readReq_calls r.B W
  have Q := fun W => refRight02_calls r.c r.s r.l r.k r.v W
  have P := fun W => right_calls r.c r.s r.l r.k r.v W
  have ha := Whole.new w 56 r.A
  have hB : Below w.heap.size w (w.alloc (.cells r.A 56)) := by go_grown
  obtain ⟨y, hy⟩ : ∃ y, r.B = y := ⟨_, rfl⟩
  have hrr : Rq.right ⟨r.c, r.s, r.l, r.k, r.v⟩ = r.right := rfl
  rw [e] at R
  rw [hy] at hx2
  simp only [hy, hrr, hr, hxx, hx1, hx2] at B1 B2 R Q P Q2
  obtain ⟨c', s', l', k', v'⟩ := x
  simp only at Q2 nba
  replace Q2 := Lib.hid Q2
  clear hx1 hx2 hxx
  obtain ⟨c, s, l, k, v⟩ := r
  unfold Rq.A at *
  simp only at l1 l2 l3 B1 B2 R Q P
  replace B1 := Lib.hid B1
  replace B2 := Lib.hid B2
  replace R := Lib.hid R
  replace Q := Lib.hid Q
  replace P := Lib.hid P
  clear hy hr hrr e
  simp only at nba
  replace nba := Lib.hid nba
  go_enter Try.func12, Try.ntmps12
  go_upto_region 4 with (first | (first | ((with_reducible apply wl_loadW (ty := 56) ha Try.underlying56); rfl; rfl; rfl; kernel_rfl) | ((with_reducible apply wl_loadW (ty := 56) (ha.alloc _) Try.underlying56); rfl; rfl; rfl; kernel_rfl) | ((with_reducible apply wl_loadW (ty := 56) ((ha.alloc _).alloc _) Try.underlying56); rfl; rfl; rfl; kernel_rfl)) | ((with_reducible refine (B1.out _).mono ?_); rintro e w1 ⟨rfl, hb1⟩; replace ha := Whole.below (by first | (with_reducible exact ha) | (with_reducible exact ha.alloc _) | (with_reducible exact (ha.alloc _).alloc _) | (with_reducible exact ha.drewN _)) hb1 (by have := ha.lt; go_size); replace hB := below_next' (by first | (with_reducible exact hB) | (with_reducible exact hB.alloc hB.size _) | (with_reducible exact (hB.alloc hB.size _).alloc (hB.alloc hB.size _).size _) | exact below_drewN' hB _) hb1) | (((with_reducible refine (awake02_calls _).mono ?_); rintro e w2 ⟨rfl, hb2⟩; replace ha := Whole.below (by first | (with_reducible exact ha) | (with_reducible exact ha.alloc _) | (with_reducible exact (ha.alloc _).alloc _) | (with_reducible exact ha.drewN _)) hb2 (by have := ha.lt; go_size); replace hB := below_next' (by first | (with_reducible exact hB) | (with_reducible exact hB.alloc hB.size _) | (with_reducible exact (hB.alloc hB.size _).alloc (hB.alloc hB.size _).size _) | exact below_drewN' hB _) hb2); have a2 : w2.cell? ⟨w.heap.size, 2, none⟩ = some (.string l) := ha.cell 2; have a3 : w2.cell? ⟨w.heap.size, 3, none⟩ = some (.string k) := ha.cell 3; have a4 : w2.cell? ⟨w.heap.size, 4, none⟩ = some (.string v) := ha.cell 4))
  clear B1 l1 l2 l3
  go_upto_region 5 with (((with_reducible refine (R.out _).mono ?_); rintro e w3 ⟨rfl, hb3⟩; replace ha := Whole.below (by first | (with_reducible exact ha) | (with_reducible exact ha.alloc _) | (with_reducible exact (ha.alloc _).alloc _) | (with_reducible exact ha.drewN _)) hb3 (by have := ha.lt; go_size); replace hB := below_next' (by first | (with_reducible exact hB) | (with_reducible exact hB.alloc hB.size _) | (with_reducible exact (hB.alloc hB.size _).alloc (hB.alloc hB.size _).size _) | exact below_drewN' hB _) hb3); (have hx := Whole.new w3 56 #[.int .i64 c', .int .i64 s', .string l', .string k', .string v']))
  clear R
  replace ha := ha.alloc (.cells #[.int .i64 c', .int .i64 s', .string l', .string k', .string v'] 56)
  replace hB := hB.alloc hB.size (.cells #[.int .i64 c', .int .i64 s', .string l', .string k', .string v'] 56)
  generalize w3.alloc (.cells #[.int .i64 c', .int .i64 s', .string l', .string k', .string v'] 56) = W5 at *
  have a0 : W5.cell? ⟨w.heap.size, 0, none⟩ = some (.int .i64 c) := ha.cell 0
  have a1 : W5.cell? ⟨w.heap.size, 1, none⟩ = some (.int .i64 s) := ha.cell 1
  have a2 : W5.cell? ⟨w.heap.size, 2, none⟩ = some (.string l) := ha.cell 2
  have a3 : W5.cell? ⟨w.heap.size, 3, none⟩ = some (.string k) := ha.cell 3
  have a4 : W5.cell? ⟨w.heap.size, 4, none⟩ = some (.string v) := ha.cell 4
  go_cut [44] (fun p wc => p = .bool false ∧ Below W5.heap.size W5 wc)
  case first =>
    have hD := (Below.refl W5.heap.size W5).drew
    go_region_held3 (fun W : World => W.cell? ⟨w.heap.size, 0, none⟩ = some (.int .i64 c) ∧ W.cell? ⟨w.heap.size, 1, none⟩ = some (.int .i64 s) ∧ W.cell? ⟨w.heap.size, 2, none⟩ = some (.string l) ∧ W.cell? ⟨w.heap.size, 3, none⟩ = some (.string k) ∧ W.cell? ⟨w.heap.size, 4, none⟩ = some (.string v)) (first | exact ⟨a0, a1, a2, a3, a4⟩ | exact ⟨cell_keep a0 hD, cell_keep a1 hD, cell_keep a2 hD, cell_keep a3 hD, cell_keep a4 hD⟩ | go_keep) (first | (go_simp; (with_reducible refine (P.out _).mono ?_); rintro e w4 ⟨rfl, hb4⟩; replace hD := below_next' hD hb4) | (go_simp; (with_reducible refine (Q.out _).mono ?_); rintro e w5 ⟨rfl, hb5⟩; replace hD := below_next' hD hb5) | (go_simp; (with_reducible refine (B2.out _).mono ?_); rintro e w6 ⟨rfl, hb6⟩; replace hD := below_next' hD hb6))
    all_goals (go_wp2_with (fail); go_meet)
    all_goals exact ⟨rfl, hD⟩
  case rest =>
    obtain ⟨rfl, hbc⟩ := hcut
    replace ha := ha.below hbc ha.lt
    replace hx := hx.below hbc hx.lt
    replace hB := below_next' hB hbc
    clear a0 a1 a2 a3 a4
    go_upto_region 8 with (first | (first | ((with_reducible apply wl_loadW (ty := 56) ha Try.underlying56); rfl; rfl; rfl; kernel_rfl) | ((with_reducible apply wl_loadW (ty := 56) (ha.alloc _) Try.underlying56); rfl; rfl; rfl; kernel_rfl) | ((with_reducible apply wl_loadW (ty := 56) ((ha.alloc _).alloc _) Try.underlying56); rfl; rfl; rfl; kernel_rfl)) | ((with_reducible refine (Q.out _).mono ?_); rintro e w7 ⟨rfl, hb7⟩; replace ha := Whole.below (by first | (with_reducible exact ha) | (with_reducible exact ha.alloc _) | (with_reducible exact (ha.alloc _).alloc _) | (with_reducible exact ha.drewN _)) hb7 (by have := ha.lt; go_size); replace hx := Whole.below (by first | (with_reducible exact hx) | (with_reducible exact hx.alloc _) | (with_reducible exact (hx.alloc _).alloc _) | (with_reducible exact hx.drewN _)) hb7 (by have := hx.lt; go_size); replace hB := below_next' (by first | (with_reducible exact hB) | (with_reducible exact hB.alloc hB.size _) | (with_reducible exact (hB.alloc hB.size _).alloc (hB.alloc hB.size _).size _) | exact below_drewN' hB _) hb7))
    go_wp2_with (first | (first | ((with_reducible apply wl_loadW (ty := 56) hx Try.underlying56); rfl; rfl; rfl; kernel_rfl) | ((with_reducible apply wl_loadW (ty := 56) (hx.alloc _) Try.underlying56); rfl; rfl; rfl; kernel_rfl) | ((with_reducible apply wl_loadW (ty := 56) ((hx.alloc _).alloc _) Try.underlying56); rfl; rfl; rfl; kernel_rfl)) | (first | ((with_reducible apply wl_loadW (ty := 56) ha Try.underlying56); rfl; rfl; rfl; kernel_rfl) | ((with_reducible apply wl_loadW (ty := 56) (ha.alloc _) Try.underlying56); rfl; rfl; rfl; kernel_rfl) | ((with_reducible apply wl_loadW (ty := 56) ((ha.alloc _).alloc _) Try.underlying56); rfl; rfl; rfl; kernel_rfl)) | ((with_reducible refine (Q2.out _).mono ?_); rintro e w8 ⟨rfl, hb8⟩; replace ha := Whole.below (by first | (with_reducible exact ha) | (with_reducible exact ha.alloc _) | (with_reducible exact (ha.alloc _).alloc _) | (with_reducible exact ha.drewN _)) hb8 (by have := ha.lt; go_size); replace hx := Whole.below (by first | (with_reducible exact hx) | (with_reducible exact hx.alloc _) | (with_reducible exact (hx.alloc _).alloc _) | (with_reducible exact hx.drewN _)) hb8 (by have := hx.lt; go_size); replace hB := below_next' (by first | (with_reducible exact hB) | (with_reducible exact hB.alloc hB.size _) | (with_reducible exact (hB.alloc hB.size _).alloc (hB.alloc hB.size _).size _) | exact below_drewN' hB _) hb8))
    all_goals (try (exfalso; refine nba.out ?_ ?_ ?_ ?_ ?_ <;> assumption))
    all_goals go_returns
    all_goals go_light
    all_goals exact ⟨ret_bool (by simp), hB⟩
set_option maxHeartbeats 2000000 in
set_option maxRecDepth 100000 in
theorem wireRequests_right (r : Rq) (w : World) (l1 : r.l.size ≤ 300) (l2 : r.k.size ≤ 300) (l3 : r.v.size ≤ 300) (hr : r.right = true) : Calls Try.prog 12 #[.agg r.A] w fun e w' => e = .returned (.bool true) ∧ Below w.heap.size w w' := by
  have e := readReq_right hr
  have B1 := fun W => request_calls r W (by omega) (by omega) (by omega)
  have B2 := fun W => refRequest_calls r W (by omega) (by omega) (by omega)
  have R := fun W => readReq_calls r.B W
  have Q := fun W => refRight02_calls r.c r.s r.l r.k r.v W
  have P := fun W => right_calls r.c r.s r.l r.k r.v W
  have ha := Whole.new w 56 r.A
  have hB : Below w.heap.size w (w.alloc (.cells r.A 56)) := by go_grown
  obtain ⟨y, hy⟩ : ∃ y, r.B = y := ⟨_, rfl⟩
  have hrr : Rq.right ⟨r.c, r.s, r.l, r.k, r.v⟩ = r.right := rfl
  rw [e] at R
  simp only [hy, hrr, hr] at B1 B2 R Q P
  obtain ⟨c, s, l, k, v⟩ := r
  unfold Rq.A at *
  simp only at l1 l2 l3 B1 B2 R Q P
  replace B1 := Lib.hid B1
  replace B2 := Lib.hid B2
  replace R := Lib.hid R
  replace Q := Lib.hid Q
  replace P := Lib.hid P
  clear hy hr hrr e
  go_enter Try.func12, Try.ntmps12
  go_upto_region 4 with (first | (first | ((with_reducible apply wl_loadW (ty := 56) ha Try.underlying56); rfl; rfl; rfl; kernel_rfl) | ((with_reducible apply wl_loadW (ty := 56) (ha.alloc _) Try.underlying56); rfl; rfl; rfl; kernel_rfl) | ((with_reducible apply wl_loadW (ty := 56) ((ha.alloc _).alloc _) Try.underlying56); rfl; rfl; rfl; kernel_rfl)) | ((with_reducible refine (B1.out _).mono ?_); rintro e w1 ⟨rfl, hb1⟩; replace ha := Whole.below (by first | (with_reducible exact ha) | (with_reducible exact ha.alloc _) | (with_reducible exact (ha.alloc _).alloc _) | (with_reducible exact ha.drewN _)) hb1 (by have := ha.lt; go_size); replace hB := below_next' (by first | (with_reducible exact hB) | (with_reducible exact hB.alloc hB.size _) | (with_reducible exact (hB.alloc hB.size _).alloc (hB.alloc hB.size _).size _) | exact below_drewN' hB _) hb1) | (((with_reducible refine (awake02_calls _).mono ?_); rintro e w2 ⟨rfl, hb2⟩; replace ha := Whole.below (by first | (with_reducible exact ha) | (with_reducible exact ha.alloc _) | (with_reducible exact (ha.alloc _).alloc _) | (with_reducible exact ha.drewN _)) hb2 (by have := ha.lt; go_size); replace hB := below_next' (by first | (with_reducible exact hB) | (with_reducible exact hB.alloc hB.size _) | (with_reducible exact (hB.alloc hB.size _).alloc (hB.alloc hB.size _).size _) | exact below_drewN' hB _) hb2); have a2 : w2.cell? ⟨w.heap.size, 2, none⟩ = some (.string l) := ha.cell 2; have a3 : w2.cell? ⟨w.heap.size, 3, none⟩ = some (.string k) := ha.cell 3; have a4 : w2.cell? ⟨w.heap.size, 4, none⟩ = some (.string v) := ha.cell 4))
  clear B1 l1 l2 l3
  go_upto_region 5 with (((with_reducible refine (R.out _).mono ?_); rintro e w3 ⟨rfl, hb3⟩; replace ha := Whole.below (by first | (with_reducible exact ha) | (with_reducible exact ha.alloc _) | (with_reducible exact (ha.alloc _).alloc _) | (with_reducible exact ha.drewN _)) hb3 (by have := ha.lt; go_size); replace hB := below_next' (by first | (with_reducible exact hB) | (with_reducible exact hB.alloc hB.size _) | (with_reducible exact (hB.alloc hB.size _).alloc (hB.alloc hB.size _).size _) | exact below_drewN' hB _) hb3); (have hx := Whole.new w3 56 #[.int .i64 c, .int .i64 s, .string l, .string k, .string v]))
  clear R
  replace ha := ha.alloc (.cells #[.int .i64 c, .int .i64 s, .string l, .string k, .string v] 56)
  replace hB := hB.alloc hB.size (.cells #[.int .i64 c, .int .i64 s, .string l, .string k, .string v] 56)
  generalize w3.alloc (.cells #[.int .i64 c, .int .i64 s, .string l, .string k, .string v] 56) = W5 at *
  have a0 : W5.cell? ⟨w.heap.size, 0, none⟩ = some (.int .i64 c) := ha.cell 0
  have a1 : W5.cell? ⟨w.heap.size, 1, none⟩ = some (.int .i64 s) := ha.cell 1
  have a2 : W5.cell? ⟨w.heap.size, 2, none⟩ = some (.string l) := ha.cell 2
  have a3 : W5.cell? ⟨w.heap.size, 3, none⟩ = some (.string k) := ha.cell 3
  have a4 : W5.cell? ⟨w.heap.size, 4, none⟩ = some (.string v) := ha.cell 4
  go_cut [44] (fun p wc => p = .bool false ∧ Below W5.heap.size W5 wc)
  case first =>
    have hD := (Below.refl W5.heap.size W5).drew
    go_region_held3 (fun W : World => W.cell? ⟨w.heap.size, 0, none⟩ = some (.int .i64 c) ∧ W.cell? ⟨w.heap.size, 1, none⟩ = some (.int .i64 s) ∧ W.cell? ⟨w.heap.size, 2, none⟩ = some (.string l) ∧ W.cell? ⟨w.heap.size, 3, none⟩ = some (.string k) ∧ W.cell? ⟨w.heap.size, 4, none⟩ = some (.string v)) (first | exact ⟨a0, a1, a2, a3, a4⟩ | exact ⟨cell_keep a0 hD, cell_keep a1 hD, cell_keep a2 hD, cell_keep a3 hD, cell_keep a4 hD⟩ | go_keep) (first | (go_simp; (with_reducible refine (P.out _).mono ?_); rintro e w4 ⟨rfl, hb4⟩; replace hD := below_next' hD hb4) | (go_simp; (with_reducible refine (Q.out _).mono ?_); rintro e w5 ⟨rfl, hb5⟩; replace hD := below_next' hD hb5) | (go_simp; (with_reducible refine (B2.out _).mono ?_); rintro e w6 ⟨rfl, hb6⟩; replace hD := below_next' hD hb6))
    all_goals (go_wp2_with (fail); go_meet)
    all_goals exact ⟨rfl, hD⟩
  case rest =>
    obtain ⟨rfl, hbc⟩ := hcut
    replace ha := ha.below hbc ha.lt
    replace hx := hx.below hbc hx.lt
    replace hB := below_next' hB hbc
    clear a0 a1 a2 a3 a4
    go_upto_region 9 with (first | (first | ((with_reducible apply wl_loadW (ty := 56) ha Try.underlying56); rfl; rfl; rfl; kernel_rfl) | ((with_reducible apply wl_loadW (ty := 56) (ha.alloc _) Try.underlying56); rfl; rfl; rfl; kernel_rfl) | ((with_reducible apply wl_loadW (ty := 56) ((ha.alloc _).alloc _) Try.underlying56); rfl; rfl; rfl; kernel_rfl)) | ((with_reducible refine (Q.out _).mono ?_); rintro e w7 ⟨rfl, hb7⟩; replace ha := Whole.below (by first | (with_reducible exact ha) | (with_reducible exact ha.alloc _) | (with_reducible exact (ha.alloc _).alloc _) | (with_reducible exact ha.drewN _)) hb7 (by have := ha.lt; go_size); replace hx := Whole.below (by first | (with_reducible exact hx) | (with_reducible exact hx.alloc _) | (with_reducible exact (hx.alloc _).alloc _) | (with_reducible exact hx.drewN _)) hb7 (by have := hx.lt; go_size); replace hB := below_next' (by first | (with_reducible exact hB) | (with_reducible exact hB.alloc hB.size _) | (with_reducible exact (hB.alloc hB.size _).alloc (hB.alloc hB.size _).size _) | exact below_drewN' hB _) hb7))
    go_wp2_with (first | (first | ((with_reducible apply wl_loadW (ty := 56) hx Try.underlying56); rfl; rfl; rfl; kernel_rfl) | ((with_reducible apply wl_loadW (ty := 56) (hx.alloc _) Try.underlying56); rfl; rfl; rfl; kernel_rfl) | ((with_reducible apply wl_loadW (ty := 56) ((hx.alloc _).alloc _) Try.underlying56); rfl; rfl; rfl; kernel_rfl)) | (first | ((with_reducible apply wl_loadW (ty := 56) ha Try.underlying56); rfl; rfl; rfl; kernel_rfl) | ((with_reducible apply wl_loadW (ty := 56) (ha.alloc _) Try.underlying56); rfl; rfl; rfl; kernel_rfl) | ((with_reducible apply wl_loadW (ty := 56) ((ha.alloc _).alloc _) Try.underlying56); rfl; rfl; rfl; kernel_rfl)))
    all_goals go_returns
    all_goals go_light
    all_goals exact ⟨ret_bool (by simp), hB⟩
theorem wireRequests_calls (r : Rq) (w : World) : Calls Try.prog 12 #[.agg r.A] w fun e w' => e = .returned (.bool true) ∧ Below w.heap.size w w' := by
  by_cases hl : r.l.size ≤ 300 ∧ r.k.size ≤ 300 ∧ r.v.size ≤ 300
  · cases hr : r.right
    · rcases req_cases r.B with e | ⟨x, e, h1, h2⟩
      · exact wireRequests_bad r w hl.1 hl.2.1 hl.2.2 hr e
      · exact wireRequests_other r x w hl.1 hl.2.1 hl.2.2 hr e h1 h2
    · exact wireRequests_right r w hl.1 hl.2.1 hl.2.2 hr
  · exact wireRequests_long r w hl
end Go.Proofs.Ytdohmkanpdhmaaa
