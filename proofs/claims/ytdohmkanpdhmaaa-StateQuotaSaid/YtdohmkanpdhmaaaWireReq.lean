/- The contract of wire.Request; the reference's right requests. Condition: texts of at most 2^61 bytes. -/
import Derived.Test.YtdohmkanpdhmaaaWire3
import Derived.Test.YtdohmkanpdhmaaaWirePlain
namespace Go.Proofs.Ytdohmkanpdhmaaa
open Go.RowKit
set_option linter.unusedVariables false
set_option linter.unusedSimpArgs false
set_option maxHeartbeats 4000000 in
set_option maxRecDepth 100000 in
theorem request_calls (r : Rq) (w : World) (hl : r.l.size ≤ 2305843009213693952) (hk : r.k.size ≤ 2305843009213693952) (hv : r.v.size ≤ 2305843009213693952) :
    Calls Try.prog 26 #[.agg r.A] w fun e w' => e = .returned (.string r.B) ∧ Below w.heap.size w w' := by
  obtain ⟨c, s, l, k, v⟩ := r
  simp only at hl hk hv
  have z1 := numB_size c
  have z2 := numB_size s
  have z3 := textB_size l
  have z4 := textB_size k
  have z5 := textB_size v
  have hw := Whole.new w 56 (Rq.mk c s l k v).A
  have hB0 : Below w.heap.size w (w.alloc (.cells (Rq.mk c s l k v).A 56)) := by go_grown
  generalize hW : w.alloc (.cells (Rq.mk c s l k v).A 56) = W0 at hw hB0
  have HW := Lib.hid hW
  clear hW
  have c0 : W0.cell? ⟨w.heap.size, 0, none⟩ = some (.int .i64 c) := hw.cell 0
  have c1 : W0.cell? ⟨w.heap.size, 1, none⟩ = some (.int .i64 s) := hw.cell 1
  have c2 : W0.cell? ⟨w.heap.size, 2, none⟩ = some (.string l) := hw.cell 2
  have c3 : W0.cell? ⟨w.heap.size, 3, none⟩ = some (.string k) := hw.cell 3
  have c4 : W0.cell? ⟨w.heap.size, 4, none⟩ = some (.string v) := hw.cell 4
  have hB := (Below.refl W0.heap.size W0).drew
  unfold Rq.A at HW ⊢
  have y1 : (9223372036854775807 < 9 + (l.size + 4)) = False := eq_false (by omega)
  have y2 : (9223372036854775807 < 9 + (l.size + 4) + (k.size + 4)) = False := eq_false (by omega)
  have y3 : (9223372036854775807 < 9 + (l.size + 4) + (k.size + 4) + (v.size + 4)) = False := eq_false (by omega)
  go_enter Try.func26, Try.ntmps26
  go_wp2
  rw [HW.out]
  go_region_held3 (fun W : World => W.cell? ⟨w.heap.size, 0, none⟩ = some (.int .i64 c) ∧ W.cell? ⟨w.heap.size, 1, none⟩ = some (.int .i64 s) ∧ W.cell? ⟨w.heap.size, 2, none⟩ = some (.string l) ∧ W.cell? ⟨w.heap.size, 3, none⟩ = some (.string k) ∧ W.cell? ⟨w.heap.size, 4, none⟩ = some (.string v)) (first | exact ⟨c0, c1, c2, c3, c4⟩ | exact ⟨j0, j1, j2, j3, j4⟩ | go_keep) (first | (go_simp; (with_reducible refine (number_calls _ _).mono ?_); rintro e w3 ⟨rfl, hb3⟩; replace hB := below_next' hB hb3; have j0 := cell_keep c0 hB; have j1 := cell_keep c1 hB; have j2 := cell_keep c2 hB; have j3 := cell_keep c3 hB; have j4 := cell_keep c4 hB; clear hb3) | (go_simp; (with_reducible refine (text_calls _ _ (by omega)).mono ?_); rintro e w3 ⟨rfl, hb3⟩; replace hB := below_next' hB hb3; have j0 := cell_keep c0 hB; have j1 := cell_keep c1 hB; have j2 := cell_keep c2 hB; have j3 := cell_keep c3 hB; have j4 := cell_keep c4 hB; clear hb3))
  all_goals go_wp2
  all_goals go_returns
  all_goals go_light
  all_goals exact ⟨rfl, below_next' hB0 hB⟩
theorem refRight02_calls (c s : Int) (l k v : ByteArray) (w : World) :
    Calls Try.prog 25 #[.agg #[.int .i64 c, .int .i64 s, .string l, .string k, .string v]] w fun e w' => e = .returned (.bool (Rq.right ⟨c, s, l, k, v⟩)) ∧ Below w.heap.size w w' := by
  have hl : l = ByteArray.empty ↔ l.size = 0 := ⟨fun h => by rw [h]; rfl, fun h => ByteArray.size_eq_zero_iff.1 h⟩
  replace hl := Lib.hid hl
  go_enter Try.func25, Try.ntmps25
  go_wp2
  all_goals go_returns
  all_goals go_light
  all_goals refine ⟨ret_bool ?_, by go_grown⟩
  all_goals (try simp only [nilL] at *)
  all_goals simp [Rq.right, emptyL, *]
  all_goals (first | done | (intros; omega) | (have hl0 : l.size ≠ 0 := fun h => ‹¬ l = ByteArray.empty› (hl.out.2 h); intros; first | omega | (simp_all [emptyL]; done) | (simp_all [emptyL]; omega) | (exfalso; simp_all [emptyL]; omega)) | trace_state)
end Go.Proofs.Ytdohmkanpdhmaaa
