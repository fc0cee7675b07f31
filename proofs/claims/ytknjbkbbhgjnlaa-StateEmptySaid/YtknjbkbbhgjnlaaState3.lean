/- State.Apply: a client's share, a full log, and what is taken. Conditions: at most 2^40 heads. -/
import Derived.Test.YtknjbkbbhgjnlaaState2
namespace Go.Proofs.Ytknjbkbbhgjnlaa
open Go.RowKit
set_option linter.unusedVariables false
set_option linter.unusedSimpArgs false
set_option maxHeartbeats 400000 in
set_option maxRecDepth 100000 in
theorem apply_quota (w : World) (s : ST) (k : Nat) (hk : k < 4) (rs : Int) (rl rk rv2 : ByteArray) (A B : Option Addr) (n cap m hc : Nat) (hR : (⟨k, rs, rl, rk, rv2⟩ : Rq).right = true) (hne : ¬ rs = (s.cl k).q) (hlt : ¬ rs < (s.cl k).q) (hq : 20 ≤ (s.cl k).n) :
    Calls Try.prog 38 #[.agg (s.A (.slice A n cap) (.slice B m hc)), .agg #[.int .i64 k, .int .i64 rs, .string rl, .string rk, .string rv2]] w fun e w' => e = .returned (.tuple #[.agg (s.A (.slice A n cap) (.slice B m hc)), .agg #[.int .i64 6, .int .i64 0, .int .i64 0]]) ∧ Below w.heap.size w w' := by
  obtain ⟨W, hW, h0, h1, h2, h3, hB, hsz⟩ := apply_blocks w (s.A (.slice A n cap) (.slice B m hc)) #[.int .i64 k, .int .i64 rs, .string rl, .string rk, .string rv2]
  have R := right_calls k rs rl rk rv2 W
  rw [hR] at R
  obtain ⟨c, hcc⟩ : ∃ c, s.cl k = c := ⟨_, rfl⟩
  have ec := fun (W : World) (H : Whole W w.heap.size 75 (s.A (.slice A n cap) (.slice B m hc))) => cl_at H hk
  simp only [hcc] at *
  clear hcc hR
  obtain ⟨l, c0, c1, c2, c3⟩ := s
  obtain ⟨cq, cn, ce, ci, ch⟩ := c
  simp only [ST.A] at h0 hW ec
  simp only [ST.A, Rp.A]
  replace R := Lib.hid R
  replace ec := Lib.hid ec
  skip
  go_enter Try.func38, Try.ntmps38
  go_wp2_with fail
  rw [← hW]
  clear hW
  go_upto_region 4 with (first | ((with_reducible refine R.out.mono ?_); rintro e w4 ⟨rfl, hb4⟩; replace h0 := Whole.below (by first | (with_reducible exact h0) | (with_reducible exact h0.alloc _) | (with_reducible exact (h0.alloc _).alloc _) | (with_reducible exact h0.drewN _)) hb4 (by have := h0.lt; go_size); replace h1 := Whole.below (by first | (with_reducible exact h1) | (with_reducible exact h1.alloc _) | (with_reducible exact (h1.alloc _).alloc _) | (with_reducible exact h1.drewN _)) hb4 (by have := h1.lt; go_size); replace h2 := Whole.below (by first | (with_reducible exact h2) | (with_reducible exact h2.alloc _) | (with_reducible exact (h2.alloc _).alloc _) | (with_reducible exact h2.drewN _)) hb4 (by have := h2.lt; go_size); replace h3 := Whole.below (by first | (with_reducible exact h3) | (with_reducible exact h3.alloc _) | (with_reducible exact (h3.alloc _).alloc _) | (with_reducible exact h3.drewN _)) hb4 (by have := h3.lt; go_size); replace hB := below_next' (by first | (with_reducible exact hB) | (with_reducible exact hB.alloc hB.size _) | (with_reducible exact (hB.alloc hB.size _).alloc (hB.alloc hB.size _).size _) | exact below_drewN' hB _) hb4; obtain ⟨e0, e1, e2, e3, e4⟩ := ec.out w4 h0; have b0 : w4.cell? ⟨w.heap.size + 1, 0, none⟩ = some (.int .i64 k) := h1.cell 0; have hsz4 := hb4.size) | (first | ((with_reducible apply wl_loadW (ty := 63) h1 Try.underlying63); rfl; rfl; rfl; kernel_rfl) | ((with_reducible apply wl_loadW (ty := 63) (h1.alloc _) Try.underlying63); rfl; rfl; rfl; kernel_rfl) | ((with_reducible apply wl_loadW (ty := 63) ((h1.alloc _).alloc _) Try.underlying63); rfl; rfl; rfl; kernel_rfl)) | fail)
  clear e0 e1 e2 e3 e4 b0 ec R
  have h6 := Whole.new w4 71 #[.int .i64 cq, .int .i64 cn, .int .i64 ce, .int .i64 ci, .int .i64 ch]
  replace h0 := h0.alloc (.cells #[.int .i64 cq, .int .i64 cn, .int .i64 ce, .int .i64 ci, .int .i64 ch] 71)
  replace h1 := h1.alloc (.cells #[.int .i64 cq, .int .i64 cn, .int .i64 ce, .int .i64 ci, .int .i64 ch] 71)
  replace h2 := h2.alloc (.cells #[.int .i64 cq, .int .i64 cn, .int .i64 ce, .int .i64 ci, .int .i64 ch] 71)
  replace h3 := h3.alloc (.cells #[.int .i64 cq, .int .i64 cn, .int .i64 ce, .int .i64 ci, .int .i64 ch] 71)
  replace hB := hB.alloc hB.size (.cells #[.int .i64 cq, .int .i64 cn, .int .i64 ce, .int .i64 ci, .int .i64 ch] 71)
  have hsz5 : w4.heap.size < (w4.alloc (.cells #[.int .i64 cq, .int .i64 cn, .int .i64 ce, .int .i64 ci, .int .i64 ch] 71)).heap.size := by simp
  generalize w4.alloc (.cells #[.int .i64 cq, .int .i64 cn, .int .i64 ce, .int .i64 ci, .int .i64 ch] 71) = W5 at *
  have b0 : W5.cell? ⟨w.heap.size + 1, 0, none⟩ = some (.int .i64 k) := h1.cell 0
  have b1 : W5.cell? ⟨w.heap.size + 1, 1, none⟩ = some (.int .i64 rs) := h1.cell 1
  have d0 : W5.cell? ⟨w4.heap.size, 0, none⟩ = some (.int .i64 cq) := h6.cell 0
  have d1 : W5.cell? ⟨w4.heap.size, 1, none⟩ = some (.int .i64 cn) := h6.cell 1
  have q1 : (rs = cq) = False := eq_false (by omega)
  have q2 : (rs < cq) = False := eq_false (by omega)
  have q3 : ((20:Int) ≤ cn) = True := eq_true (by omega)
  go_wp2_with (first | (first | ((with_reducible apply wl_loadW (ty := 75) h0 Try.underlying75); rfl; rfl; rfl; kernel_rfl) | ((with_reducible apply wl_loadW (ty := 75) (h0.alloc _) Try.underlying75); rfl; rfl; rfl; kernel_rfl) | ((with_reducible apply wl_loadW (ty := 75) ((h0.alloc _).alloc _) Try.underlying75); rfl; rfl; rfl; kernel_rfl)) | (((with_reducible apply wl_storeW (ty := 75) h2); rfl; rfl; rfl; kernel_rfl; rfl; rfl; intro w5 hs5 hg5 hz5); have j3 := h3.only hg5 (by simp)) | ((with_reducible apply wl_storeW (ty := 69) j3); rfl; rfl; rfl; kernel_rfl; rfl; rfl; intro w6 hs6 hg6 hz6))
  refine bodyPost_ret (res_cell_cell rfl _ _ _ _ _ _ _ _ _ _ rfl rfl (hs5.only hg6 (by simp)) hs6 Try.underlying75 rfl (by kernel_rfl) Try.underlying69 rfl (by kernel_rfl)) rfl ?_
  go_light
  exact ⟨rfl, below_only' (below_only' hB hg5 (by omega)) hg6 (by omega)⟩
set_option maxHeartbeats 400000 in
set_option maxRecDepth 100000 in
theorem apply_full (w : World) (s : ST) (k : Nat) (hk : k < 4) (rs : Int) (rl rk rv2 : ByteArray) (A B : Option Addr) (n cap m hc : Nat) (hR : (⟨k, rs, rl, rk, rv2⟩ : Rq).right = true) (hne : ¬ rs = (s.cl k).q) (hlt : ¬ rs < (s.cl k).q) (hq : ¬ 20 ≤ (s.cl k).n) (hn : 64 ≤ n) :
    Calls Try.prog 38 #[.agg (s.A (.slice A n cap) (.slice B m hc)), .agg #[.int .i64 k, .int .i64 rs, .string rl, .string rk, .string rv2]] w fun e w' => e = .returned (.tuple #[.agg (s.A (.slice A n cap) (.slice B m hc)), .agg #[.int .i64 10, .int .i64 0, .int .i64 0]]) ∧ Below w.heap.size w w' := by
  obtain ⟨W, hW, h0, h1, h2, h3, hB, hsz⟩ := apply_blocks w (s.A (.slice A n cap) (.slice B m hc)) #[.int .i64 k, .int .i64 rs, .string rl, .string rk, .string rv2]
  have R := right_calls k rs rl rk rv2 W
  rw [hR] at R
  obtain ⟨c, hcc⟩ : ∃ c, s.cl k = c := ⟨_, rfl⟩
  have ec := fun (W : World) (H : Whole W w.heap.size 75 (s.A (.slice A n cap) (.slice B m hc))) => cl_at H hk
  simp only [hcc] at *
  clear hcc hR
  obtain ⟨l, c0, c1, c2, c3⟩ := s
  obtain ⟨cq, cn, ce, ci, ch⟩ := c
  simp only [ST.A] at h0 hW ec
  simp only [ST.A, Rp.A]
  replace R := Lib.hid R
  replace ec := Lib.hid ec
  skip
  go_enter Try.func38, Try.ntmps38
  go_wp2_with fail
  rw [← hW]
  clear hW
  go_upto_region 4 with (first | ((with_reducible refine R.out.mono ?_); rintro e w4 ⟨rfl, hb4⟩; replace h0 := Whole.below (by first | (with_reducible exact h0) | (with_reducible exact h0.alloc _) | (with_reducible exact (h0.alloc _).alloc _) | (with_reducible exact h0.drewN _)) hb4 (by have := h0.lt; go_size); replace h1 := Whole.below (by first | (with_reducible exact h1) | (with_reducible exact h1.alloc _) | (with_reducible exact (h1.alloc _).alloc _) | (with_reducible exact h1.drewN _)) hb4 (by have := h1.lt; go_size); replace h2 := Whole.below (by first | (with_reducible exact h2) | (with_reducible exact h2.alloc _) | (with_reducible exact (h2.alloc _).alloc _) | (with_reducible exact h2.drewN _)) hb4 (by have := h2.lt; go_size); replace h3 := Whole.below (by first | (with_reducible exact h3) | (with_reducible exact h3.alloc _) | (with_reducible exact (h3.alloc _).alloc _) | (with_reducible exact h3.drewN _)) hb4 (by have := h3.lt; go_size); replace hB := below_next' (by first | (with_reducible exact hB) | (with_reducible exact hB.alloc hB.size _) | (with_reducible exact (hB.alloc hB.size _).alloc (hB.alloc hB.size _).size _) | exact below_drewN' hB _) hb4; obtain ⟨e0, e1, e2, e3, e4⟩ := ec.out w4 h0; have b0 : w4.cell? ⟨w.heap.size + 1, 0, none⟩ = some (.int .i64 k) := h1.cell 0; have hsz4 := hb4.size) | (first | ((with_reducible apply wl_loadW (ty := 63) h1 Try.underlying63); rfl; rfl; rfl; kernel_rfl) | ((with_reducible apply wl_loadW (ty := 63) (h1.alloc _) Try.underlying63); rfl; rfl; rfl; kernel_rfl) | ((with_reducible apply wl_loadW (ty := 63) ((h1.alloc _).alloc _) Try.underlying63); rfl; rfl; rfl; kernel_rfl)) | fail)
  clear e0 e1 e2 e3 e4 b0 ec R
  have h6 := Whole.new w4 71 #[.int .i64 cq, .int .i64 cn, .int .i64 ce, .int .i64 ci, .int .i64 ch]
  replace h0 := h0.alloc (.cells #[.int .i64 cq, .int .i64 cn, .int .i64 ce, .int .i64 ci, .int .i64 ch] 71)
  replace h1 := h1.alloc (.cells #[.int .i64 cq, .int .i64 cn, .int .i64 ce, .int .i64 ci, .int .i64 ch] 71)
  replace h2 := h2.alloc (.cells #[.int .i64 cq, .int .i64 cn, .int .i64 ce, .int .i64 ci, .int .i64 ch] 71)
  replace h3 := h3.alloc (.cells #[.int .i64 cq, .int .i64 cn, .int .i64 ce, .int .i64 ci, .int .i64 ch] 71)
  replace hB := hB.alloc hB.size (.cells #[.int .i64 cq, .int .i64 cn, .int .i64 ce, .int .i64 ci, .int .i64 ch] 71)
  have hsz5 : w4.heap.size < (w4.alloc (.cells #[.int .i64 cq, .int .i64 cn, .int .i64 ce, .int .i64 ci, .int .i64 ch] 71)).heap.size := by simp
  generalize w4.alloc (.cells #[.int .i64 cq, .int .i64 cn, .int .i64 ce, .int .i64 ci, .int .i64 ch] 71) = W5 at *
  have b0 : W5.cell? ⟨w.heap.size + 1, 0, none⟩ = some (.int .i64 k) := h1.cell 0
  have b1 : W5.cell? ⟨w.heap.size + 1, 1, none⟩ = some (.int .i64 rs) := h1.cell 1
  have d0 : W5.cell? ⟨w4.heap.size, 0, none⟩ = some (.int .i64 cq) := h6.cell 0
  have d1 : W5.cell? ⟨w4.heap.size, 1, none⟩ = some (.int .i64 cn) := h6.cell 1
  have q1 : (rs = cq) = False := eq_false (by omega)
  have q2 : (rs < cq) = False := eq_false (by omega)
  have q3 : ((20:Int) ≤ cn) = False := eq_false (by omega)
  have q4 : ((64:Int) ≤ (n:Int)) = True := eq_true (by omega)
  have x0 : W5.cell? ⟨w.heap.size, 0, none⟩ = some (.slice A n cap) := h0.cell 0
  go_wp2_with (first | (first | ((with_reducible apply wl_loadW (ty := 75) h0 Try.underlying75); rfl; rfl; rfl; kernel_rfl) | ((with_reducible apply wl_loadW (ty := 75) (h0.alloc _) Try.underlying75); rfl; rfl; rfl; kernel_rfl) | ((with_reducible apply wl_loadW (ty := 75) ((h0.alloc _).alloc _) Try.underlying75); rfl; rfl; rfl; kernel_rfl)) | (((with_reducible apply wl_storeW (ty := 75) h2); rfl; rfl; rfl; kernel_rfl; rfl; rfl; intro w5 hs5 hg5 hz5); have j3 := h3.only hg5 (by simp)) | ((with_reducible apply wl_storeW (ty := 69) j3); rfl; rfl; rfl; kernel_rfl; rfl; rfl; intro w6 hs6 hg6 hz6))
  refine bodyPost_ret (res_cell_cell rfl _ _ _ _ _ _ _ _ _ _ rfl rfl (hs5.only hg6 (by simp)) hs6 Try.underlying75 rfl (by kernel_rfl) Try.underlying69 rfl (by kernel_rfl)) rfl ?_
  go_light
  exact ⟨rfl, below_only' (below_only' hB hg5 (by omega)) hg6 (by omega)⟩
end Go.Proofs.Ytknjbkbbhgjnlaa
