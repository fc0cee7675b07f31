/- State.Apply: what it refuses. Conditions: none. -/
import Derived.Test.YtknjbkbbhgjnlaaState1
import Derived.Test.YtknjbkbbhgjnlaaToolA
namespace Go.Proofs.Ytknjbkbbhgjnlaa
open Go.RowKit
set_option linter.unusedVariables false
set_option linter.unusedSimpArgs false
section
variable {P : Program}
theorem res_cell_cell {fn : Func} {p q : Tmp} {ty ty2 : TypeId} (h : fn.results = #[.cell p ty, .cell q ty2]) (tmps : Array Value) (w : World) (g g2 : Nat) (t t2 : TypeId) (cs cs2 : Array Value) (d d2 : TypeDesc)
    (hp : tmps.getD p undef = .pointer (some ⟨g, 0, none⟩)) (hq : tmps.getD q undef = .pointer (some ⟨g2, 0, none⟩)) (hg : Whole w g t cs) (hg2 : Whole w g2 t2 cs2)
    (hu : P.underlying ty = some d) (hd : (match d with | .struct _ | .array _ _ => true | _ => false) = true) (hi : (P.info? ty).map (·.size) = some cs.size)
    (hu2 : P.underlying ty2 = some d2) (hd2 : (match d2 with | .struct _ | .array _ _ => true | _ => false) = true) (hi2 : (P.info? ty2).map (·.size) = some cs2.size) :
    (results fn tmps).run P w = .ok (.tuple #[.agg cs, .agg cs2]) w := by
  have hp' : tmps[p]?.getD undef = .pointer (some ⟨g, 0, none⟩) := by simpa using hp
  have hq' : tmps[q]?.getD undef = .pointer (some ⟨g2, 0, none⟩) := by simpa using hq
  simp [results, h, hp', hq', asAddr, run_loadVar_row w g t ty cs (0, 0) d hg hu hd hi, run_loadVar_row w g2 t2 ty2 cs2 (0, 0) d2 hg2 hu2 hd2 hi2]
end
/-- What the four blocks of a call of Apply hold. -/
theorem apply_blocks (w : World) (a b : Array Value) :
    ∃ W, W = (((w.alloc (.cells a 75)).alloc (.cells b 63)).alloc (.cells #[.slice none 0 0, .int .i64 0, .int .i64 0, .int .i64 0, .int .i64 0, .int .i64 0, .int .i64 0, .int .i64 0, .int .i64 0, .int .i64 0, .int .i64 0, .int .i64 0, .int .i64 0, .int .i64 0, .int .i64 0, .int .i64 0, .int .i64 0, .int .i64 0, .int .i64 0, .int .i64 0, .int .i64 0, .slice none 0 0] 75)).alloc (.cells #[.int .i64 0, .int .i64 0, .int .i64 0] 69) ∧
      Whole W w.heap.size 75 a ∧ Whole W (w.heap.size + 1) 63 b ∧ Whole W (w.heap.size + 1 + 1) 75 #[.slice none 0 0, .int .i64 0, .int .i64 0, .int .i64 0, .int .i64 0, .int .i64 0, .int .i64 0, .int .i64 0, .int .i64 0, .int .i64 0, .int .i64 0, .int .i64 0, .int .i64 0, .int .i64 0, .int .i64 0, .int .i64 0, .int .i64 0, .int .i64 0, .int .i64 0, .int .i64 0, .int .i64 0, .slice none 0 0] ∧ Whole W (w.heap.size + 1 + 1 + 1) 69 #[.int .i64 0, .int .i64 0, .int .i64 0] ∧ Below w.heap.size w W ∧ w.heap.size + 4 = W.heap.size := by
  refine ⟨_, rfl, (((Whole.new w _ _).alloc _).alloc _).alloc _, (((Whole.new1 w _ _ _)).alloc _).alloc _, ?_, ?_, ((((Below.refl _ _).alloc (Nat.le_refl _) _).alloc (by simp) _).alloc (by simp; omega) _).alloc (by simp; omega) _, by simp⟩
  · have := Whole.new1 (w.alloc (.cells a 75)) (.cells b 63) 75 #[.slice none 0 0, .int .i64 0, .int .i64 0, .int .i64 0, .int .i64 0, .int .i64 0, .int .i64 0, .int .i64 0, .int .i64 0, .int .i64 0, .int .i64 0, .int .i64 0, .int .i64 0, .int .i64 0, .int .i64 0, .int .i64 0, .int .i64 0, .int .i64 0, .int .i64 0, .int .i64 0, .int .i64 0, .slice none 0 0]
    rw [show (w.alloc (.cells a 75)).heap.size + 1 = w.heap.size + 1 + 1 by simp] at this
    exact this.alloc _
  · have := Whole.new1 ((w.alloc (.cells a 75)).alloc (.cells b 63)) (.cells #[.slice none 0 0, .int .i64 0, .int .i64 0, .int .i64 0, .int .i64 0, .int .i64 0, .int .i64 0, .int .i64 0, .int .i64 0, .int .i64 0, .int .i64 0, .int .i64 0, .int .i64 0, .int .i64 0, .int .i64 0, .int .i64 0, .int .i64 0, .int .i64 0, .int .i64 0, .int .i64 0, .int .i64 0, .slice none 0 0] 75) 69 #[.int .i64 0, .int .i64 0, .int .i64 0]
    rw [show ((w.alloc (.cells a 75)).alloc (.cells b 63)).heap.size + 1 = w.heap.size + 1 + 1 + 1 by simp] at this
    exact this
set_option maxHeartbeats 400000 in
set_option maxRecDepth 100000 in
theorem apply_bad (w : World) (s : ST) (r : Rq) (A B : Option Addr) (n cap m hc : Nat) (hR : r.right = false) :
    Calls Try.prog 38 #[.agg (s.A (.slice A n cap) (.slice B m hc)), .agg r.A] w fun e w' => e = .returned (.tuple #[.agg (s.A (.slice A n cap) (.slice B m hc)), .agg #[.int .i64 1, .int .i64 0, .int .i64 0]]) ∧ Below w.heap.size w w' := by
  obtain ⟨W, hW, h0, h1, h2, h3, hB, hsz⟩ := apply_blocks w (s.A (.slice A n cap) (.slice B m hc)) r.A
  have R := right_calls r.c r.s r.l r.k r.v W
  rw [hR] at R
  obtain ⟨l, c0, c1, c2, c3⟩ := s
  obtain ⟨rc, rs, rl, rk, rv2⟩ := r
  simp only [ST.A, Rq.A] at h0 h1 R hW
  simp only [ST.A, Rq.A]
  replace R := Lib.hid R
  clear hR
  go_enter Try.func38, Try.ntmps38
  go_wp2_with fail
  rw [← hW]
  clear hW
  go_wp2_with (first | ((with_reducible refine R.out.mono ?_); rintro e w4 ⟨rfl, hb4⟩; replace h0 := Whole.below (by first | (with_reducible exact h0) | (with_reducible exact h0.alloc _) | (with_reducible exact (h0.alloc _).alloc _) | (with_reducible exact h0.drewN _)) hb4 (by have := h0.lt; go_size); replace h2 := Whole.below (by first | (with_reducible exact h2) | (with_reducible exact h2.alloc _) | (with_reducible exact (h2.alloc _).alloc _) | (with_reducible exact h2.drewN _)) hb4 (by have := h2.lt; go_size); replace h3 := Whole.below (by first | (with_reducible exact h3) | (with_reducible exact h3.alloc _) | (with_reducible exact (h3.alloc _).alloc _) | (with_reducible exact h3.drewN _)) hb4 (by have := h3.lt; go_size); replace hB := below_next' (by first | (with_reducible exact hB) | (with_reducible exact hB.alloc hB.size _) | (with_reducible exact (hB.alloc hB.size _).alloc (hB.alloc hB.size _).size _) | exact below_drewN' hB _) hb4) | (first | ((with_reducible apply wl_loadW (ty := 63) h1 Try.underlying63); rfl; rfl; rfl; kernel_rfl) | ((with_reducible apply wl_loadW (ty := 63) (h1.alloc _) Try.underlying63); rfl; rfl; rfl; kernel_rfl) | ((with_reducible apply wl_loadW (ty := 63) ((h1.alloc _).alloc _) Try.underlying63); rfl; rfl; rfl; kernel_rfl)) | (first | ((with_reducible apply wl_loadW (ty := 75) h0 Try.underlying75); rfl; rfl; rfl; kernel_rfl) | ((with_reducible apply wl_loadW (ty := 75) (h0.alloc _) Try.underlying75); rfl; rfl; rfl; kernel_rfl) | ((with_reducible apply wl_loadW (ty := 75) ((h0.alloc _).alloc _) Try.underlying75); rfl; rfl; rfl; kernel_rfl)) | (((with_reducible apply wl_storeW (ty := 75) h2); rfl; rfl; rfl; kernel_rfl; rfl; rfl; intro w5 hs5 hg5 hz5); have j3 := h3.only hg5 (by simp)) | ((with_reducible apply wl_storeW (ty := 69) j3); rfl; rfl; rfl; kernel_rfl; rfl; rfl; intro w6 hs6 hg6 hz6))
  refine bodyPost_ret (res_cell_cell rfl _ _ _ _ _ _ _ _ _ _ rfl rfl (hs5.only hg6 (by simp)) hs6 Try.underlying75 rfl (by kernel_rfl) Try.underlying69 rfl (by kernel_rfl)) rfl ?_
  go_light
  exact ⟨rfl, below_only' (below_only' hB hg5 (by omega)) hg6 (by omega)⟩
theorem cl_at {W : World} {g : Nat} {s : ST} {rv hv : Value} (H : Whole W g 75 (s.A rv hv)) {k : Nat} (hk : k < 4) :
    W.cell? ⟨g, 1 + k * 5, none⟩ = some (.int .i64 (s.cl k).q) ∧ W.cell? ⟨g, 1 + k * 5 + 1, none⟩ = some (.int .i64 (s.cl k).n) ∧ W.cell? ⟨g, 1 + k * 5 + 2, none⟩ = some (.int .i64 (s.cl k).r.e) ∧ W.cell? ⟨g, 1 + k * 5 + 3, none⟩ = some (.int .i64 (s.cl k).r.i) ∧ W.cell? ⟨g, 1 + k * 5 + 4, none⟩ = some (.int .i64 (s.cl k).r.h) := by
  match k, hk with
  | 0, _ => exact ⟨H.cell (1 + 0 * 5), H.cell (1 + 0 * 5 + 1), H.cell (1 + 0 * 5 + 2), H.cell (1 + 0 * 5 + 3), H.cell (1 + 0 * 5 + 4)⟩
  | 1, _ => exact ⟨H.cell (1 + 1 * 5), H.cell (1 + 1 * 5 + 1), H.cell (1 + 1 * 5 + 2), H.cell (1 + 1 * 5 + 3), H.cell (1 + 1 * 5 + 4)⟩
  | 2, _ => exact ⟨H.cell (1 + 2 * 5), H.cell (1 + 2 * 5 + 1), H.cell (1 + 2 * 5 + 2), H.cell (1 + 2 * 5 + 3), H.cell (1 + 2 * 5 + 4)⟩
  | 3, _ => exact ⟨H.cell (1 + 3 * 5), H.cell (1 + 3 * 5 + 1), H.cell (1 + 3 * 5 + 2), H.cell (1 + 3 * 5 + 3), H.cell (1 + 3 * 5 + 4)⟩
set_option maxHeartbeats 400000 in
set_option maxRecDepth 100000 in
theorem apply_old (w : World) (s : ST) (k : Nat) (hk : k < 4) (rs : Int) (rl rk rv2 : ByteArray) (A B : Option Addr) (n cap m hc : Nat) (hR : (⟨k, rs, rl, rk, rv2⟩ : Rq).right = true) (hne : ¬ rs = (s.cl k).q) (hlt : rs < (s.cl k).q) :
    Calls Try.prog 38 #[.agg (s.A (.slice A n cap) (.slice B m hc)), .agg #[.int .i64 k, .int .i64 rs, .string rl, .string rk, .string rv2]] w fun e w' => e = .returned (.tuple #[.agg (s.A (.slice A n cap) (.slice B m hc)), .agg #[.int .i64 7, .int .i64 0, .int .i64 0]]) ∧ Below w.heap.size w w' := by
  obtain ⟨W, hW, h0, h1, h2, h3, hB, hsz⟩ := apply_blocks w (s.A (.slice A n cap) (.slice B m hc)) #[.int .i64 k, .int .i64 rs, .string rl, .string rk, .string rv2]
  have R := right_calls k rs rl rk rv2 W
  rw [hR] at R
  obtain ⟨c, hcc⟩ : ∃ c, s.cl k = c := ⟨_, rfl⟩
  have ec := fun (W : World) (H : Whole W w.heap.size 75 (s.A (.slice A n cap) (.slice B m hc))) => cl_at H hk
  simp only [hcc] at *
  clear hcc hR
  obtain ⟨l, c0, c1, c2, c3⟩ := s
  obtain ⟨cq, cn, ce, ci, ch⟩ := c
  simp only [ST.A] at h0 hW ec
  simp only [ST.A, Rp.A]
  replace R := Lib.hid R
  replace ec := Lib.hid ec
  replace hne := Lib.hid hne
  go_enter Try.func38, Try.ntmps38
  go_wp2_with fail
  rw [← hW]
  clear hW
  go_upto_region 4 with (first | ((with_reducible refine R.out.mono ?_); rintro e w4 ⟨rfl, hb4⟩; replace h0 := Whole.below (by first | (with_reducible exact h0) | (with_reducible exact h0.alloc _) | (with_reducible exact (h0.alloc _).alloc _) | (with_reducible exact h0.drewN _)) hb4 (by have := h0.lt; go_size); replace h1 := Whole.below (by first | (with_reducible exact h1) | (with_reducible exact h1.alloc _) | (with_reducible exact (h1.alloc _).alloc _) | (with_reducible exact h1.drewN _)) hb4 (by have := h1.lt; go_size); replace h2 := Whole.below (by first | (with_reducible exact h2) | (with_reducible exact h2.alloc _) | (with_reducible exact (h2.alloc _).alloc _) | (with_reducible exact h2.drewN _)) hb4 (by have := h2.lt; go_size); replace h3 := Whole.below (by first | (with_reducible exact h3) | (with_reducible exact h3.alloc _) | (with_reducible exact (h3.alloc _).alloc _) | (with_reducible exact h3.drewN _)) hb4 (by have := h3.lt; go_size); replace hB := below_next' (by first | (with_reducible exact hB) | (with_reducible exact hB.alloc hB.size _) | (with_reducible exact (hB.alloc hB.size _).alloc (hB.alloc hB.size _).size _) | exact below_drewN' hB _) hb4; obtain ⟨e0, e1, e2, e3, e4⟩ := ec.out w4 h0; have b0 : w4.cell? ⟨w.heap.size + 1, 0, none⟩ = some (.int .i64 k) := h1.cell 0; have hsz4 := hb4.size) | (first | ((with_reducible apply wl_loadW (ty := 63) h1 Try.underlying63); rfl; rfl; rfl; kernel_rfl) | ((with_reducible apply wl_loadW (ty := 63) (h1.alloc _) Try.underlying63); rfl; rfl; rfl; kernel_rfl) | ((with_reducible apply wl_loadW (ty := 63) ((h1.alloc _).alloc _) Try.underlying63); rfl; rfl; rfl; kernel_rfl)) | fail)
  clear e0 e1 e2 e3 e4 b0 ec R
  have h6 := Whole.new w4 71 #[.int .i64 cq, .int .i64 cn, .int .i64 ce, .int .i64 ci, .int .i64 ch]
  replace h0 := h0.alloc (.cells #[.int .i64 cq, .int .i64 cn, .int .i64 ce, .int .i64 ci, .int .i64 ch] 71)
  replace h1 := h1.alloc (.cells #[.int .i64 cq, .int .i64 cn, .int .i64 ce, .int .i64 ci, .int .i64 ch] 71)
  replace h2 := h2.alloc (.cells #[.int .i64 cq, .int .i64 cn, .int .i64 ce, .int .i64 ci, .int .i64 ch] 71)
  replace h3 := h3.alloc (.cells #[.int .i64 cq, .int .i64 cn, .int .i64 ce, .int .i64 ci, .int .i64 ch] 71)
  replace hB := hB.alloc hB.size (.cells #[.int .i64 cq, .int .i64 cn, .int .i64 ce, .int .i64 ci, .int .i64 ch] 71)
  have hsz5 : w4.heap.size < (w4.alloc (.cells #[.int .i64 cq, .int .i64 cn, .int .i64 ce, .int .i64 ci, .int .i64 ch] 71)).heap.size := by simp
  generalize w4.alloc (.cells #[.int .i64 cq, .int .i64 cn, .int .i64 ce, .int .i64 ci, .int .i64 ch] 71) = W5 at *
  have b0 : W5.cell? ⟨w.heap.size + 1, 0, none⟩ = some (.int .i64 k) := h1.cell 0
  have b1 : W5.cell? ⟨w.heap.size + 1, 1, none⟩ = some (.int .i64 rs) := h1.cell 1
  have d0 : W5.cell? ⟨w4.heap.size, 0, none⟩ = some (.int .i64 cq) := h6.cell 0
  have d1 : W5.cell? ⟨w4.heap.size, 1, none⟩ = some (.int .i64 cn) := h6.cell 1
  have q1 : (rs = cq) = False := eq_false hne.out
  have q2 : (rs < cq) = True := eq_true hlt
  go_wp2_with (first | (first | ((with_reducible apply wl_loadW (ty := 75) h0 Try.underlying75); rfl; rfl; rfl; kernel_rfl) | ((with_reducible apply wl_loadW (ty := 75) (h0.alloc _) Try.underlying75); rfl; rfl; rfl; kernel_rfl) | ((with_reducible apply wl_loadW (ty := 75) ((h0.alloc _).alloc _) Try.underlying75); rfl; rfl; rfl; kernel_rfl)) | (((with_reducible apply wl_storeW (ty := 75) h2); rfl; rfl; rfl; kernel_rfl; rfl; rfl; intro w5 hs5 hg5 hz5); have j3 := h3.only hg5 (by simp)) | ((with_reducible apply wl_storeW (ty := 69) j3); rfl; rfl; rfl; kernel_rfl; rfl; rfl; intro w6 hs6 hg6 hz6))
  refine bodyPost_ret (res_cell_cell rfl _ _ _ _ _ _ _ _ _ _ rfl rfl (hs5.only hg6 (by simp)) hs6 Try.underlying75 rfl (by kernel_rfl) Try.underlying69 rfl (by kernel_rfl)) rfl ?_
  go_light
  exact ⟨rfl, below_only' (below_only' hB hg5 (by omega)) hg6 (by omega)⟩
set_option maxHeartbeats 400000 in
set_option maxRecDepth 100000 in
theorem apply_same (w : World) (s : ST) (k : Nat) (hk : k < 4) (rs : Int) (rl rk rv2 : ByteArray) (A B : Option Addr) (n cap m hc : Nat) (hR : (⟨k, rs, rl, rk, rv2⟩ : Rq).right = true) (hs : rs = (s.cl k).q) :
    Calls Try.prog 38 #[.agg (s.A (.slice A n cap) (.slice B m hc)), .agg #[.int .i64 k, .int .i64 rs, .string rl, .string rk, .string rv2]] w fun e w' => e = .returned (.tuple #[.agg (s.A (.slice A n cap) (.slice B m hc)), .agg (s.cl k).r.A]) ∧ Below w.heap.size w w' := by
  obtain ⟨W, hW, h0, h1, h2, h3, hB, hsz⟩ := apply_blocks w (s.A (.slice A n cap) (.slice B m hc)) #[.int .i64 k, .int .i64 rs, .string rl, .string rk, .string rv2]
  have R := right_calls k rs rl rk rv2 W
  rw [hR] at R
  obtain ⟨c, hcc⟩ : ∃ c, s.cl k = c := ⟨_, rfl⟩
  have ec := fun (W : World) (H : Whole W w.heap.size 75 (s.A (.slice A n cap) (.slice B m hc))) => cl_at H hk
  simp only [hcc] at *
  clear hcc hR
  obtain ⟨l, c0, c1, c2, c3⟩ := s
  obtain ⟨cq, cn, ce, ci, ch⟩ := c
  simp only [ST.A] at h0 hW ec
  simp only [ST.A, Rp.A]
  replace R := Lib.hid R
  replace ec := Lib.hid ec
  replace hs := Lib.hid hs
  go_enter Try.func38, Try.ntmps38
  go_wp2_with fail
  rw [← hW]
  clear hW
  go_upto_region 4 with (first | ((with_reducible refine R.out.mono ?_); rintro e w4 ⟨rfl, hb4⟩; replace h0 := Whole.below (by first | (with_reducible exact h0) | (with_reducible exact h0.alloc _) | (with_reducible exact (h0.alloc _).alloc _) | (with_reducible exact h0.drewN _)) hb4 (by have := h0.lt; go_size); replace h1 := Whole.below (by first | (with_reducible exact h1) | (with_reducible exact h1.alloc _) | (with_reducible exact (h1.alloc _).alloc _) | (with_reducible exact h1.drewN _)) hb4 (by have := h1.lt; go_size); replace h2 := Whole.below (by first | (with_reducible exact h2) | (with_reducible exact h2.alloc _) | (with_reducible exact (h2.alloc _).alloc _) | (with_reducible exact h2.drewN _)) hb4 (by have := h2.lt; go_size); replace h3 := Whole.below (by first | (with_reducible exact h3) | (with_reducible exact h3.alloc _) | (with_reducible exact (h3.alloc _).alloc _) | (with_reducible exact h3.drewN _)) hb4 (by have := h3.lt; go_size); replace hB := below_next' (by first | (with_reducible exact hB) | (with_reducible exact hB.alloc hB.size _) | (with_reducible exact (hB.alloc hB.size _).alloc (hB.alloc hB.size _).size _) | exact below_drewN' hB _) hb4; obtain ⟨e0, e1, e2, e3, e4⟩ := ec.out w4 h0; have b0 : w4.cell? ⟨w.heap.size + 1, 0, none⟩ = some (.int .i64 k) := h1.cell 0; have hsz4 := hb4.size) | (first | ((with_reducible apply wl_loadW (ty := 63) h1 Try.underlying63); rfl; rfl; rfl; kernel_rfl) | ((with_reducible apply wl_loadW (ty := 63) (h1.alloc _) Try.underlying63); rfl; rfl; rfl; kernel_rfl) | ((with_reducible apply wl_loadW (ty := 63) ((h1.alloc _).alloc _) Try.underlying63); rfl; rfl; rfl; kernel_rfl)) | fail)
  clear e0 e1 e2 e3 e4 b0 ec R
  have h6 := Whole.new w4 71 #[.int .i64 cq, .int .i64 cn, .int .i64 ce, .int .i64 ci, .int .i64 ch]
  replace h0 := h0.alloc (.cells #[.int .i64 cq, .int .i64 cn, .int .i64 ce, .int .i64 ci, .int .i64 ch] 71)
  replace h1 := h1.alloc (.cells #[.int .i64 cq, .int .i64 cn, .int .i64 ce, .int .i64 ci, .int .i64 ch] 71)
  replace h2 := h2.alloc (.cells #[.int .i64 cq, .int .i64 cn, .int .i64 ce, .int .i64 ci, .int .i64 ch] 71)
  replace h3 := h3.alloc (.cells #[.int .i64 cq, .int .i64 cn, .int .i64 ce, .int .i64 ci, .int .i64 ch] 71)
  replace hB := hB.alloc hB.size (.cells #[.int .i64 cq, .int .i64 cn, .int .i64 ce, .int .i64 ci, .int .i64 ch] 71)
  have hsz5 : w4.heap.size < (w4.alloc (.cells #[.int .i64 cq, .int .i64 cn, .int .i64 ce, .int .i64 ci, .int .i64 ch] 71)).heap.size := by simp
  generalize w4.alloc (.cells #[.int .i64 cq, .int .i64 cn, .int .i64 ce, .int .i64 ci, .int .i64 ch] 71) = W5 at *
  have b0 : W5.cell? ⟨w.heap.size + 1, 0, none⟩ = some (.int .i64 k) := h1.cell 0
  have b1 : W5.cell? ⟨w.heap.size + 1, 1, none⟩ = some (.int .i64 rs) := h1.cell 1
  have d0 : W5.cell? ⟨w4.heap.size, 0, none⟩ = some (.int .i64 cq) := h6.cell 0
  have d1 : W5.cell? ⟨w4.heap.size, 1, none⟩ = some (.int .i64 cn) := h6.cell 1
  obtain rfl := hs.out
  go_upto_region 5 with (fail)
  refine wp_region_any (by kernel_rfl) ?_
  change wpAny _ _ _ _ _ _ _ (World.drew _)
  replace h0 := h0.drew
  replace h2 := h2.drew
  replace h3 := h3.drew
  replace h6 := h6.drew
  replace hB := hB.drew
  clear d0 d1 b0 b1 h1 hs
  generalize W5.drew = W6 at *
  refine wpAny_take (i := 1) (v := .pointer (some ⟨w4.heap.size, 2, none⟩)) rfl (by kernel_rfl) (by kernel_rfl) (by kernel_rfl) (fun _ _ _ h => h) (Or.inl ⟨by rfl, fun w => by go_simp⟩) ?_
  generalize ha : Act.mk _ _ = a0
  have k2 : a0.eval (.tmp 2) = .pointer (some ⟨w.heap.size, 0, none⟩) := by subst ha; rfl
  have k4 : a0.eval (.tmp 4) = .pointer (some ⟨w.heap.size + 1 + 1, 0, none⟩) := by subst ha; rfl
  have k5 : a0.eval (.tmp 5) = .pointer (some ⟨w.heap.size + 1 + 1 + 1, 0, none⟩) := by subst ha; rfl
  have ks : a0.tmps.size = 76 := by subst ha; rfl
  have ha0 := ha.symm
  clear ha
  refine any_two (i := 0) (j := 2) (by kernel_rfl) rfl rfl rfl rfl ?_ ?_
  · refine wp_loadW h0 Try.underlying75 (by simp [eval_put, size_put, put_none, k2, k4, k5, ks]) rfl (by kernel_rfl) ?_
    refine any_two (i := 2) (j := 3) (by kernel_rfl) rfl rfl rfl rfl ?_ ?_
    · refine wp_loadIn (g := w4.heap.size) (off := 2) #[.int .i64 ce, .int .i64 ci, .int .i64 ch] h6 rfl Try.underlying69 (by simp [eval_put, size_put, put_none, k2, k4, k5, ks]) rfl (by kernel_rfl) ?_
      refine any_one (i := 3) (by kernel_rfl) rfl rfl ?_
      (refine wp_storeW (cells := #[.slice A n cap, .int .i64 c0.q, .int .i64 c0.n, .int .i64 c0.r.e, .int .i64 c0.r.i, .int .i64 c0.r.h, .int .i64 c1.q, .int .i64 c1.n, .int .i64 c1.r.e, .int .i64 c1.r.i, .int .i64 c1.r.h, .int .i64 c2.q, .int .i64 c2.n, .int .i64 c2.r.e, .int .i64 c2.r.i, .int .i64 c2.r.h, .int .i64 c3.q, .int .i64 c3.n, .int .i64 c3.r.e, .int .i64 c3.r.i, .int .i64 c3.r.h, .slice B m hc]) h2 (by simp [eval_put, size_put, put_none, k2, k4, k5, ks]) (by simp [eval_put, size_put, put_none, k2, k4, k5, ks]) (by kernel_rfl) rfl rfl ?_; intro w5 hs5 hg5 hz5; have j3 := h3.only hg5 (by simp); replace h6 := h6.only hg5 (by simp; omega))
      (refine any_one (i := 4) (by kernel_rfl) rfl rfl ?_; refine wp_storeW (cells := #[.int .i64 ce, .int .i64 ci, .int .i64 ch]) j3 (by simp [eval_put, size_put, put_none, k2, k4, k5, ks]) (by simp [eval_put, size_put, put_none, k2, k4, k5, ks]) (by kernel_rfl) rfl rfl ?_; intro w6 hs6 hg6 hz6; refine wpAny_done (by kernel_rfl) ?_ _; subst ha0; clear k2 k4 k5 ks; go_wp2; refine bodyPost_ret (res_cell_cell rfl _ _ _ _ _ _ _ _ _ _ rfl rfl (hs5.only hg6 (by simp)) hs6 Try.underlying75 rfl (by kernel_rfl) Try.underlying69 rfl (by kernel_rfl)) rfl ?_; go_light; exact ⟨rfl, below_only' (below_only' hB hg5 (by omega)) hg6 (by omega)⟩)
    · (refine wp_storeW (cells := #[.slice A n cap, .int .i64 c0.q, .int .i64 c0.n, .int .i64 c0.r.e, .int .i64 c0.r.i, .int .i64 c0.r.h, .int .i64 c1.q, .int .i64 c1.n, .int .i64 c1.r.e, .int .i64 c1.r.i, .int .i64 c1.r.h, .int .i64 c2.q, .int .i64 c2.n, .int .i64 c2.r.e, .int .i64 c2.r.i, .int .i64 c2.r.h, .int .i64 c3.q, .int .i64 c3.n, .int .i64 c3.r.e, .int .i64 c3.r.i, .int .i64 c3.r.h, .slice B m hc]) h2 (by simp [eval_put, size_put, put_none, k2, k4, k5, ks]) (by simp [eval_put, size_put, put_none, k2, k4, k5, ks]) (by kernel_rfl) rfl rfl ?_; intro w5 hs5 hg5 hz5; have j3 := h3.only hg5 (by simp); replace h6 := h6.only hg5 (by simp; omega))
      refine any_one (i := 2) (by kernel_rfl) rfl rfl ?_
      refine wp_loadIn (g := w4.heap.size) (off := 2) #[.int .i64 ce, .int .i64 ci, .int .i64 ch] h6 rfl Try.underlying69 (by simp [eval_put, size_put, put_none, k2, k4, k5, ks]) rfl (by kernel_rfl) ?_
      (refine any_one (i := 4) (by kernel_rfl) rfl rfl ?_; refine wp_storeW (cells := #[.int .i64 ce, .int .i64 ci, .int .i64 ch]) j3 (by simp [eval_put, size_put, put_none, k2, k4, k5, ks]) (by simp [eval_put, size_put, put_none, k2, k4, k5, ks]) (by kernel_rfl) rfl rfl ?_; intro w6 hs6 hg6 hz6; refine wpAny_done (by kernel_rfl) ?_ _; subst ha0; clear k2 k4 k5 ks; go_wp2; refine bodyPost_ret (res_cell_cell rfl _ _ _ _ _ _ _ _ _ _ rfl rfl (hs5.only hg6 (by simp)) hs6 Try.underlying75 rfl (by kernel_rfl) Try.underlying69 rfl (by kernel_rfl)) rfl ?_; go_light; exact ⟨rfl, below_only' (below_only' hB hg5 (by omega)) hg6 (by omega)⟩)
  · refine wp_loadIn (g := w4.heap.size) (off := 2) #[.int .i64 ce, .int .i64 ci, .int .i64 ch] h6 rfl Try.underlying69 (by simp [eval_put, size_put, put_none, k2, k4, k5, ks]) rfl (by kernel_rfl) ?_
    refine any_one (i := 0) (by kernel_rfl) rfl rfl ?_
    refine wp_loadW h0 Try.underlying75 (by simp [eval_put, size_put, put_none, k2, k4, k5, ks]) rfl (by kernel_rfl) ?_
    refine any_one (i := 3) (by kernel_rfl) rfl rfl ?_
    (refine wp_storeW (cells := #[.slice A n cap, .int .i64 c0.q, .int .i64 c0.n, .int .i64 c0.r.e, .int .i64 c0.r.i, .int .i64 c0.r.h, .int .i64 c1.q, .int .i64 c1.n, .int .i64 c1.r.e, .int .i64 c1.r.i, .int .i64 c1.r.h, .int .i64 c2.q, .int .i64 c2.n, .int .i64 c2.r.e, .int .i64 c2.r.i, .int .i64 c2.r.h, .int .i64 c3.q, .int .i64 c3.n, .int .i64 c3.r.e, .int .i64 c3.r.i, .int .i64 c3.r.h, .slice B m hc]) h2 (by simp [eval_put, size_put, put_none, k2, k4, k5, ks]) (by simp [eval_put, size_put, put_none, k2, k4, k5, ks]) (by kernel_rfl) rfl rfl ?_; intro w5 hs5 hg5 hz5; have j3 := h3.only hg5 (by simp); replace h6 := h6.only hg5 (by simp; omega))
    (refine any_one (i := 4) (by kernel_rfl) rfl rfl ?_; refine wp_storeW (cells := #[.int .i64 ce, .int .i64 ci, .int .i64 ch]) j3 (by simp [eval_put, size_put, put_none, k2, k4, k5, ks]) (by simp [eval_put, size_put, put_none, k2, k4, k5, ks]) (by kernel_rfl) rfl rfl ?_; intro w6 hs6 hg6 hz6; refine wpAny_done (by kernel_rfl) ?_ _; subst ha0; clear k2 k4 k5 ks; go_wp2; refine bodyPost_ret (res_cell_cell rfl _ _ _ _ _ _ _ _ _ _ rfl rfl (hs5.only hg6 (by simp)) hs6 Try.underlying75 rfl (by kernel_rfl) Try.underlying69 rfl (by kernel_rfl)) rfl ?_; go_light; exact ⟨rfl, below_only' (below_only' hB hg5 (by omega)) hg6 (by omega)⟩)
end Go.Proofs.Ytknjbkbbhgjnlaa
