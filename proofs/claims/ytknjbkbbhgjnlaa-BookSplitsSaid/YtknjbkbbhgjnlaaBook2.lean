/- Package book's and the reference's split heads; the law's walk. No conditions. -/
import Derived.Test.YtknjbkbbhgjnlaaBook1
import Derived.Test.YtknjbkbbhgjnlaaPMake
import Derived.Test.YtknjbkbbhgjnlaaToolA
namespace Go.Proofs.Ytknjbkbbhgjnlaa
open Go.RowKit
set_option linter.unusedVariables false
set_option linter.unusedSimpArgs false
set_option maxHeartbeats 1000000 in
set_option maxRecDepth 100000 in
theorem refFormed_calls (h : Hd) (w : World) : Calls Try.prog 49 #[.agg h.A] w fun e w' => e = .returned (.bool h.formed) ∧ Below w.heap.size w w' := by
  obtain ⟨q, z, t, r, m⟩ := h
  have hw := hd_whole w ⟨q, z, t, r, m⟩
  have hB : Below w.heap.size w (w.alloc (.cells #[.int .i64 q, .int .i64 z, .int .i64 t, .string r, .string m] 87)) := by go_grown
  simp only [Hd.A] at *
  have c0 := hw.cell 0; have c1 := hw.cell 1; have c2 := hw.cell 2; have c3 := hw.cell 3; have c4 := hw.cell 4
  by_cases h1 : 1 ≤ q
  · by_cases h2 : 1 ≤ z
    · by_cases h3 : z ≤ 64
      · by_cases h4 : 0 ≤ t
        · by_cases h5 : (r.size : Int) = 32
          · go_enter Try.func49, Try.ntmps49
            go_wp2_with (fail)
            go_returns
            go_light
            exact ⟨ret_bool (by rw [Bool.eq_iff_iff]; simp [Hd.formed]; omega), hB⟩
          · go_enter Try.func49, Try.ntmps49
            go_wp2_with (fail)
            go_returns
            go_light
            exact ⟨ret_bool (by rw [Bool.eq_iff_iff]; simp [Hd.formed]; omega), hB⟩
        · go_enter Try.func49, Try.ntmps49
          go_wp2_with (fail)
          go_returns
          go_light
          exact ⟨ret_bool (by rw [Bool.eq_iff_iff]; simp [Hd.formed]; omega), hB⟩
      · go_enter Try.func49, Try.ntmps49
        go_wp2_with (fail)
        go_returns
        go_light
        exact ⟨ret_bool (by rw [Bool.eq_iff_iff]; simp [Hd.formed]; omega), hB⟩
    · go_enter Try.func49, Try.ntmps49
      go_wp2_with (fail)
      go_returns
      go_light
      exact ⟨ret_bool (by rw [Bool.eq_iff_iff]; simp [Hd.formed]; omega), hB⟩
  · go_enter Try.func49, Try.ntmps49
    go_wp2_with (fail)
    go_returns
    go_light
    exact ⟨ret_bool (by rw [Bool.eq_iff_iff]; simp [Hd.formed]; omega), hB⟩
set_option maxHeartbeats 2000000 in
set_option maxRecDepth 100000 in
theorem refSplit_calls (a b : Hd) (w : World) : Calls Try.prog 51 #[.agg a.A, .agg b.A] w fun e w' => e = .returned (.bool (splitB a b)) ∧ Below w.heap.size w w' := by
  have FA := fun w => refFormed_calls a w
  have FB := fun w => refFormed_calls b w
  have hE := head_eqIn a b
  have hs : splitB a b = if (a.formed && b.formed) = false then false else if a.q = b.q then !(a.eqv b) else if a.q < b.q then decide (b.z ≤ a.z) || decide (b.t < a.t) else decide (a.z ≤ b.z) || decide (a.t < b.t) := rfl
  generalize splitB a b = X at *
  generalize a.formed = fa at *
  generalize b.formed = fb at *
  generalize a.eqv b = E at *
  obtain ⟨q, qz, qt, qr, qm⟩ := a
  obtain ⟨p, pz, pt, pr, pm⟩ := b
  simp only [Hd.A] at *
  have hA := (Whole.new w 87 #[.int .i64 q, .int .i64 qz, .int .i64 qt, .string qr, .string qm]).alloc (.cells #[.int .i64 p, .int .i64 pz, .int .i64 pt, .string pr, .string pm] 87)
  have hC := Whole.new (w.alloc (.cells #[.int .i64 q, .int .i64 qz, .int .i64 qt, .string qr, .string qm] 87)) 87 #[.int .i64 p, .int .i64 pz, .int .i64 pt, .string pr, .string pm]
  have hB : Below w.heap.size w ((w.alloc (.cells #[.int .i64 q, .int .i64 qz, .int .i64 qt, .string qr, .string qm] 87)).alloc (.cells #[.int .i64 p, .int .i64 pz, .int .i64 pt, .string pr, .string pm] 87)) := by go_grown
  rw [show (w.alloc (.cells #[.int .i64 q, .int .i64 qz, .int .i64 qt, .string qr, .string qm] 87)).heap.size = w.heap.size + 1 by simp] at hC
  replace FA := Lib.hid FA
  replace FB := Lib.hid FB
  replace hs := Lib.hid hs
  go_enter Try.func51, Try.ntmps51
  go_upto_region 1 with (fail)
  generalize (w.alloc (.cells #[.int .i64 q, .int .i64 qz, .int .i64 qt, .string qr, .string qm] 87)).alloc (.cells #[.int .i64 p, .int .i64 pz, .int .i64 pt, .string pr, .string pm] 87) = W at *
  cases fa
  · have hs' := hs.out
    rw [if_pos (by simp)] at hs'
    go_wp2_with (first | (first | ((with_reducible apply wl_loadW (ty := 87) hA Try.underlying87); rfl; rfl; rfl; kernel_rfl) | ((with_reducible apply wl_loadW (ty := 87) (hA.alloc _) Try.underlying87); rfl; rfl; rfl; kernel_rfl) | ((with_reducible apply wl_loadW (ty := 87) ((hA.alloc _).alloc _) Try.underlying87); rfl; rfl; rfl; kernel_rfl)) | ((with_reducible refine (FA.out _).mono ?_); rintro e w3 ⟨rfl, hb⟩; replace hA := hA.below hb hA.lt; replace hC := hC.below hb hC.lt; replace hB := below_next' hB hb))
    go_returns
    go_light
    exact ⟨ret_bool hs'.symm, hB⟩
  cases fb
  · have hs' := hs.out
    rw [if_pos (by simp)] at hs'
    go_wp2_with (first | (first | ((with_reducible apply wl_loadW (ty := 87) hA Try.underlying87); rfl; rfl; rfl; kernel_rfl) | ((with_reducible apply wl_loadW (ty := 87) (hA.alloc _) Try.underlying87); rfl; rfl; rfl; kernel_rfl) | ((with_reducible apply wl_loadW (ty := 87) ((hA.alloc _).alloc _) Try.underlying87); rfl; rfl; rfl; kernel_rfl)) | (first | ((with_reducible apply wl_loadW (ty := 87) hC Try.underlying87); rfl; rfl; rfl; kernel_rfl) | ((with_reducible apply wl_loadW (ty := 87) (hC.alloc _) Try.underlying87); rfl; rfl; rfl; kernel_rfl) | ((with_reducible apply wl_loadW (ty := 87) ((hC.alloc _).alloc _) Try.underlying87); rfl; rfl; rfl; kernel_rfl)) | ((with_reducible refine (FA.out _).mono ?_); rintro e w3 ⟨rfl, hb⟩; replace hA := hA.below hb hA.lt; replace hC := hC.below hb hC.lt; replace hB := below_next' hB hb) | ((with_reducible refine (FB.out _).mono ?_); rintro e w4 ⟨rfl, hb⟩; replace hA := hA.below hb hA.lt; replace hC := hC.below hb hC.lt; replace hB := below_next' hB hb))
    go_returns
    go_light
    exact ⟨ret_bool hs'.symm, hB⟩
  have hs' := hs.out
  rw [if_neg (by decide)] at hs'
  go_upto_region 3 with (first | (first | ((with_reducible apply wl_loadW (ty := 87) hA Try.underlying87); rfl; rfl; rfl; kernel_rfl) | ((with_reducible apply wl_loadW (ty := 87) (hA.alloc _) Try.underlying87); rfl; rfl; rfl; kernel_rfl) | ((with_reducible apply wl_loadW (ty := 87) ((hA.alloc _).alloc _) Try.underlying87); rfl; rfl; rfl; kernel_rfl)) | (first | ((with_reducible apply wl_loadW (ty := 87) hC Try.underlying87); rfl; rfl; rfl; kernel_rfl) | ((with_reducible apply wl_loadW (ty := 87) (hC.alloc _) Try.underlying87); rfl; rfl; rfl; kernel_rfl) | ((with_reducible apply wl_loadW (ty := 87) ((hC.alloc _).alloc _) Try.underlying87); rfl; rfl; rfl; kernel_rfl)) | ((with_reducible refine (FA.out _).mono ?_); rintro e w3 ⟨rfl, hb⟩; replace hA := hA.below hb hA.lt; replace hC := hC.below hb hC.lt; replace hB := below_next' hB hb) | ((with_reducible refine (FB.out _).mono ?_); rintro e w4 ⟨rfl, hb⟩; replace hA := hA.below hb hA.lt; replace hC := hC.below hb hC.lt; replace hB := below_next' hB hb))
  have c0 := hA.cell 0; have c1 := hA.cell 1; have c2 := hA.cell 2; have d0 := hC.cell 0; have d1 := hC.cell 1; have d2 := hC.cell 2
  by_cases h1 : q = p
  · rw [if_pos h1] at hs'
    subst h1
    replace hs' := Lib.hid hs'
    go_wp2_with (first | (first | ((with_reducible apply wl_loadW (ty := 87) hA Try.underlying87); rfl; rfl; rfl; kernel_rfl) | ((with_reducible apply wl_loadW (ty := 87) (hA.alloc _) Try.underlying87); rfl; rfl; rfl; kernel_rfl) | ((with_reducible apply wl_loadW (ty := 87) ((hA.alloc _).alloc _) Try.underlying87); rfl; rfl; rfl; kernel_rfl)) | (first | ((with_reducible apply wl_loadW (ty := 87) hC Try.underlying87); rfl; rfl; rfl; kernel_rfl) | ((with_reducible apply wl_loadW (ty := 87) (hC.alloc _) Try.underlying87); rfl; rfl; rfl; kernel_rfl) | ((with_reducible apply wl_loadW (ty := 87) ((hC.alloc _).alloc _) Try.underlying87); rfl; rfl; rfl; kernel_rfl)))
    go_returns
    go_light
    exact ⟨ret_bool hs'.out.symm, hB⟩
  rw [if_neg h1] at hs'
  have h1' : (q == p) = false := by simpa using h1
  by_cases h2 : q < p
  · rw [if_pos h2] at hs'
    replace hs' := Lib.hid hs'
    by_cases h3 : pz ≤ qz
    · go_wp2_with (fail)
      go_returns
      go_light
      exact ⟨ret_bool (by rw [hs'.out, Bool.eq_iff_iff]; simp; omega), hB⟩
    · go_wp2_with (fail)
      go_returns
      go_light
      exact ⟨ret_bool (by rw [hs'.out, Bool.eq_iff_iff]; simp; omega), hB⟩
  · rw [if_neg h2] at hs'
    replace hs' := Lib.hid hs'
    have h2' : p < q := by omega
    by_cases h3 : qz ≤ pz
    · go_wp2_with (fail)
      go_returns
      go_light
      exact ⟨ret_bool (by rw [hs'.out, Bool.eq_iff_iff]; simp; omega), hB⟩
    · go_wp2_with (fail)
      go_returns
      go_light
      exact ⟨ret_bool (by rw [hs'.out, Bool.eq_iff_iff]; simp; omega), hB⟩
set_option maxHeartbeats 2000000 in
set_option maxRecDepth 100000 in
theorem split_calls (a b : Hd) (w : World) : Calls Try.prog 50 #[.agg a.A, .agg b.A] w fun e w' => e = .returned (.bool (splitB a b)) ∧ Below w.heap.size w w' := by
  have FA := fun w => formed_calls a w
  have FB := fun w => formed_calls b w
  have hE := head_eqIn a b
  have hs : splitB a b = if (a.formed && b.formed) = false then false else if a.q = b.q then !(a.eqv b) else if a.q < b.q then decide (b.z ≤ a.z) || decide (b.t < a.t) else decide (a.z ≤ b.z) || decide (a.t < b.t) := rfl
  generalize splitB a b = X at *
  generalize a.formed = fa at *
  generalize b.formed = fb at *
  generalize a.eqv b = E at *
  obtain ⟨q, qz, qt, qr, qm⟩ := a
  obtain ⟨p, pz, pt, pr, pm⟩ := b
  simp only [Hd.A] at *
  have hA := (Whole.new w 87 #[.int .i64 q, .int .i64 qz, .int .i64 qt, .string qr, .string qm]).alloc (.cells #[.int .i64 p, .int .i64 pz, .int .i64 pt, .string pr, .string pm] 87)
  have hC := Whole.new (w.alloc (.cells #[.int .i64 q, .int .i64 qz, .int .i64 qt, .string qr, .string qm] 87)) 87 #[.int .i64 p, .int .i64 pz, .int .i64 pt, .string pr, .string pm]
  have hB : Below w.heap.size w ((w.alloc (.cells #[.int .i64 q, .int .i64 qz, .int .i64 qt, .string qr, .string qm] 87)).alloc (.cells #[.int .i64 p, .int .i64 pz, .int .i64 pt, .string pr, .string pm] 87)) := by go_grown
  rw [show (w.alloc (.cells #[.int .i64 q, .int .i64 qz, .int .i64 qt, .string qr, .string qm] 87)).heap.size = w.heap.size + 1 by simp] at hC
  replace FA := Lib.hid FA
  replace FB := Lib.hid FB
  replace hs := Lib.hid hs
  go_enter Try.func50, Try.ntmps50
  go_upto_region 1 with (fail)
  generalize (w.alloc (.cells #[.int .i64 q, .int .i64 qz, .int .i64 qt, .string qr, .string qm] 87)).alloc (.cells #[.int .i64 p, .int .i64 pz, .int .i64 pt, .string pr, .string pm] 87) = W at *
  cases fa
  · have hs' := hs.out
    rw [if_pos (by simp)] at hs'
    go_wp2_with (first | (first | ((with_reducible apply wl_loadW (ty := 87) hA Try.underlying87); rfl; rfl; rfl; kernel_rfl) | ((with_reducible apply wl_loadW (ty := 87) (hA.alloc _) Try.underlying87); rfl; rfl; rfl; kernel_rfl) | ((with_reducible apply wl_loadW (ty := 87) ((hA.alloc _).alloc _) Try.underlying87); rfl; rfl; rfl; kernel_rfl)) | ((with_reducible refine (FA.out _).mono ?_); rintro e w3 ⟨rfl, hb⟩; replace hA := hA.below hb hA.lt; replace hC := hC.below hb hC.lt; replace hB := below_next' hB hb))
    go_returns
    go_light
    exact ⟨ret_bool hs'.symm, hB⟩
  cases fb
  · have hs' := hs.out
    rw [if_pos (by simp)] at hs'
    go_wp2_with (first | (first | ((with_reducible apply wl_loadW (ty := 87) hA Try.underlying87); rfl; rfl; rfl; kernel_rfl) | ((with_reducible apply wl_loadW (ty := 87) (hA.alloc _) Try.underlying87); rfl; rfl; rfl; kernel_rfl) | ((with_reducible apply wl_loadW (ty := 87) ((hA.alloc _).alloc _) Try.underlying87); rfl; rfl; rfl; kernel_rfl)) | (first | ((with_reducible apply wl_loadW (ty := 87) hC Try.underlying87); rfl; rfl; rfl; kernel_rfl) | ((with_reducible apply wl_loadW (ty := 87) (hC.alloc _) Try.underlying87); rfl; rfl; rfl; kernel_rfl) | ((with_reducible apply wl_loadW (ty := 87) ((hC.alloc _).alloc _) Try.underlying87); rfl; rfl; rfl; kernel_rfl)) | ((with_reducible refine (FA.out _).mono ?_); rintro e w3 ⟨rfl, hb⟩; replace hA := hA.below hb hA.lt; replace hC := hC.below hb hC.lt; replace hB := below_next' hB hb) | ((with_reducible refine (FB.out _).mono ?_); rintro e w4 ⟨rfl, hb⟩; replace hA := hA.below hb hA.lt; replace hC := hC.below hb hC.lt; replace hB := below_next' hB hb))
    go_returns
    go_light
    exact ⟨ret_bool hs'.symm, hB⟩
  have hs' := hs.out
  rw [if_neg (by decide)] at hs'
  go_upto_region 3 with (first | (first | ((with_reducible apply wl_loadW (ty := 87) hA Try.underlying87); rfl; rfl; rfl; kernel_rfl) | ((with_reducible apply wl_loadW (ty := 87) (hA.alloc _) Try.underlying87); rfl; rfl; rfl; kernel_rfl) | ((with_reducible apply wl_loadW (ty := 87) ((hA.alloc _).alloc _) Try.underlying87); rfl; rfl; rfl; kernel_rfl)) | (first | ((with_reducible apply wl_loadW (ty := 87) hC Try.underlying87); rfl; rfl; rfl; kernel_rfl) | ((with_reducible apply wl_loadW (ty := 87) (hC.alloc _) Try.underlying87); rfl; rfl; rfl; kernel_rfl) | ((with_reducible apply wl_loadW (ty := 87) ((hC.alloc _).alloc _) Try.underlying87); rfl; rfl; rfl; kernel_rfl)) | ((with_reducible refine (FA.out _).mono ?_); rintro e w3 ⟨rfl, hb⟩; replace hA := hA.below hb hA.lt; replace hC := hC.below hb hC.lt; replace hB := below_next' hB hb) | ((with_reducible refine (FB.out _).mono ?_); rintro e w4 ⟨rfl, hb⟩; replace hA := hA.below hb hA.lt; replace hC := hC.below hb hC.lt; replace hB := below_next' hB hb))
  have c0 := hA.cell 0; have c1 := hA.cell 1; have c2 := hA.cell 2; have d0 := hC.cell 0; have d1 := hC.cell 1; have d2 := hC.cell 2
  by_cases h1 : q = p
  · rw [if_pos h1] at hs'
    subst h1
    replace hs' := Lib.hid hs'
    go_wp2_with (first | (first | ((with_reducible apply wl_loadW (ty := 87) hA Try.underlying87); rfl; rfl; rfl; kernel_rfl) | ((with_reducible apply wl_loadW (ty := 87) (hA.alloc _) Try.underlying87); rfl; rfl; rfl; kernel_rfl) | ((with_reducible apply wl_loadW (ty := 87) ((hA.alloc _).alloc _) Try.underlying87); rfl; rfl; rfl; kernel_rfl)) | (first | ((with_reducible apply wl_loadW (ty := 87) hC Try.underlying87); rfl; rfl; rfl; kernel_rfl) | ((with_reducible apply wl_loadW (ty := 87) (hC.alloc _) Try.underlying87); rfl; rfl; rfl; kernel_rfl) | ((with_reducible apply wl_loadW (ty := 87) ((hC.alloc _).alloc _) Try.underlying87); rfl; rfl; rfl; kernel_rfl)))
    go_returns
    go_light
    exact ⟨ret_bool hs'.out.symm, hB⟩
  rw [if_neg h1] at hs'
  have h1' : (q == p) = false := by simpa using h1
  by_cases h2 : q < p
  · rw [if_pos h2] at hs'
    replace hs' := Lib.hid hs'
    by_cases h3 : pz ≤ qz
    · go_wp2_with (fail)
      go_returns
      go_light
      exact ⟨ret_bool (by rw [hs'.out, Bool.eq_iff_iff]; simp; omega), hB⟩
    · go_wp2_with (fail)
      go_returns
      go_light
      exact ⟨ret_bool (by rw [hs'.out, Bool.eq_iff_iff]; simp; omega), hB⟩
  · rw [if_neg h2] at hs'
    replace hs' := Lib.hid hs'
    have h2' : p < q := by omega
    go_upto_region 7 with (first | (first | ((with_reducible apply wl_loadW (ty := 87) hA Try.underlying87); rfl; rfl; rfl; kernel_rfl) | ((with_reducible apply wl_loadW (ty := 87) (hA.alloc _) Try.underlying87); rfl; rfl; rfl; kernel_rfl) | ((with_reducible apply wl_loadW (ty := 87) ((hA.alloc _).alloc _) Try.underlying87); rfl; rfl; rfl; kernel_rfl)) | (first | ((with_reducible apply wl_loadW (ty := 87) hC Try.underlying87); rfl; rfl; rfl; kernel_rfl) | ((with_reducible apply wl_loadW (ty := 87) (hC.alloc _) Try.underlying87); rfl; rfl; rfl; kernel_rfl) | ((with_reducible apply wl_loadW (ty := 87) ((hC.alloc _).alloc _) Try.underlying87); rfl; rfl; rfl; kernel_rfl)) | (((with_reducible apply wl_storeW (ty := 87) hA); rfl; rfl; rfl; kernel_rfl; rfl; rfl; intro w7 hs7 hg7 hz7); have hC7 := Whole.only hC hg7 (by simp)) | (((with_reducible apply wl_storeW (ty := 87) hC7); rfl; rfl; rfl; kernel_rfl; rfl; rfl; intro w8 hs8 hg8 hz8); have hA8 := Whole.only hs7 hg8 (by simp)))
    have e0 := hA8.cell 0; have e1 := hA8.cell 1; have e2 := hA8.cell 2; have f0 := hs8.cell 0; have f1 := hs8.cell 1; have f2 := hs8.cell 2
    have hB8 : Below w.heap.size w w8 := below_only' (below_only' hB hg7 (by simp)) hg8 (by simp)
    by_cases h3 : qz ≤ pz
    · go_wp2_with (fail)
      go_returns
      go_light
      exact ⟨ret_bool (by rw [hs'.out, Bool.eq_iff_iff]; simp; omega), hB8⟩
    · go_wp2_with (fail)
      go_returns
      go_light
      exact ⟨ret_bool (by rw [hs'.out, Bool.eq_iff_iff]; simp; omega), hB8⟩
end Go.Proofs.Ytknjbkbbhgjnlaa
