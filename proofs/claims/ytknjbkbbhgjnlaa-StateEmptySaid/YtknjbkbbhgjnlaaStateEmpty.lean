/- The law StateEmpty, walked. No conditions. -/
import Derived.Test.YtknjbkbbhgjnlaaAwake11
import Derived.Test.YtknjbkbbhgjnlaaPMake
import Derived.Carry
import Derived.Maps.OwnSet
namespace Go.Proofs.Ytknjbkbbhgjnlaa
open Go.RowKit
set_option linter.unusedVariables false
set_option linter.unusedSimpArgs false
set_option maxHeartbeats 1000000 in
set_option maxRecDepth 100000 in
theorem near_empty (n : Int) (w : World) : Calls Try.prog 80 #[.agg #[.slice none 0 0, .int .i64 0, .int .i64 0, .int .i64 0, .int .i64 0, .int .i64 0, .int .i64 0, .int .i64 0, .int .i64 0, .int .i64 0, .int .i64 0, .int .i64 0, .int .i64 0, .int .i64 0, .int .i64 0, .int .i64 0, .int .i64 0, .int .i64 0, .int .i64 0, .int .i64 0, .int .i64 0, .slice none 0 0], .int .i64 n] w fun e w' => e = .returned (.int .i64 0) ∧ Below w.heap.size w w' := by
  have hB : Below w.heap.size w (w.alloc (.cells #[.slice none 0 0, .int .i64 0, .int .i64 0, .int .i64 0, .int .i64 0, .int .i64 0, .int .i64 0, .int .i64 0, .int .i64 0, .int .i64 0, .int .i64 0, .int .i64 0, .int .i64 0, .int .i64 0, .int .i64 0, .int .i64 0, .int .i64 0, .int .i64 0, .int .i64 0, .int .i64 0, .int .i64 0, .slice none 0 0] 75)) := by go_grown
  have h0 := (Whole.new w 75 #[.slice none 0 0, .int .i64 0, .int .i64 0, .int .i64 0, .int .i64 0, .int .i64 0, .int .i64 0, .int .i64 0, .int .i64 0, .int .i64 0, .int .i64 0, .int .i64 0, .int .i64 0, .int .i64 0, .int .i64 0, .int .i64 0, .int .i64 0, .int .i64 0, .int .i64 0, .int .i64 0, .int .i64 0, .slice none 0 0]).cell 0
  by_cases h : 0 ≤ n
  · go_enter Try.func80, Try.ntmps80
    go_wp2_with (fail)
    all_goals go_returns
    all_goals go_light
    all_goals exact ⟨ret_int (by first | rfl | omega | (simp; omega)), hB⟩
  · go_enter Try.func80, Try.ntmps80
    go_wp2_with (fail)
    all_goals go_returns
    all_goals go_light
    all_goals exact ⟨ret_int (by first | rfl | omega | (simp; omega)), hB⟩
set_option maxHeartbeats 1000000 in
set_option maxRecDepth 100000 in
theorem cut_empty (tb : Array Value) (now : Int) (w : World) : Calls Try.prog 40 #[.agg #[.slice none 0 0, .int .i64 0, .int .i64 0, .int .i64 0, .int .i64 0, .int .i64 0, .int .i64 0, .int .i64 0, .int .i64 0, .int .i64 0, .int .i64 0, .int .i64 0, .int .i64 0, .int .i64 0, .int .i64 0, .int .i64 0, .int .i64 0, .int .i64 0, .int .i64 0, .int .i64 0, .int .i64 0, .slice none 0 0], .agg tb, .int .i64 now] w fun e w' => e = .returned (.tuple #[.agg #[.slice none 0 0, .int .i64 0, .int .i64 0, .int .i64 0, .int .i64 0, .int .i64 0, .int .i64 0, .int .i64 0, .int .i64 0, .int .i64 0, .int .i64 0, .int .i64 0, .int .i64 0, .int .i64 0, .int .i64 0, .int .i64 0, .int .i64 0, .int .i64 0, .int .i64 0, .int .i64 0, .int .i64 0, .slice none 0 0], .bool false]) ∧ Below w.heap.size w w' := by
  have hA := ((Whole.new w 75 #[.slice none 0 0, .int .i64 0, .int .i64 0, .int .i64 0, .int .i64 0, .int .i64 0, .int .i64 0, .int .i64 0, .int .i64 0, .int .i64 0, .int .i64 0, .int .i64 0, .int .i64 0, .int .i64 0, .int .i64 0, .int .i64 0, .int .i64 0, .int .i64 0, .int .i64 0, .int .i64 0, .int .i64 0, .slice none 0 0]).alloc (.cells tb 29)).alloc (.cells #[.slice none 0 0, .int .i64 0, .int .i64 0, .int .i64 0, .int .i64 0, .int .i64 0, .int .i64 0, .int .i64 0, .int .i64 0, .int .i64 0, .int .i64 0, .int .i64 0, .int .i64 0, .int .i64 0, .int .i64 0, .int .i64 0, .int .i64 0, .int .i64 0, .int .i64 0, .int .i64 0, .int .i64 0, .slice none 0 0] 75)
  have hR := Whole.new ((w.alloc (.cells #[.slice none 0 0, .int .i64 0, .int .i64 0, .int .i64 0, .int .i64 0, .int .i64 0, .int .i64 0, .int .i64 0, .int .i64 0, .int .i64 0, .int .i64 0, .int .i64 0, .int .i64 0, .int .i64 0, .int .i64 0, .int .i64 0, .int .i64 0, .int .i64 0, .int .i64 0, .int .i64 0, .int .i64 0, .slice none 0 0] 75)).alloc (.cells tb 29)) 75 #[.slice none 0 0, .int .i64 0, .int .i64 0, .int .i64 0, .int .i64 0, .int .i64 0, .int .i64 0, .int .i64 0, .int .i64 0, .int .i64 0, .int .i64 0, .int .i64 0, .int .i64 0, .int .i64 0, .int .i64 0, .int .i64 0, .int .i64 0, .int .i64 0, .int .i64 0, .int .i64 0, .int .i64 0, .slice none 0 0]
  rw [show ((w.alloc (.cells #[.slice none 0 0, .int .i64 0, .int .i64 0, .int .i64 0, .int .i64 0, .int .i64 0, .int .i64 0, .int .i64 0, .int .i64 0, .int .i64 0, .int .i64 0, .int .i64 0, .int .i64 0, .int .i64 0, .int .i64 0, .int .i64 0, .int .i64 0, .int .i64 0, .int .i64 0, .int .i64 0, .int .i64 0, .slice none 0 0] 75)).alloc (.cells tb 29)).heap.size = w.heap.size + 2 by simp] at hR
  have hB : Below w.heap.size w (((w.alloc (.cells #[.slice none 0 0, .int .i64 0, .int .i64 0, .int .i64 0, .int .i64 0, .int .i64 0, .int .i64 0, .int .i64 0, .int .i64 0, .int .i64 0, .int .i64 0, .int .i64 0, .int .i64 0, .int .i64 0, .int .i64 0, .int .i64 0, .int .i64 0, .int .i64 0, .int .i64 0, .int .i64 0, .int .i64 0, .slice none 0 0] 75)).alloc (.cells tb 29)).alloc (.cells #[.slice none 0 0, .int .i64 0, .int .i64 0, .int .i64 0, .int .i64 0, .int .i64 0, .int .i64 0, .int .i64 0, .int .i64 0, .int .i64 0, .int .i64 0, .int .i64 0, .int .i64 0, .int .i64 0, .int .i64 0, .int .i64 0, .int .i64 0, .int .i64 0, .int .i64 0, .int .i64 0, .int .i64 0, .slice none 0 0] 75)) := by go_grown
  go_enter Try.func40, Try.ntmps40
  go_upto_region 1 with (fail)
  generalize ((w.alloc (.cells #[.slice none 0 0, .int .i64 0, .int .i64 0, .int .i64 0, .int .i64 0, .int .i64 0, .int .i64 0, .int .i64 0, .int .i64 0, .int .i64 0, .int .i64 0, .int .i64 0, .int .i64 0, .int .i64 0, .int .i64 0, .int .i64 0, .int .i64 0, .int .i64 0, .int .i64 0, .int .i64 0, .int .i64 0, .slice none 0 0] 75)).alloc (.cells tb 29)).alloc (.cells #[.slice none 0 0, .int .i64 0, .int .i64 0, .int .i64 0, .int .i64 0, .int .i64 0, .int .i64 0, .int .i64 0, .int .i64 0, .int .i64 0, .int .i64 0, .int .i64 0, .int .i64 0, .int .i64 0, .int .i64 0, .int .i64 0, .int .i64 0, .int .i64 0, .int .i64 0, .int .i64 0, .int .i64 0, .slice none 0 0] 75) = W1 at *
  have c0 := hA.cell 0
  have c21 := hA.cell 21
  go_wp2_with (first | (first | ((with_reducible apply wl_loadW (ty := 75) hA Try.underlying75); rfl; rfl; rfl; kernel_rfl) | ((with_reducible apply wl_loadW (ty := 75) (hA.alloc _) Try.underlying75); rfl; rfl; rfl; kernel_rfl) | ((with_reducible apply wl_loadW (ty := 75) ((hA.alloc _).alloc _) Try.underlying75); rfl; rfl; rfl; kernel_rfl)) | ((with_reducible apply wl_storeW (ty := 75) hR); rfl; rfl; rfl; kernel_rfl; rfl; rfl; intro w7 hs7 hg7 hz7))
  refine bodyPost_ret (res_cell_tmp rfl _ _ _ _ _ _ rfl hs7 Try.underlying75 rfl (by kernel_rfl)) rfl ?_
  go_light
  exact ⟨rfl, below_only' hB hg7 (by omega)⟩
set_option maxHeartbeats 1000000 in
set_option maxRecDepth 100000 in
theorem head_empty (n : Int) (w : World) : Calls Try.prog 41 #[.agg #[.slice none 0 0, .int .i64 0, .int .i64 0, .int .i64 0, .int .i64 0, .int .i64 0, .int .i64 0, .int .i64 0, .int .i64 0, .int .i64 0, .int .i64 0, .int .i64 0, .int .i64 0, .int .i64 0, .int .i64 0, .int .i64 0, .int .i64 0, .int .i64 0, .int .i64 0, .int .i64 0, .int .i64 0, .slice none 0 0], .int .i64 n] w fun e w' => e = .returned (.tuple #[.agg #[.int .i64 0, .int .i64 0, .int .i64 0, .string ⟨#[]⟩, .string ⟨#[]⟩], .bool false]) ∧ Below w.heap.size w w' := by
  have hA := (Whole.new w 75 #[.slice none 0 0, .int .i64 0, .int .i64 0, .int .i64 0, .int .i64 0, .int .i64 0, .int .i64 0, .int .i64 0, .int .i64 0, .int .i64 0, .int .i64 0, .int .i64 0, .int .i64 0, .int .i64 0, .int .i64 0, .int .i64 0, .int .i64 0, .int .i64 0, .int .i64 0, .int .i64 0, .int .i64 0, .slice none 0 0]).alloc (.cells #[.int .i64 0, .int .i64 0, .int .i64 0, .string ⟨#[]⟩, .string ⟨#[]⟩] 87)
  have hR := Whole.new (w.alloc (.cells #[.slice none 0 0, .int .i64 0, .int .i64 0, .int .i64 0, .int .i64 0, .int .i64 0, .int .i64 0, .int .i64 0, .int .i64 0, .int .i64 0, .int .i64 0, .int .i64 0, .int .i64 0, .int .i64 0, .int .i64 0, .int .i64 0, .int .i64 0, .int .i64 0, .int .i64 0, .int .i64 0, .int .i64 0, .slice none 0 0] 75)) 87 #[.int .i64 0, .int .i64 0, .int .i64 0, .string ⟨#[]⟩, .string ⟨#[]⟩]
  rw [show (w.alloc (.cells #[.slice none 0 0, .int .i64 0, .int .i64 0, .int .i64 0, .int .i64 0, .int .i64 0, .int .i64 0, .int .i64 0, .int .i64 0, .int .i64 0, .int .i64 0, .int .i64 0, .int .i64 0, .int .i64 0, .int .i64 0, .int .i64 0, .int .i64 0, .int .i64 0, .int .i64 0, .int .i64 0, .int .i64 0, .slice none 0 0] 75)).heap.size = w.heap.size + 1 by simp] at hR
  have hB : Below w.heap.size w ((w.alloc (.cells #[.slice none 0 0, .int .i64 0, .int .i64 0, .int .i64 0, .int .i64 0, .int .i64 0, .int .i64 0, .int .i64 0, .int .i64 0, .int .i64 0, .int .i64 0, .int .i64 0, .int .i64 0, .int .i64 0, .int .i64 0, .int .i64 0, .int .i64 0, .int .i64 0, .int .i64 0, .int .i64 0, .int .i64 0, .slice none 0 0] 75)).alloc (.cells #[.int .i64 0, .int .i64 0, .int .i64 0, .string ⟨#[]⟩, .string ⟨#[]⟩] 87)) := by go_grown
  by_cases h : n < 1
  · go_enter Try.func41, Try.ntmps41
    go_upto_region 1 with (fail)
    generalize (w.alloc (.cells #[.slice none 0 0, .int .i64 0, .int .i64 0, .int .i64 0, .int .i64 0, .int .i64 0, .int .i64 0, .int .i64 0, .int .i64 0, .int .i64 0, .int .i64 0, .int .i64 0, .int .i64 0, .int .i64 0, .int .i64 0, .int .i64 0, .int .i64 0, .int .i64 0, .int .i64 0, .int .i64 0, .int .i64 0, .slice none 0 0] 75)).alloc (.cells #[.int .i64 0, .int .i64 0, .int .i64 0, .string ⟨#[]⟩, .string ⟨#[]⟩] 87) = W1 at *
    have c21 := hA.cell 21
    go_wp2_with (first | ((with_reducible apply wl_storeW (ty := 87) hR); rfl; rfl; rfl; kernel_rfl; rfl; rfl; intro w7 hs7 hg7 hz7))
    refine bodyPost_ret (res_cell_tmp rfl _ _ _ _ _ _ rfl hs7 Try.underlying87 rfl (by kernel_rfl)) rfl ?_
    go_light
    exact ⟨rfl, below_only' hB hg7 (by omega)⟩
  · have h2 : (0 : Int) < n := by omega
    go_enter Try.func41, Try.ntmps41
    go_upto_region 1 with (fail)
    generalize (w.alloc (.cells #[.slice none 0 0, .int .i64 0, .int .i64 0, .int .i64 0, .int .i64 0, .int .i64 0, .int .i64 0, .int .i64 0, .int .i64 0, .int .i64 0, .int .i64 0, .int .i64 0, .int .i64 0, .int .i64 0, .int .i64 0, .int .i64 0, .int .i64 0, .int .i64 0, .int .i64 0, .int .i64 0, .int .i64 0, .slice none 0 0] 75)).alloc (.cells #[.int .i64 0, .int .i64 0, .int .i64 0, .string ⟨#[]⟩, .string ⟨#[]⟩] 87) = W1 at *
    have c21 := hA.cell 21
    go_wp2_with (first | ((with_reducible apply wl_storeW (ty := 87) hR); rfl; rfl; rfl; kernel_rfl; rfl; rfl; intro w7 hs7 hg7 hz7))
    refine bodyPost_ret (res_cell_tmp rfl _ _ _ _ _ _ rfl hs7 Try.underlying87 rfl (by kernel_rfl)) rfl ?_
    go_light
    exact ⟨rfl, below_only' hB hg7 (by omega)⟩
set_option maxHeartbeats 2000000 in
set_option maxRecDepth 100000 in
theorem leaves_empty (tb : Array Value) (n : Int) (w : World) : Calls Try.prog 42 #[.agg #[.slice none 0 0, .int .i64 0, .int .i64 0, .int .i64 0, .int .i64 0, .int .i64 0, .int .i64 0, .int .i64 0, .int .i64 0, .int .i64 0, .int .i64 0, .int .i64 0, .int .i64 0, .int .i64 0, .int .i64 0, .int .i64 0, .int .i64 0, .int .i64 0, .int .i64 0, .int .i64 0, .int .i64 0, .slice none 0 0], .agg tb, .int .i64 n] w fun e w' => e = .returned (.slice none 0 0) ∧ Below w.heap.size w w' := by
  have NE := fun w => near_empty n w
  have hA := (Whole.new w 75 #[.slice none 0 0, .int .i64 0, .int .i64 0, .int .i64 0, .int .i64 0, .int .i64 0, .int .i64 0, .int .i64 0, .int .i64 0, .int .i64 0, .int .i64 0, .int .i64 0, .int .i64 0, .int .i64 0, .int .i64 0, .int .i64 0, .int .i64 0, .int .i64 0, .int .i64 0, .int .i64 0, .int .i64 0, .slice none 0 0]).alloc (.cells tb 29)
  have hB : Below w.heap.size w ((w.alloc (.cells #[.slice none 0 0, .int .i64 0, .int .i64 0, .int .i64 0, .int .i64 0, .int .i64 0, .int .i64 0, .int .i64 0, .int .i64 0, .int .i64 0, .int .i64 0, .int .i64 0, .int .i64 0, .int .i64 0, .int .i64 0, .int .i64 0, .int .i64 0, .int .i64 0, .int .i64 0, .int .i64 0, .int .i64 0, .slice none 0 0] 75)).alloc (.cells tb 29)) := by go_grown
  replace NE := Lib.hid NE
  go_enter Try.func42, Try.ntmps42
  go_upto_region 2 with (fail)
  generalize (w.alloc (.cells #[.slice none 0 0, .int .i64 0, .int .i64 0, .int .i64 0, .int .i64 0, .int .i64 0, .int .i64 0, .int .i64 0, .int .i64 0, .int .i64 0, .int .i64 0, .int .i64 0, .int .i64 0, .int .i64 0, .int .i64 0, .int .i64 0, .int .i64 0, .int .i64 0, .int .i64 0, .int .i64 0, .int .i64 0, .slice none 0 0] 75)).alloc (.cells tb 29) = W1 at *
  have c0 := hA.cell 0
  refine wp_region_grow 8 30 (by kernel_rfl) (by kernel_rfl) rfl (fun w3 hl3 => ?_)
  simp only [List.take_succ_cons, List.take_zero, List.drop_succ_cons, List.drop_zero]
  generalize ha : Act.mk _ _ = a0
  have k2 : a0.eval (.tmp 2) = .int .i64 n := by subst ha; rfl
  have k3 : a0.eval (.tmp 3) = .pointer (some ⟨w.heap.size, 0, none⟩) := by subst ha; rfl
  have ks : a0.tmps.size = 30 := by subst ha; rfl
  have ha0 := ha.symm
  clear ha
  apply wpG_value'
  · rfl
  · (intro a wx hlx hk K hK; have e3 : a.eval (.tmp 3) = _ := (hk 3 rfl : a.eval (.tmp 3) = a0.eval (.tmp 3)).trans k3; simp only [execOp, e3]; clear e3 hk; go_simp; exact hK)
  refine wpG_load1 (hl3.cell c0) Try.underlying66 rfl (fun a w hk => hk 10 rfl) ?_
  refine wpG_loadW (hl3.whole hA) Try.underlying75 rfl (by first | kernel_rfl | assumption) (fun a w hk => (hk 3 rfl : a.eval (.tmp 3) = a0.eval (.tmp 3)).trans k3) ?_
  refine wpG_move (fun a w hk => (hk 2 rfl : a.eval (.tmp 2) = a0.eval (.tmp 2)).trans k2) ?_
  refine wpG_call _ _ Try.func80 (by kernel_rfl) (by kernel_rfl) (fun W _ => NE.out W) (fun a w hk => by have e12 : a.eval (.tmp 12) = _ := hk 12 rfl; have e13 : a.eval (.tmp 13) = _ := hk 13 rfl; simp [e12, e13]) ?_
  apply wpG_value'
  · rfl
  · (intro a wx hlx hk K hK; have e11 : a.eval (.tmp 11) = _ := hk 11 rfl; have e14 : a.eval (.tmp 14) = _ := hk 14 rfl; simp only [execOp, resolve, List.map_toArray, List.map_cons, List.map_nil, Option.map_some, Option.map_none, e11, e14]; clear e11 e14 hk; go_simp; exact hK)
  apply wpG_value'
  · rfl
  · (intro a wx hlx hk K hK; have e15 : a.eval (.tmp 15) = _ := hk 15 rfl; simp only [execOp, resolve, List.map_toArray, List.map_cons, List.map_nil, Option.map_some, Option.map_none, e15]; clear e15 hk; go_simp; exact hK)
  refine wpG_move (fun a w hk => rfl) ?_
  refine wpG_nil (fun w3' hl3' => ?_)
  refine fin_is ?_
  refine fin_is ?_
  refine fin_is ?_
  refine fin_is ?_
  refine fin_is ?_
  refine fin_is ?_
  refine fin_is ?_
  refine fin_is ?_
  refine fin_nil ?_
  subst ha0
  clear k2 k3 ks
  simp only [Act.put, List.setIfInBounds_toArray, List.set_cons_succ, List.set_cons_zero]
  have hlq := hl3.trans hl3'
  generalize w3' = W3 at *
  go_wp2_with (fail)
  go_loopg [7, 17] 1 (fun kg o i wr => i = .int .i64 0 ∧ kg = 1 ∧ o = .slice none 0 0 ∧ wr = W3)
  case atStart => exact ⟨rfl, rfl, rfl, rfl⟩
  case round =>
    obtain ⟨rfl, hkg, rfl, rfl⟩ := hrel
    go_wp2_with (fail)
    go_returns
    go_light
    exact ⟨rfl, below_next' hB hlq⟩
set_option maxHeartbeats 2000000 in
set_option maxRecDepth 100000 in
theorem map_empty (n : Int) (w : World) : Calls Try.prog 43 #[.agg #[.slice none 0 0, .int .i64 0, .int .i64 0, .int .i64 0, .int .i64 0, .int .i64 0, .int .i64 0, .int .i64 0, .int .i64 0, .int .i64 0, .int .i64 0, .int .i64 0, .int .i64 0, .int .i64 0, .int .i64 0, .int .i64 0, .int .i64 0, .int .i64 0, .int .i64 0, .int .i64 0, .int .i64 0, .slice none 0 0], .int .i64 n] w fun e w' => (∃ b, e = .returned (.map (some b)) ∧ w'.heap[b]? = some (.map #[] 0)) ∧ Below w.heap.size w w' := by
  have NE := fun w => near_empty n w
  have hmm := @run_makeMap Try.prog
  have hA := Whole.new w 75 #[.slice none 0 0, .int .i64 0, .int .i64 0, .int .i64 0, .int .i64 0, .int .i64 0, .int .i64 0, .int .i64 0, .int .i64 0, .int .i64 0, .int .i64 0, .int .i64 0, .int .i64 0, .int .i64 0, .int .i64 0, .int .i64 0, .int .i64 0, .int .i64 0, .int .i64 0, .int .i64 0, .int .i64 0, .slice none 0 0]
  have hB : Below w.heap.size w (w.alloc (.cells #[.slice none 0 0, .int .i64 0, .int .i64 0, .int .i64 0, .int .i64 0, .int .i64 0, .int .i64 0, .int .i64 0, .int .i64 0, .int .i64 0, .int .i64 0, .int .i64 0, .int .i64 0, .int .i64 0, .int .i64 0, .int .i64 0, .int .i64 0, .int .i64 0, .int .i64 0, .int .i64 0, .int .i64 0, .slice none 0 0] 75)) := by go_grown
  replace NE := Lib.hid NE
  go_enter Try.func43, Try.ntmps43
  go_upto_region 1 with (fail)
  generalize w.alloc (.cells #[.slice none 0 0, .int .i64 0, .int .i64 0, .int .i64 0, .int .i64 0, .int .i64 0, .int .i64 0, .int .i64 0, .int .i64 0, .int .i64 0, .int .i64 0, .int .i64 0, .int .i64 0, .int .i64 0, .int .i64 0, .int .i64 0, .int .i64 0, .int .i64 0, .int .i64 0, .int .i64 0, .int .i64 0, .slice none 0 0] 75) = W1 at *
  have hA2 := hA.alloc (.map #[] 0)
  have hB2 : Below w.heap.size w (W1.alloc (.map #[] 0)) := Below.alloc hB hB.size _
  have hm : (W1.alloc (.map #[] 0)).heap[W1.heap.size]? = some (.map #[] 0) := heap_alloc_new W1 _
  go_upto_region 2 with (fail)
  generalize W1.alloc (.map #[] 0) = W2 at *
  generalize W1.heap.size = gm at *
  have c0 := hA2.cell 0
  refine wp_region_grow 8 30 (by kernel_rfl) (by kernel_rfl) rfl (fun w3 hl3 => ?_)
  simp only [List.take_succ_cons, List.take_zero, List.drop_succ_cons, List.drop_zero]
  generalize ha : Act.mk _ _ = a0
  have k1 : a0.eval (.tmp 1) = .int .i64 n := by subst ha; rfl
  have k2 : a0.eval (.tmp 2) = .pointer (some ⟨w.heap.size, 0, none⟩) := by subst ha; rfl
  have ks : a0.tmps.size = 30 := by subst ha; rfl
  have ha0 := ha.symm
  clear ha
  apply wpG_value'
  · rfl
  · (intro a wx hlx hk K hK; have e2 : a.eval (.tmp 2) = _ := (hk 2 rfl : a.eval (.tmp 2) = a0.eval (.tmp 2)).trans k2; simp only [execOp, e2]; clear e2 hk; go_simp; exact hK)
  refine wpG_load1 (hl3.cell c0) Try.underlying66 rfl (fun a w hk => hk 9 rfl) ?_
  refine wpG_loadW (hl3.whole hA2) Try.underlying75 rfl (by first | kernel_rfl | assumption) (fun a w hk => (hk 2 rfl : a.eval (.tmp 2) = a0.eval (.tmp 2)).trans k2) ?_
  refine wpG_move (fun a w hk => (hk 1 rfl : a.eval (.tmp 1) = a0.eval (.tmp 1)).trans k1) ?_
  refine wpG_call _ _ Try.func80 (by kernel_rfl) (by kernel_rfl) (fun W _ => NE.out W) (fun a w hk => by have e11 : a.eval (.tmp 11) = _ := hk 11 rfl; have e12 : a.eval (.tmp 12) = _ := hk 12 rfl; simp [e11, e12]) ?_
  apply wpG_value'
  · rfl
  · (intro a wx hlx hk K hK; have e10 : a.eval (.tmp 10) = _ := hk 10 rfl; have e13 : a.eval (.tmp 13) = _ := hk 13 rfl; simp only [execOp, resolve, List.map_toArray, List.map_cons, List.map_nil, Option.map_some, Option.map_none, e10, e13]; clear e10 e13 hk; go_simp; exact hK)
  apply wpG_value'
  · rfl
  · (intro a wx hlx hk K hK; have e14 : a.eval (.tmp 14) = _ := hk 14 rfl; simp only [execOp, resolve, List.map_toArray, List.map_cons, List.map_nil, Option.map_some, Option.map_none, e14]; clear e14 hk; go_simp; exact hK)
  refine wpG_move (fun a w hk => rfl) ?_
  refine wpG_nil (fun w3' hl3' => ?_)
  refine fin_is ?_
  refine fin_is ?_
  refine fin_is ?_
  refine fin_is ?_
  refine fin_is ?_
  refine fin_is ?_
  refine fin_is ?_
  refine fin_is ?_
  refine fin_nil ?_
  subst ha0
  clear k1 k2 ks
  simp only [Act.put, List.setIfInBounds_toArray, List.set_cons_succ, List.set_cons_zero]
  have hlq := hl3.trans hl3'
  have hm3 : w3'.heap[gm]? = some (.map #[] 0) := by
    have hlt : gm < W2.heap.size := (Array.getElem?_eq_some_iff.1 hm).1
    rw [Below.block hlq gm hlt]
    exact hm
  generalize w3' = W3 at *
  go_wp2_with (fail)
  go_loopg [16] 1 (fun kg i wr => i = .int .i64 0 ∧ kg = 1 ∧ wr = W3)
  case atStart => exact ⟨rfl, rfl, rfl⟩
  case round =>
    obtain ⟨rfl, hkg, rfl⟩ := hrel
    go_wp2_with (fail)
    go_returns
    go_light
    exact ⟨⟨_, rfl, hm3⟩, below_next' hB2 hlq⟩
theorem len_none (w : World) (b : Nat) (h : w.heap[b]? = some (.map #[] 0)) : (Builtin.len_ #[36] 3 #[.map (some b)]).run Try.prog w = .ok (.int .i64 0) w :=
  World.ownsMap.len (H := Unit) (P := Try.prog) (k := 9) (R := plainElem Try.prog 9) (n := 0) (D := .map []) ⟨#[], 0, h, ⟨by simp, Go.MapKept.stamped_empty 0, by simp⟩, Nat.le_refl _, rfl⟩ Try.underlying36 3
set_option maxHeartbeats 4000000 in
set_option maxRecDepth 100000 in
theorem stateEmpty_calls (now n : Int) (w : World) : Calls Try.prog 12 #[.int .i64 now, .int .i64 n] w fun e w' => e = .returned (.bool true) ∧ Below w.heap.size w w' := by
  have M := fun w => make_calls w
  have hsz : (Try.prog.info? 29).map (·.size) = some (arr .u32 (K64 ++ H8.L)).size := by kernel_rfl
  have htz : (arr .u32 (K64 ++ H8.L)).size = Try.zeroCells29.size := by kernel_rfl
  have ho1 : (arr .u32 (K64 ++ H8.L)).toList.all (·.oneCell') = true := by kernel_rfl
  generalize arr .u32 (K64 ++ H8.L) = tb at *
  have CU := fun w => cut_empty tb now w
  have HE := fun w => head_empty n w
  have LE := fun w => leaves_empty tb n w
  have ME := fun w => map_empty n w
  have AW := fun w => awake11_calls w
  replace M := Lib.hid M
  replace CU := Lib.hid CU
  replace HE := Lib.hid HE
  replace LE := Lib.hid LE
  replace ME := Lib.hid ME
  replace AW := Lib.hid AW
  go_enter Try.func12, Try.ntmps12
  go_upto_region 4 with (first | ((with_reducible refine (M.out _).mono ?_); rintro e w6 ⟨rfl, hB⟩; have hZ := Whole.new w6 29 Try.zeroCells29; have hG6 := hB.size; replace hB := hB.alloc hG6 (.cells Try.zeroCells29 29)) | ((with_reducible apply wl_storeW (ty := 29) hZ); rfl; rfl; rfl; kernel_rfl; exact htz; exact ho1; intro wS hT hgS hzS; replace hB := below_only' hB hgS hG6; clear hgS hzS hZ) | ((with_reducible apply wl_loadW (ty := 29) hT Try.underlying29); rfl; rfl; rfl; exact hsz) | ((with_reducible refine (CU.out _).mono ?_); rintro e w7 ⟨rfl, hb7⟩; replace hT := hT.below hb7 hT.lt; have hX0 := Whole.new w7 75 #[.slice none 0 0, .int .i64 0, .int .i64 0, .int .i64 0, .int .i64 0, .int .i64 0, .int .i64 0, .int .i64 0, .int .i64 0, .int .i64 0, .int .i64 0, .int .i64 0, .int .i64 0, .int .i64 0, .int .i64 0, .int .i64 0, .int .i64 0, .int .i64 0, .int .i64 0, .int .i64 0, .int .i64 0, .slice none 0 0]; replace hB := below_next' hB hb7; have hl7 := hT.lt; have hG7 := hB.size; replace hT := hT.alloc (.cells #[.slice none 0 0, .int .i64 0, .int .i64 0, .int .i64 0, .int .i64 0, .int .i64 0, .int .i64 0, .int .i64 0, .int .i64 0, .int .i64 0, .int .i64 0, .int .i64 0, .int .i64 0, .int .i64 0, .int .i64 0, .int .i64 0, .int .i64 0, .int .i64 0, .int .i64 0, .int .i64 0, .int .i64 0, .slice none 0 0] 75); replace hB : Below w.heap.size w (w7.alloc (.cells #[.slice none 0 0, .int .i64 0, .int .i64 0, .int .i64 0, .int .i64 0, .int .i64 0, .int .i64 0, .int .i64 0, .int .i64 0, .int .i64 0, .int .i64 0, .int .i64 0, .int .i64 0, .int .i64 0, .int .i64 0, .int .i64 0, .int .i64 0, .int .i64 0, .int .i64 0, .int .i64 0, .int .i64 0, .slice none 0 0] 75)) := hB.alloc hG7 _) | (((with_reducible apply wl_storeW (ty := 75) hX0); rfl; rfl; rfl; kernel_rfl; rfl; rfl; intro w12 hs12 hg12 hz12); have hX := hs12; replace hT := Whole.only hT hg12 (fun q => by have := Option.some.inj q; omega); replace hB := below_only' hB hg12 hG7) | ((with_reducible refine (HE.out _).mono ?_); rintro e w8 ⟨rfl, hb8⟩; replace hT := hT.below hb8 hT.lt; replace hX := hX.below hb8 hX.lt; replace hB := below_next' hB hb8; have hY0 := Whole.new w8 87 #[.int .i64 0, .int .i64 0, .int .i64 0, .string ⟨#[]⟩, .string ⟨#[]⟩]; have hl8 := hT.lt; have hm8 := hX.lt; have hG8 := hB.size; replace hT := hT.alloc (.cells #[.int .i64 0, .int .i64 0, .int .i64 0, .string ⟨#[]⟩, .string ⟨#[]⟩] 87); replace hX := hX.alloc (.cells #[.int .i64 0, .int .i64 0, .int .i64 0, .string ⟨#[]⟩, .string ⟨#[]⟩] 87); replace hB : Below w.heap.size w (w8.alloc (.cells #[.int .i64 0, .int .i64 0, .int .i64 0, .string ⟨#[]⟩, .string ⟨#[]⟩] 87)) := hB.alloc hG8 _) | (((with_reducible apply wl_storeW (ty := 87) hY0); rfl; rfl; rfl; kernel_rfl; rfl; rfl; intro w13 hs13 hg13 hz13); replace hT := Whole.only hT hg13 (fun q => by have := Option.some.inj q; omega); replace hX := Whole.only hX hg13 (fun q => by have := Option.some.inj q; omega); replace hB := below_only' hB hg13 hG8))
  generalize (Value.tuple #[.agg #[.slice none 0 0, .int .i64 0, .int .i64 0, .int .i64 0, .int .i64 0, .int .i64 0, .int .i64 0, .int .i64 0, .int .i64 0, .int .i64 0, .int .i64 0, .int .i64 0, .int .i64 0, .int .i64 0, .int .i64 0, .int .i64 0, .int .i64 0, .int .i64 0, .int .i64 0, .int .i64 0, .int .i64 0, .slice none 0 0], .bool false]) = y1
  generalize Value.agg #[.slice none 0 0, .int .i64 0, .int .i64 0, .int .i64 0, .int .i64 0, .int .i64 0, .int .i64 0, .int .i64 0, .int .i64 0, .int .i64 0, .int .i64 0, .int .i64 0, .int .i64 0, .int .i64 0, .int .i64 0, .int .i64 0, .int .i64 0, .int .i64 0, .int .i64 0, .int .i64 0, .int .i64 0, .slice none 0 0] = y2
  generalize (Value.tuple #[.agg #[.int .i64 0, .int .i64 0, .int .i64 0, .string ⟨#[]⟩, .string ⟨#[]⟩], .bool false]) = y3
  generalize Value.agg #[.int .i64 0, .int .i64 0, .int .i64 0, .string ⟨#[]⟩, .string ⟨#[]⟩] = y4
  go_wp2_with (first | ((with_reducible apply wl_loadW (ty := 29) hT Try.underlying29); rfl; rfl; rfl; exact hsz) | ((with_reducible refine (AW.out _).mono ?_); rintro e w9 ⟨rfl, hb9⟩; replace hT := hT.below hb9 hT.lt; replace hX := hX.below hb9 hX.lt; replace hB := below_next' hB hb9; have x21 := hX.cell 21) | ((with_reducible refine (LE.out _).mono ?_); rintro e wa ⟨rfl, hba⟩; replace hT := hT.below hba hT.lt; replace hX := hX.below hba hX.lt; replace hB := below_next' hB hba) | ((with_reducible refine (ME.out _).mono ?_); rintro e wb ⟨⟨bm, rfl, hbm⟩, hbb⟩; replace hB := below_next' hB hbb; have hml := len_none wb bm hbm) | (first | ((with_reducible apply wl_loadW (ty := 75) hX Try.underlying75); rfl; rfl; rfl; kernel_rfl) | ((with_reducible apply wl_loadW (ty := 75) (hX.alloc _) Try.underlying75); rfl; rfl; rfl; kernel_rfl) | ((with_reducible apply wl_loadW (ty := 75) ((hX.alloc _).alloc _) Try.underlying75); rfl; rfl; rfl; kernel_rfl)))
  go_returns
  go_light
  exact ⟨rfl, hB⟩
end Go.Proofs.Ytknjbkbbhgjnlaa
