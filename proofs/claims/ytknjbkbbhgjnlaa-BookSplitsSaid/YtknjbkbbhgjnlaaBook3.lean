/- The walk of the law BookSplits. No conditions. -/
import Derived.Test.YtknjbkbbhgjnlaaBook2
import Derived.Test.YtknjbkbbhgjnlaaToolA
namespace Go.Proofs.Ytknjbkbbhgjnlaa
open Go.RowKit
set_option linter.unusedVariables false
set_option linter.unusedSimpArgs false
set_option maxHeartbeats 1000000 in
set_option maxRecDepth 100000 in
theorem addNone_calls (tb : Array Value) (hsz : (Try.prog.info? 29).map (·.size) = some tb.size) (w : World) : Calls Try.prog 85 #[.agg #[.slice none 0 0], .agg tb, .agg #[.int .i64 0, .int .i64 0, .int .i64 0, .string ⟨#[]⟩, .string ⟨#[]⟩], .slice none 0 0, .slice none 0 0] w fun e w' => e = .returned (.tuple #[.agg #[.slice none 0 0], .int .i64 2]) ∧ Below w.heap.size w w' := by
  have FA := fun w => formed_calls Hd.zero w
  have hz : Hd.zero.formed = false := by decide
  rw [hz] at FA
  replace FA : ∀ w, Calls Try.prog 48 #[.agg #[.int .i64 0, .int .i64 0, .int .i64 0, .string ⟨#[]⟩, .string ⟨#[]⟩]] w fun e w' => e = .returned (.bool false) ∧ Below w.heap.size w w' := FA
  replace FA := Lib.hid FA
  have hA := ((((Whole.new w 137 #[.slice none 0 0]).alloc (.cells tb 29)).alloc (.cells #[.int .i64 0, .int .i64 0, .int .i64 0, .string ⟨#[]⟩, .string ⟨#[]⟩] 87)).alloc (.cells #[.slice none 0 0] 137))
  have hC := (Whole.new ((w.alloc (.cells #[.slice none 0 0] 137)).alloc (.cells tb 29)) 87 #[.int .i64 0, .int .i64 0, .int .i64 0, .string ⟨#[]⟩, .string ⟨#[]⟩]).alloc (.cells #[.slice none 0 0] 137)
  have hR := Whole.new (((w.alloc (.cells #[.slice none 0 0] 137)).alloc (.cells tb 29)).alloc (.cells #[.int .i64 0, .int .i64 0, .int .i64 0, .string ⟨#[]⟩, .string ⟨#[]⟩] 87)) 137 #[.slice none 0 0]
  have hB : Below w.heap.size w ((((w.alloc (.cells #[.slice none 0 0] 137)).alloc (.cells tb 29)).alloc (.cells #[.int .i64 0, .int .i64 0, .int .i64 0, .string ⟨#[]⟩, .string ⟨#[]⟩] 87)).alloc (.cells #[.slice none 0 0] 137)) := by go_grown
  simp only [show ∀ (W : World) (o : Obj), (W.alloc o).heap.size = W.heap.size + 1 from fun W o => by simp] at hC hR
  go_enter Try.func85, Try.ntmps85
  go_upto_region 1 with (fail)
  generalize ((((w.alloc (.cells #[.slice none 0 0] 137)).alloc (.cells tb 29)).alloc (.cells #[.int .i64 0, .int .i64 0, .int .i64 0, .string ⟨#[]⟩, .string ⟨#[]⟩] 87)).alloc (.cells #[.slice none 0 0] 137)) = W at *
  go_wp2_with (first | (first | ((with_reducible apply wl_loadW (ty := 87) hC Try.underlying87); rfl; rfl; rfl; kernel_rfl) | ((with_reducible apply wl_loadW (ty := 87) (hC.alloc _) Try.underlying87); rfl; rfl; rfl; kernel_rfl) | ((with_reducible apply wl_loadW (ty := 87) ((hC.alloc _).alloc _) Try.underlying87); rfl; rfl; rfl; kernel_rfl)) | (first | ((with_reducible apply wl_loadW (ty := 137) hA Try.underlying137); rfl; rfl; rfl; kernel_rfl) | ((with_reducible apply wl_loadW (ty := 137) (hA.alloc _) Try.underlying137); rfl; rfl; rfl; kernel_rfl) | ((with_reducible apply wl_loadW (ty := 137) ((hA.alloc _).alloc _) Try.underlying137); rfl; rfl; rfl; kernel_rfl)) | ((with_reducible refine (FA.out _).mono ?_); rintro e w3 ⟨rfl, hb⟩; replace hA := hA.below hb hA.lt; replace hR := hR.below hb hR.lt; replace hB := below_next' hB hb) | ((with_reducible apply wl_storeW (ty := 137) hR); rfl; rfl; rfl; kernel_rfl; rfl; rfl; intro w7 hs7 hg7 hz7))
  refine bodyPost_ret (res_cell_tmp rfl _ _ _ _ _ _ rfl hs7 Try.underlying137 rfl (by kernel_rfl)) rfl ?_
  go_light
  exact ⟨rfl, below_only' hB hg7 (by first | omega | (simp; omega))⟩
set_option maxHeartbeats 1000000 in
set_option maxRecDepth 100000 in
theorem awake15_calls (w : World) : Calls Try.prog 47 #[] w fun e w' => e = .returned (.bool true) ∧ Below w.heap.size w w' := by
  have MK := fun w => make_calls w
  have hsz : (Try.prog.info? 29).map (·.size) = some (arr .u32 (K64 ++ H8.L)).size := by kernel_rfl
  generalize arr .u32 (K64 ++ H8.L) = tb at *
  have AD := fun w => addNone_calls tb hsz w
  replace AD := Lib.hid AD
  replace MK := Lib.hid MK
  go_enter Try.func47, Try.ntmps47
  go_wp2_with (first | ((with_reducible refine (MK.out _).mono ?_); rintro e w3 ⟨rfl, hB⟩) | ((with_reducible refine (AD.out _).mono ?_); rintro e w4 ⟨rfl, hb⟩; replace hB := below_next' hB hb))
  go_returns
  go_light
  exact ⟨rfl, hB.alloc hB.size _⟩
set_option maxHeartbeats 4000000 in
set_option maxRecDepth 100000 in
theorem bookSplits_calls (a b : Hd) (w : World) : Calls Try.prog 14 #[.agg a.A, .agg b.A] w fun e w' => e = .returned (.bool true) ∧ Below w.heap.size w w' := by
  have AW := fun w => awake15_calls w
  have F1 := fun w => formed_calls a w
  have F2 := fun w => refFormed_calls a w
  have S1 := fun w => split_calls a b w
  have S2 := fun w => refSplit_calls a b w
  have S3 := fun w => split_calls b a w
  have S4 := fun w => split_calls a a w
  rw [splitB_comm b a] at S3
  rw [splitB_self] at S4
  generalize a.formed = fa at *
  generalize splitB a b = X at *
  obtain ⟨q, qz, qt, qr, qm⟩ := a
  obtain ⟨p, pz, pt, pr, pm⟩ := b
  simp only [Hd.A] at *
  have hA := (Whole.new w 87 #[.int .i64 q, .int .i64 qz, .int .i64 qt, .string qr, .string qm]).alloc (.cells #[.int .i64 p, .int .i64 pz, .int .i64 pt, .string pr, .string pm] 87)
  have hC := Whole.new (w.alloc (.cells #[.int .i64 q, .int .i64 qz, .int .i64 qt, .string qr, .string qm] 87)) 87 #[.int .i64 p, .int .i64 pz, .int .i64 pt, .string pr, .string pm]
  have hB : Below w.heap.size w ((w.alloc (.cells #[.int .i64 q, .int .i64 qz, .int .i64 qt, .string qr, .string qm] 87)).alloc (.cells #[.int .i64 p, .int .i64 pz, .int .i64 pt, .string pr, .string pm] 87)) := by go_grown
  rw [show (w.alloc (.cells #[.int .i64 q, .int .i64 qz, .int .i64 qt, .string qr, .string qm] 87)).heap.size = w.heap.size + 1 by simp] at hC
  replace AW := Lib.hid AW
  replace F1 := Lib.hid F1
  replace F2 := Lib.hid F2
  replace S1 := Lib.hid S1
  replace S2 := Lib.hid S2
  replace S3 := Lib.hid S3
  replace S4 := Lib.hid S4
  go_enter Try.func14, Try.ntmps14
  go_upto_region 1 with (fail)
  generalize (w.alloc (.cells #[.int .i64 q, .int .i64 qz, .int .i64 qt, .string qr, .string qm] 87)).alloc (.cells #[.int .i64 p, .int .i64 pz, .int .i64 pt, .string pr, .string pm] 87) = W at *
  by_cases l1 : qr.size ≤ 40
  case neg =>
    go_wp2_with (first | ((with_reducible refine (AW.out _).mono ?_); rintro e w3 ⟨rfl, hb⟩; replace hA := hA.below hb hA.lt; replace hC := hC.below hb hC.lt; replace hB := below_next' hB hb; have c3 := hA.cell 3; have c4 := hA.cell 4; have d3 := hC.cell 3; have d4 := hC.cell 4) | ((with_reducible refine (AW.out _).mono ?_); rintro e w4 ⟨rfl, hb⟩; replace hB := below_next' hB hb))
    go_returns
    go_light
    exact ⟨rfl, hB⟩
  by_cases l2 : qm.size ≤ 40
  case neg =>
    go_wp2_with (first | ((with_reducible refine (AW.out _).mono ?_); rintro e w3 ⟨rfl, hb⟩; replace hA := hA.below hb hA.lt; replace hC := hC.below hb hC.lt; replace hB := below_next' hB hb; have c3 := hA.cell 3; have c4 := hA.cell 4; have d3 := hC.cell 3; have d4 := hC.cell 4) | ((with_reducible refine (AW.out _).mono ?_); rintro e w4 ⟨rfl, hb⟩; replace hB := below_next' hB hb))
    go_returns
    go_light
    exact ⟨rfl, hB⟩
  by_cases l3 : pr.size ≤ 40
  case neg =>
    go_wp2_with (first | ((with_reducible refine (AW.out _).mono ?_); rintro e w3 ⟨rfl, hb⟩; replace hA := hA.below hb hA.lt; replace hC := hC.below hb hC.lt; replace hB := below_next' hB hb; have c3 := hA.cell 3; have c4 := hA.cell 4; have d3 := hC.cell 3; have d4 := hC.cell 4) | ((with_reducible refine (AW.out _).mono ?_); rintro e w4 ⟨rfl, hb⟩; replace hB := below_next' hB hb))
    go_returns
    go_light
    exact ⟨rfl, hB⟩
  by_cases l4 : pm.size ≤ 40
  case neg =>
    go_wp2_with (first | ((with_reducible refine (AW.out _).mono ?_); rintro e w3 ⟨rfl, hb⟩; replace hA := hA.below hb hA.lt; replace hC := hC.below hb hC.lt; replace hB := below_next' hB hb; have c3 := hA.cell 3; have c4 := hA.cell 4; have d3 := hC.cell 3; have d4 := hC.cell 4) | ((with_reducible refine (AW.out _).mono ?_); rintro e w4 ⟨rfl, hb⟩; replace hB := below_next' hB hb))
    go_returns
    go_light
    exact ⟨rfl, hB⟩
  go_upto_region 3 with (((with_reducible refine (AW.out _).mono ?_); rintro e w3 ⟨rfl, hb⟩; replace hA := hA.below hb hA.lt; replace hC := hC.below hb hC.lt; replace hB := below_next' hB hb; have c3 := hA.cell 3; have c4 := hA.cell 4; have d3 := hC.cell 3; have d4 := hC.cell 4))
  clear c3 c4 d3 d4 l1 l2 l3 l4
  refine wp_region_grow 30 61 (by kernel_rfl) (by kernel_rfl) rfl (fun w3 hl3 => ?_)
  simp only [List.take_succ_cons, List.take_zero, List.drop_succ_cons, List.drop_zero]
  generalize ha : Act.mk _ _ = a0
  have k2 : a0.eval (.tmp 2) = .pointer (some ⟨w.heap.size, 0, none⟩) := by subst ha; rfl
  have k3 : a0.eval (.tmp 3) = .pointer (some ⟨w.heap.size + 1, 0, none⟩) := by subst ha; rfl
  have ks : a0.tmps.size = 61 := by subst ha; rfl
  have ha0 := ha.symm
  clear ha
  refine wpG_loadW (hl3.whole hA) Try.underlying87 rfl (by first | kernel_rfl | assumption) (fun a w hk => (hk 2 rfl : a.eval (.tmp 2) = a0.eval (.tmp 2)).trans k2) ?_
  refine wpG_call _ _ Try.func48 (by kernel_rfl) (by kernel_rfl) (fun W _ => F1.out W) (fun a w hk => by have e32 : a.eval (.tmp 32) = _ := hk 32 rfl; simp [e32]) ?_
  refine wpG_loadW (hl3.whole hA) Try.underlying87 rfl (by first | kernel_rfl | assumption) (fun a w hk => (hk 2 rfl : a.eval (.tmp 2) = a0.eval (.tmp 2)).trans k2) ?_
  refine wpG_call _ _ Try.func49 (by kernel_rfl) (by kernel_rfl) (fun W _ => F2.out W) (fun a w hk => by have e34 : a.eval (.tmp 34) = _ := hk 34 rfl; simp [e34]) ?_
  apply wpG_value'
  · rfl
  · (intro a wx hlx hk K hK; have e33 : a.eval (.tmp 33) = _ := hk 33 rfl; have e35 : a.eval (.tmp 35) = _ := hk 35 rfl; simp only [execOp, e33, e35]; clear e33 e35 hk; go_simp; exact hK)
  refine wpG_move (fun a w hk => hk 36 rfl) ?_
  refine wpG_guard (fun a w hl hk => by have e : a.eval (.tmp 37) = .bool true := hk 37 rfl; rw [wanted_of rfl rfl e]; rfl) ?_
  refine wpG_loadW (hl3.whole hA) Try.underlying87 rfl (by first | kernel_rfl | assumption) (fun a w hk => (hk 2 rfl : a.eval (.tmp 2) = a0.eval (.tmp 2)).trans k2) ?_
  refine wpG_guard (fun a w hl hk => by have e : a.eval (.tmp 37) = .bool true := hk 37 rfl; rw [wanted_of rfl rfl e]; rfl) ?_
  refine wpG_loadW (hl3.whole hC) Try.underlying87 rfl (by first | kernel_rfl | assumption) (fun a w hk => (hk 3 rfl : a.eval (.tmp 3) = a0.eval (.tmp 3)).trans k3) ?_
  refine wpG_guard (fun a w hl hk => by have e : a.eval (.tmp 37) = .bool true := hk 37 rfl; rw [wanted_of rfl rfl e]; rfl) ?_
  refine wpG_call _ _ Try.func50 (by kernel_rfl) (by kernel_rfl) (fun W _ => S1.out W) (fun a w hk => by have e38 : a.eval (.tmp 38) = _ := hk 38 rfl; have e39 : a.eval (.tmp 39) = _ := hk 39 rfl; simp [e38, e39]) ?_
  refine wpG_guard (fun a w hl hk => by have e : a.eval (.tmp 37) = .bool true := hk 37 rfl; rw [wanted_of rfl rfl e]; rfl) ?_
  refine wpG_loadW (hl3.whole hA) Try.underlying87 rfl (by first | kernel_rfl | assumption) (fun a w hk => (hk 2 rfl : a.eval (.tmp 2) = a0.eval (.tmp 2)).trans k2) ?_
  refine wpG_guard (fun a w hl hk => by have e : a.eval (.tmp 37) = .bool true := hk 37 rfl; rw [wanted_of rfl rfl e]; rfl) ?_
  refine wpG_loadW (hl3.whole hC) Try.underlying87 rfl (by first | kernel_rfl | assumption) (fun a w hk => (hk 3 rfl : a.eval (.tmp 3) = a0.eval (.tmp 3)).trans k3) ?_
  refine wpG_guard (fun a w hl hk => by have e : a.eval (.tmp 37) = .bool true := hk 37 rfl; rw [wanted_of rfl rfl e]; rfl) ?_
  refine wpG_call _ _ Try.func51 (by kernel_rfl) (by kernel_rfl) (fun W _ => S2.out W) (fun a w hk => by have e41 : a.eval (.tmp 41) = _ := hk 41 rfl; have e42 : a.eval (.tmp 42) = _ := hk 42 rfl; simp [e41, e42]) ?_
  refine wpG_guard (fun a w hl hk => by have e : a.eval (.tmp 37) = .bool true := hk 37 rfl; rw [wanted_of rfl rfl e]; rfl) ?_
  apply wpG_value'
  · rfl
  · (intro a wx hlx hk K hK; have e40 : a.eval (.tmp 40) = _ := hk 40 rfl; have e43 : a.eval (.tmp 43) = _ := hk 43 rfl; simp only [execOp, e40, e43]; clear e40 e43 hk; go_simp; exact hK)
  apply wpG_value'
  · rfl
  · (intro a wx hlx hk K hK; have e37 : a.eval (.tmp 37) = _ := hk 37 rfl; have e44 : a.eval (.tmp 44) = _ := hk 44 rfl; simp only [execOp, e37, e44]; clear e37 e44 hk; go_simp; exact hK)
  refine wpG_move (fun a w hk => hk 45 rfl) ?_
  refine wpG_guard (fun a w hl hk => by have e : a.eval (.tmp 46) = .bool true := hk 46 rfl; rw [wanted_of rfl rfl e]; rfl) ?_
  refine wpG_loadW (hl3.whole hC) Try.underlying87 rfl (by first | kernel_rfl | assumption) (fun a w hk => (hk 3 rfl : a.eval (.tmp 3) = a0.eval (.tmp 3)).trans k3) ?_
  refine wpG_guard (fun a w hl hk => by have e : a.eval (.tmp 46) = .bool true := hk 46 rfl; rw [wanted_of rfl rfl e]; rfl) ?_
  refine wpG_loadW (hl3.whole hA) Try.underlying87 rfl (by first | kernel_rfl | assumption) (fun a w hk => (hk 2 rfl : a.eval (.tmp 2) = a0.eval (.tmp 2)).trans k2) ?_
  refine wpG_guard (fun a w hl hk => by have e : a.eval (.tmp 46) = .bool true := hk 46 rfl; rw [wanted_of rfl rfl e]; rfl) ?_
  refine wpG_call _ _ Try.func50 (by kernel_rfl) (by kernel_rfl) (fun W _ => S3.out W) (fun a w hk => by have e47 : a.eval (.tmp 47) = _ := hk 47 rfl; have e48 : a.eval (.tmp 48) = _ := hk 48 rfl; simp [e47, e48]) ?_
  refine wpG_guard (fun a w hl hk => by have e : a.eval (.tmp 46) = .bool true := hk 46 rfl; rw [wanted_of rfl rfl e]; rfl) ?_
  refine wpG_loadW (hl3.whole hA) Try.underlying87 rfl (by first | kernel_rfl | assumption) (fun a w hk => (hk 2 rfl : a.eval (.tmp 2) = a0.eval (.tmp 2)).trans k2) ?_
  refine wpG_guard (fun a w hl hk => by have e : a.eval (.tmp 46) = .bool true := hk 46 rfl; rw [wanted_of rfl rfl e]; rfl) ?_
  refine wpG_loadW (hl3.whole hC) Try.underlying87 rfl (by first | kernel_rfl | assumption) (fun a w hk => (hk 3 rfl : a.eval (.tmp 3) = a0.eval (.tmp 3)).trans k3) ?_
  refine wpG_guard (fun a w hl hk => by have e : a.eval (.tmp 46) = .bool true := hk 46 rfl; rw [wanted_of rfl rfl e]; rfl) ?_
  refine wpG_call _ _ Try.func51 (by kernel_rfl) (by kernel_rfl) (fun W _ => S2.out W) (fun a w hk => by have e50 : a.eval (.tmp 50) = _ := hk 50 rfl; have e51 : a.eval (.tmp 51) = _ := hk 51 rfl; simp [e50, e51]) ?_
  refine wpG_guard (fun a w hl hk => by have e : a.eval (.tmp 46) = .bool true := hk 46 rfl; rw [wanted_of rfl rfl e]; rfl) ?_
  apply wpG_value'
  · rfl
  · (intro a wx hlx hk K hK; have e49 : a.eval (.tmp 49) = _ := hk 49 rfl; have e52 : a.eval (.tmp 52) = _ := hk 52 rfl; simp only [execOp, e49, e52]; clear e49 e52 hk; go_simp; exact hK)
  apply wpG_value'
  · rfl
  · (intro a wx hlx hk K hK; have e46 : a.eval (.tmp 46) = _ := hk 46 rfl; have e53 : a.eval (.tmp 53) = _ := hk 53 rfl; simp only [execOp, e46, e53]; clear e46 e53 hk; go_simp; exact hK)
  refine wpG_move (fun a w hk => hk 54 rfl) ?_
  refine wpG_guard (fun a w hl hk => by have e : a.eval (.tmp 55) = .bool true := hk 55 rfl; rw [wanted_of rfl rfl e]; rfl) ?_
  refine wpG_loadW (hl3.whole hA) Try.underlying87 rfl (by first | kernel_rfl | assumption) (fun a w hk => (hk 2 rfl : a.eval (.tmp 2) = a0.eval (.tmp 2)).trans k2) ?_
  refine wpG_guard (fun a w hl hk => by have e : a.eval (.tmp 55) = .bool true := hk 55 rfl; rw [wanted_of rfl rfl e]; rfl) ?_
  refine wpG_loadW (hl3.whole hA) Try.underlying87 rfl (by first | kernel_rfl | assumption) (fun a w hk => (hk 2 rfl : a.eval (.tmp 2) = a0.eval (.tmp 2)).trans k2) ?_
  refine wpG_guard (fun a w hl hk => by have e : a.eval (.tmp 55) = .bool true := hk 55 rfl; rw [wanted_of rfl rfl e]; rfl) ?_
  refine wpG_call _ _ Try.func50 (by kernel_rfl) (by kernel_rfl) (fun W _ => S4.out W) (fun a w hk => by have e56 : a.eval (.tmp 56) = _ := hk 56 rfl; have e57 : a.eval (.tmp 57) = _ := hk 57 rfl; simp [e56, e57]) ?_
  refine wpG_guard (fun a w hl hk => by have e : a.eval (.tmp 55) = .bool true := hk 55 rfl; rw [wanted_of rfl rfl e]; rfl) ?_
  apply wpG_value'
  · rfl
  · (intro a wx hlx hk K hK; have e58 : a.eval (.tmp 58) = _ := hk 58 rfl; simp only [execOp, e58]; clear e58 hk; go_simp; exact hK)
  apply wpG_value'
  · rfl
  · (intro a wx hlx hk K hK; have e55 : a.eval (.tmp 55) = _ := hk 55 rfl; have e59 : a.eval (.tmp 59) = _ := hk 59 rfl; simp only [execOp, e55, e59]; clear e55 e59 hk; go_simp; exact hK)
  refine wpG_assign (fun a w hk => hk 60 rfl) ?_
  refine wpG_nil (fun w3' hl3' => ?_)
  refine fin_is ?_
  refine fin_is ?_
  refine fin_is ?_
  refine fin_is ?_
  refine fin_is ?_
  refine fin_is ?_
  refine fin_is ?_
  refine fin_is ?_
  refine fin_is ?_
  refine fin_is ?_
  refine fin_is ?_
  refine fin_is ?_
  refine fin_is ?_
  refine fin_is ?_
  refine fin_is ?_
  refine fin_is ?_
  refine fin_is ?_
  refine fin_is ?_
  refine fin_is ?_
  refine fin_is ?_
  refine fin_is ?_
  refine fin_is ?_
  refine fin_is ?_
  refine fin_is ?_
  refine fin_is ?_
  refine fin_is ?_
  refine fin_is ?_
  refine fin_is ?_
  refine fin_is ?_
  refine fin_is ?_
  refine fin_nil ?_
  subst ha0
  clear k2 k3 ks
  simp only [Act.put, List.setIfInBounds_toArray, List.set_cons_succ, List.set_cons_zero]
  go_wp2_with (fail)
  go_returns
  go_light
  exact ⟨ret_bool rfl, below_next' hB (hl3.trans hl3')⟩
end Go.Proofs.Ytknjbkbbhgjnlaa
