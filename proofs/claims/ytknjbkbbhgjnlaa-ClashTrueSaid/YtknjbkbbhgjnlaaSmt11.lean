/- The law's awake: a proof of nothing, in a map that is nil. No conditions. -/
import Derived.Test.YtknjbkbbhgjnlaaSmt10
namespace Go.Proofs.Ytknjbkbbhgjnlaa
open Go.RowKit
set_option linter.unusedVariables false
set_option linter.unusedSimpArgs false
set_option maxHeartbeats 1000000 in
set_option maxRecDepth 100000 in
theorem part_nil (d : Nat) (w : World) :
    Calls Try.prog 67 #[.slice none 0 0, .int .i64 d] w fun e w' => e = .returned (.agg #[.slice none 0 0, .slice none 0 0]) ∧ Later w w' := by
  have hR := (Whole.new w 117 #[.slice none 0 0, .slice none 0 0]).alloc (.cells #[.slice none 0 0, .slice none 0 0] 117)
  have hO := Whole.new (w.alloc (.cells #[.slice none 0 0, .slice none 0 0] 117)) 117 #[.slice none 0 0, .slice none 0 0]
  rw [show (w.alloc (.cells #[.slice none 0 0, .slice none 0 0] 117)).heap.size = w.heap.size + 1 by simp] at hO
  have hB : Later w ((w.alloc (.cells #[.slice none 0 0, .slice none 0 0] 117)).alloc (.cells #[.slice none 0 0, .slice none 0 0] 117)) := ((Later.refl w).alloc _).alloc _
  go_enter Try.func67, Try.ntmps67
  go_upto_region 2 with (fail)
  generalize (w.alloc (.cells #[.slice none 0 0, .slice none 0 0] 117)).alloc (.cells #[.slice none 0 0, .slice none 0 0] 117) = W1 at *
  go_wp2_with (fail)
  go_loopg [11] 1 (fun kg i wr => i = .int .i64 0 ∧ kg = 1 ∧ wr = W1)
  case atStart => exact ⟨rfl, rfl, rfl⟩
  case round =>
    obtain ⟨rfl, hkg, rfl⟩ := hrel
    go_wp2_with (first | (first | ((with_reducible apply wl_loadW (ty := 117) hO Try.underlying117); rfl; rfl; rfl; kernel_rfl) | ((with_reducible apply wl_loadW (ty := 117) (hO.alloc _) Try.underlying117); rfl; rfl; rfl; kernel_rfl) | ((with_reducible apply wl_loadW (ty := 117) ((hO.alloc _).alloc _) Try.underlying117); rfl; rfl; rfl; kernel_rfl)) | ((with_reducible apply wl_storeW (ty := 117) hR); rfl; rfl; rfl; kernel_rfl; rfl; rfl; intro w7 hs7 hg7 hz7))
    refine bodyPost_ret (res_cell1 rfl _ _ _ _ _ _ rfl hs7 Try.underlying117 rfl (by kernel_rfl)) rfl ?_
    go_light
    exact ⟨rfl, below_only' hB hg7 (by omega)⟩
set_option maxHeartbeats 1000000 in
set_option maxRecDepth 100000 in
theorem items_nil (w : World) :
    Calls Try.prog 57 #[.agg (arr .u32 (K64 ++ H8.L)), .map none] w fun e w' => e = .returned (.slice none 0 0) ∧ Later w w' := by
  generalize arr .u32 (K64 ++ H8.L) = tb at *
  have hB : Later w (w.alloc (.cells tb 29)) := (Later.refl w).alloc _
  have hrg := run_range_nilMap (P := Try.prog) (w.alloc (.cells tb 29)) 36 9 9 Try.underlying36
  have hnx : ∀ ty, (Instr.next (.pointer (some ⟨(w.alloc (.cells tb 29)).heap.size, 0, none⟩)) false ty).run Try.prog ((w.alloc (.cells tb 29)).alloc (.mapIter none 0 #[] 0)) = _ := fun ty => run_next_nilMap _ ty 0 0 #[]
  go_enter Try.func57, Try.ntmps57
  go_upto_region 1 with (fail)
  generalize w.alloc (.cells tb 29) = W1 at *
  have hB2 : Later w (W1.alloc (.mapIter none 0 #[] 0)) := hB.alloc _
  go_wp2_with (fail)
  refine wp_loop_rounds 1 ?_
  rw [rounds_succ]
  go_wp2_with (fail)
  go_returns
  go_light
  exact ⟨rfl, hB2⟩
set_option maxHeartbeats 4000000 in
set_option maxRecDepth 100000 in
theorem prove_nil (w : World) :
    Calls Try.prog 28 #[.agg (arr .u32 (K64 ++ H8.L)), .map none, .string ⟨#[]⟩] w fun e w' => (∃ S : ByteArray, e = .returned (.string S) ∧ S.size = 32) ∧ Later w w' := by
  have CE := fun w => sempties_calls w
  have CP := fun w => spath_calls ⟨#[]⟩ (by decide) w
  have CI := fun w => items_nil w
  have CQ := fun d w => part_nil d w
  have hPs : (pathN ⟨#[]⟩).size = 32 := shaN_len _
  have hsz := tb_size
  generalize pathN ⟨#[]⟩ = PT at *
  generalize arr .u32 (K64 ++ H8.L) = tb at *
  have hEs : (sarr (downL (emp shaN) 256)).size = 257 := by rw [sarr_size, downL_length _ (by decide)]
  have hi7 : (Try.prog.info? 41).map (·.size) = some (sarr (downL (emp shaN) 256)).size := by rw [hEs]; kernel_rfl
  have hone := sarr_one (downL (emp shaN) 256)
  have hi9 : (Try.prog.info? 41).map (·.size) = some (sarr e257).size := by rw [sarr_size, e257_length]; kernel_rfl
  have hi8 : (sarr (downL (emp shaN) 256)).size = (sarr e257).size := by rw [hEs, sarr_size, e257_length]
  have hz := zero257s
  obtain ⟨Z, hZ⟩ : ∃ Z, Z = List.replicate 32 (0 : Nat) := ⟨_, rfl⟩
  have hZl : Z.length = 32 := by rw [hZ]; simp
  have hmk : ∀ w : World, (Instr.makeSlice 46 (.int .i64 32) (.int .i64 32)).run Try.prog w = .ok (.slice (some ⟨w.heap.size, 0, none⟩) 32 32) (w.alloc (.cells (arr .u8 Z) 5)) := fun w => by
    have : arr .u8 Z = Array.replicate 32 (.int .u8 0) := by rw [hZ]; unfold arr; rw [List.map_replicate, List.toArray_replicate]; rfl
    rw [this]
    exact run_make1 (b := 1) Try.underlying46 (by kernel_rfl) rfl 32 (by decide) (by decide) w
  have hconv : ∀ (W : World) (g : Nat), Whole W g 5 (arr .u8 Z) → (convert 46 9 (.slice (some ⟨g, 0, none⟩) 32 32)).run Try.prog W = .ok (.string (outB Z)) W := fun W g hW => by
    have := run_convert_bytes_arg (P := Try.prog) W 46 5 Try.underlying46 Try.underlying5 g 0 32 32 (Z.map fun (n : Nat) => (n : Int)) (by simpa using hZl) (fun i hi => by
      rw [Nat.zero_add, arr_cell hW (by omega)]
      congr 2
      rw [List.getD_eq_getElem?_getD, List.getD_eq_getElem?_getD, List.getElem?_map]
      cases Z[i]? <;> rfl) 9 Try.underlying9
    rw [outB_nums] at this
    exact this
  have hOz : (outB Z).size = 32 := by rw [outB_size, hZl]
  clear hZ
  have h1 := Whole.new w 29 tb
  have hB : Later w (w.alloc (.cells tb 29)) := (Later.refl w).alloc _
  replace CE := Lib.hid CE
  replace CP := Lib.hid CP
  replace CI := Lib.hid CI
  replace CQ := Lib.hid CQ
  replace hconv := Lib.hid hconv
  replace hPs := Lib.hid hPs
  replace hEs := Lib.hid hEs
  generalize sarr (downL (emp shaN) 256) = EE at *
  go_enter Try.func28, Try.ntmps28
  go_upto_region 1 with (fail)
  generalize w.alloc (.cells tb 29) = W0 at *
  go_upto_region 4 with (first | ((with_reducible apply wl_loadW (ty := 29) h1 Try.underlying29); rfl; rfl; rfl; exact hsz) | ((with_reducible refine (CE.out _).mono ?_); rintro e wE ⟨rfl, hbE⟩; replace h1 := Later.whole hbE h1; replace hB := hB.trans hbE; have hgg : w.heap.size < wE.heap.size := h1.lt; have hE := Whole.new wE 41 (sarr e257); replace h1 := h1.alloc (.cells (sarr e257) 41); replace hB : Later w (wE.alloc (.cells (sarr e257) 41)) := hB.alloc _) | ((with_reducible apply wl_storeW (ty := 41) hE); rfl; rfl; rfl; exact hi9; exact hi8; exact hone; intro w7 hE7 hg7 hz7; replace h1 := Whole.only h1 hg7 (fun q => by have := Option.some.inj q; omega); replace hB : Later w w7 := below_only' hB hg7 (by omega)) | ((with_reducible refine (CP.out _).mono ?_); rintro e wP ⟨rfl, hlP⟩; replace h1 := Later.whole hlP h1; replace hB := Later.trans hB hlP) | ((with_reducible refine (CI.out _).mono ?_); rintro e wI ⟨rfl, hlI⟩; replace h1 := Later.whole hlI h1; replace hB := Later.trans hB hlI))
  clear hE hE7 hg7 hz7 hbE hlP hlI CE CP CI hz hone hi7 hi8 hi9
  have hgb := Whole.new wI 5 (arr .u8 Z)
  replace h1 := h1.alloc (.cells (arr .u8 Z) 5)
  replace hB : Later w (wI.alloc (.cells (arr .u8 Z) 5)) := Below.alloc hB hB.size _
  go_upto_region 6 with (fail)
  generalize wI.alloc (.cells (arr .u8 Z) 5) = W4 at *
  generalize wI.heap.size = gb at *
  clear hmk
  go_wp2_with (fail)
  go_loopg [9, 11, 24] 257 (fun kg lv rr i wr => ∃ d : Nat, i = .int .i64 d ∧ d ≤ 256 ∧ kg = 257 - d ∧ lv = .slice none 0 0 ∧ rr = .string ⟨#[]⟩ ∧ Whole wr gb 5 (arr .u8 Z) ∧ Whole wr w.heap.size 29 tb ∧ Later w wr)
  case atStart => exact ⟨0, rfl, Nat.zero_le _, rfl, rfl, rfl, hgb, h1, hB⟩
  case round =>
    clear hgb h1 hB
    obtain ⟨d, rfl, hd, hkg, rfl, rfl, hgb, h1, hB⟩ := hrel
    replace hkg := Lib.hid hkg
    by_cases hlt : d < 256
    · have CQ2 := fun w => CQ.out d w
      have CB := fun w => sbit_calls PT d (by rw [hPs.out]; omega) (by rw [hPs.out]; decide) w
      have hzz : ∀ w : World, (zeroValue 117).run Try.prog w = .ok (.agg #[.slice none 0 0, .slice none 0 0]) w := fun w => by kernel_rfl
      replace CQ2 := Lib.hid CQ2
      cases hb : bitQ PT d
      · rw [bitQ_no hb] at CB
        replace CB := Lib.hid CB
        go_wp2_with (first | ((with_reducible refine (CQ2.out _).mono ?_); rintro e w2 ⟨rfl, hl2⟩; replace hgb := Later.whole hl2 hgb; replace h1 := Later.whole hl2 h1; replace hB := Later.trans hB hl2; have hP := Whole.new w2 117 #[.slice none 0 0, .slice none 0 0]; replace hgb := hgb.alloc (.cells #[.slice none 0 0, .slice none 0 0] 117); replace h1 := h1.alloc (.cells #[.slice none 0 0, .slice none 0 0] 117); replace hB : Later w (w2.alloc (.cells #[.slice none 0 0, .slice none 0 0] 117)) := Below.alloc hB hB.size _; have p0 := hP.cell 0; have p1 := hP.cell 1) | ((with_reducible refine (CB.out _).mono ?_); rintro e wB ⟨rfl, rfl⟩))
        go_roundg (256 - d)
        case measure => go_light; rw [hkg.out]; omega
        case rel => go_light; exact ⟨d + 1, by go_num, by omega, by omega, rfl, rfl, hgb, h1, hB⟩
      · rw [(bitQ_true _ _).1 hb] at CB
        replace CB := Lib.hid CB
        go_wp2_with (first | ((with_reducible refine (CQ2.out _).mono ?_); rintro e w2 ⟨rfl, hl2⟩; replace hgb := Later.whole hl2 hgb; replace h1 := Later.whole hl2 h1; replace hB := Later.trans hB hl2; have hP := Whole.new w2 117 #[.slice none 0 0, .slice none 0 0]; replace hgb := hgb.alloc (.cells #[.slice none 0 0, .slice none 0 0] 117); replace h1 := h1.alloc (.cells #[.slice none 0 0, .slice none 0 0] 117); replace hB : Later w (w2.alloc (.cells #[.slice none 0 0, .slice none 0 0] 117)) := Below.alloc hB hB.size _; have p0 := hP.cell 0; have p1 := hP.cell 1) | ((with_reducible refine (CB.out _).mono ?_); rintro e wB ⟨rfl, rfl⟩))
        go_roundg (256 - d)
        case measure => go_light; rw [hkg.out]; omega
        case rel => go_light; exact ⟨d + 1, by go_num, by omega, by omega, rfl, rfl, hgb, h1, hB⟩
    · obtain rfl : d = 256 := by omega
      have hcv := hconv.out _ gb hgb
      go_wp2_with (fail)
      go_returns
      go_light
      exact ⟨⟨_, rfl, by rw [ByteArray.size_append, hOz]; rfl⟩, hB⟩
end Go.Proofs.Ytknjbkbbhgjnlaa
