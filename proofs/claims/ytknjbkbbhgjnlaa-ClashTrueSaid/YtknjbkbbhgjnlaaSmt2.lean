/- Package smt: the empty roots. No conditions. -/
import Derived.Test.YtknjbkbbhgjnlaaSmt1
namespace Go.Proofs.Ytknjbkbbhgjnlaa
open Go.RowKit
set_option linter.unusedVariables false
set_option linter.unusedSimpArgs false
set_option maxHeartbeats 4000000 in
set_option maxRecDepth 100000 in
theorem sempties_calls (w : World) : Calls Try.prog 55 #[.agg (arr .u32 (K64 ++ H8.L))] w fun e w' => e = .returned (.agg (sarr (downL (emp shaN) 256))) ∧ Later w w' := by
  have CE : ∀ w, Calls Try.prog 33 #[.agg (arr .u32 (K64 ++ H8.L)), .string ⟨#[69]⟩] w fun e w' => e = .returned (.string (shaN ⟨#[69]⟩)) ∧ Later w w' := fun w => shaSum_calls ⟨#[69]⟩ (by decide) w
  have CN := fun (E : ByteArray) (hE : E.size = 32) w => snode_calls E E (by omega) (by omega) w
  have hes := emp_len
  have hsz := tb_size
  have hfe : shaN ⟨#[69]⟩ = emp shaN 0 := rfl
  have hfn : ∀ k, emp shaN (k + 1) = shaN (NT (emp shaN k) (emp shaN k)) := fun k => rfl
  have hT0 : (sarr e257).size = 257 := by rw [sarr_size, e257_length]
  obtain ⟨i9, q1, q2, q3, q4⟩ := info_parts (P := Try.prog) (e := 9) (z := .string ⟨#[]⟩) (size := 1) (bytes := 16) (by kernel_rfl)
  have hz := zero257s
  generalize arr .u32 (K64 ++ H8.L) = tb at *
  have h1 := (Whole.new w 29 tb).alloc (.cells (sarr e257) 41)
  have hR := Whole.new (w.alloc (.cells tb 29)) 41 (sarr e257)
  have hB : Later w ((w.alloc (.cells tb 29)).alloc (.cells (sarr e257) 41)) := ((Later.refl w).alloc _).alloc _
  rw [show (w.alloc (.cells tb 29)).heap.size = w.heap.size + 1 by simp] at hR
  have hs2 : ((w.alloc (.cells tb 29)).alloc (.cells (sarr e257) 41)).heap.size = w.heap.size + 2 := by simp
  replace CE := Lib.hid CE
  replace CN := Lib.hid CN
  replace hes := Lib.hid hes
  replace hfe := Lib.hid hfe
  replace hfn := Lib.hid hfn
  go_enter Try.func55, Try.ntmps55
  go_upto_region 1 with (fail)
  generalize (w.alloc (.cells tb 29)).alloc (.cells (sarr e257) 41) = W0 at *
  have hE0 := Whole.new W0 41 (sarr e257)
  replace h1 := h1.alloc (.cells (sarr e257) 41)
  replace hR := hR.alloc (.cells (sarr e257) 41)
  replace hB : Later w (W0.alloc (.cells (sarr e257) 41)) := hB.alloc _
  rw [hs2] at hE0
  go_upto_region 2 with (fail)
  generalize W0.alloc (.cells (sarr e257) 41) = W1 at *
  clear hz
  go_upto_region 3 with (first | ((with_reducible apply wl_loadW (ty := 29) h1 Try.underlying29); rfl; rfl; rfl; exact hsz) | ((with_reducible refine (CE.out _).mono ?_); rintro e wN ⟨rfl, hbN⟩; replace hE0 := hbN.whole hE0; replace h1 := hbN.whole h1; replace hR := hbN.whole hR; replace hB := hB.trans hbN; have d0 := sarr_cell hE0 (i := 256) (by rw [e257_length]; decide); have f0 := hE0.frozen 256; have hp1 := sarr_put hE0 256 (shaN ⟨#[69]⟩); have h11 := h1.far (p := ⟨w.heap.size + 2, 256, none⟩) (show w.heap.size ≠ w.heap.size + 2 by omega) (.string (shaN ⟨#[69]⟩)); have hR1 := hR.far (p := ⟨w.heap.size + 2, 256, none⟩) (show w.heap.size + 1 ≠ w.heap.size + 2 by omega) (.string (shaN ⟨#[69]⟩)); have hB1 : Later w _ := hB.setCell (p := ⟨w.heap.size + 2, 256, none⟩) (by simp) (.string (shaN ⟨#[69]⟩))))
  clear hE0 h1 hR hB hbN d0 f0 CE
  replace hp1 : Whole (wN.setCell ⟨w.heap.size + 2, 256, none⟩ (.string (shaN ⟨#[69]⟩))) (w.heap.size + 2) 41 (sarr (downL (emp shaN) 0)) := by rw [← downL_zero]; exact hp1
  generalize wN.setCell ⟨w.heap.size + 2, 256, none⟩ (.string (shaN ⟨#[69]⟩)) = W2 at *
  go_wp2_with (fail)
  go_loopg [4] 257 (fun kg i wr => ∃ m k : Nat, m + k = 256 ∧ kg = m + 1 ∧ i = .int .i64 ((m : Int) - 1) ∧ Whole wr (w.heap.size + 2) 41 (sarr (downL (emp shaN) k)) ∧ Whole wr w.heap.size 29 tb ∧ Whole wr (w.heap.size + 1) 41 (sarr e257) ∧ Later w wr)
  case atStart => exact ⟨256, 0, rfl, rfl, rfl, hp1, h11, hR1, hB1⟩
  case round =>
    clear hp1 h11 hR1 hB1
    obtain ⟨m, k, hmk, hkg, rfl, hw, h1, hR, hB⟩ := hrel
    replace hkg := Lib.hid hkg
    cases m with
    | zero =>
      obtain rfl : k = 256 := by omega
      have hsz2 : (sarr (downL (emp shaN) 256)).size = 257 := by rw [sarr_size, downL_length _ (by decide)]
      have hone := sarr_one (downL (emp shaN) 256)
      generalize hEE : sarr (downL (emp shaN) 256) = EE at *
      replace hEE := Lib.hid hEE
      have hi7 : (Try.prog.info? 41).map (·.size) = some EE.size := by rw [hsz2]; kernel_rfl
      have hi8 : EE.size = (sarr e257).size := by rw [hsz2, hT0]
      have hi9 : (Try.prog.info? 41).map (·.size) = some (sarr e257).size := by rw [hT0]; kernel_rfl
      go_wp2_with (first | ((with_reducible apply wl_loadW (ty := 41) hw Try.underlying41); rfl; rfl; rfl; exact hi7) | ((with_reducible apply wl_storeW (ty := 41) hR); rfl; rfl; rfl; exact hi9; exact hi8; exact hone; intro w7 hs7 hg7 hz7))
      refine bodyPost_ret (res_cell1 rfl _ _ _ _ _ _ rfl hs7 Try.underlying41 rfl hi7) rfl ?_
      go_light
      exact ⟨by rw [hEE.out], below_only' hB hg7 (by simp)⟩
    | succ m =>
      obtain rfl : k = 255 - m := by omega
      have hc := sarr_cell hw (i := m + 1) (by rw [downL_length _ (by omega)]; omega)
      rw [downL_getD _ (by omega) (by omega) (by omega), show 256 - (m + 1) = 255 - m by omega] at hc
      have hst := downL_step (emp shaN) (k := 255 - m) (by omega)
      rw [show 255 - (255 - m) = m by omega, hfn.out] at hst
      have hE := hes.out (255 - m)
      have C2 := CN.out _ hE
      have c1 := sarr_cell hw (i := m) (by rw [downL_length _ (by omega)]; omega)
      generalize emp shaN (255 - m) = E at *
      generalize shaN (NT E E) = X at *
      replace hst := Lib.hid hst
      replace C2 := Lib.hid C2
      rw [show (((m + 1 : Nat) : Int) - 1) = (m : Int) by omega]
      have hm : m < 256 := by omega
      have x1 : IntKind.i64.wrap ((m : Int) + 1) = m + 1 := by simp [IntKind.wrap, IntKind.signed, IntKind.bits]; omega
      have x2 : (0 : Int) ≤ (m : Int) + 1 := by omega
      have x3 : (m : Int) + 1 < 257 := by omega
      have x4 : ((m : Int) + 1).toNat = m + 1 := by omega
      have x5 : (0 : Int) ≤ (m : Int) := by omega
      have x6 : (m : Int) < 257 := by omega
      go_upto_region 6 with (fail)
      refine wp_region_grow 12 25 (by kernel_rfl) (by kernel_rfl) rfl (fun w3 hl3 => ?_)
      simp only [List.take_succ_cons, List.take_zero, List.drop_succ_cons, List.drop_zero]
      generalize ha : Act.mk _ _ = a0
      have k1 : a0.eval (.tmp 1) = .pointer (some ⟨w.heap.size, 0, none⟩) := by subst ha; rfl
      have k3 : a0.eval (.tmp 3) = .pointer (some ⟨w.heap.size + 2, 0, none⟩) := by subst ha; rfl
      have k4 : a0.eval (.tmp 4) = .int .i64 m := by subst ha; rfl
      have ks : a0.tmps.size = 25 := by subst ha; rfl
      have ha0 := ha.symm
      clear ha
      refine wpG_move (fun a w hk => (hk 4 rfl : a.eval (.tmp 4) = a0.eval (.tmp 4)).trans k4) ?_
      refine wpG_loadW (hl3.whole h1) Try.underlying29 rfl (hsz) (fun a w hk => (hk 1 rfl : a.eval (.tmp 1) = a0.eval (.tmp 1)).trans k1) ?_
      refine wpG_move (fun a w hk => (hk 4 rfl : a.eval (.tmp 4) = a0.eval (.tmp 4)).trans k4) ?_
      apply wpG_value'
      · rfl
      · (intro a wx hlx hk K hK; have e14 : a.eval (.tmp 14) = _ := hk 14 rfl; simp only [execOp, e14]; clear e14 hk; go_simp; exact hK)
      apply wpG_value'
      · rfl
      · (intro a wx hlx hk K hK; have e3 : a.eval (.tmp 3) = _ := (hk 3 rfl : a.eval (.tmp 3) = a0.eval (.tmp 3)).trans k3; have e15 : a.eval (.tmp 15) = _ := hk 15 rfl; simp only [execOp, e3, e15]; clear e3 e15 hk; go_simp; exact hK)
      refine wpG_load1 (hl3.cell hc) Try.underlying9 rfl (fun a w hk => hk 16 rfl) ?_
      refine wpG_move (fun a w hk => (hk 4 rfl : a.eval (.tmp 4) = a0.eval (.tmp 4)).trans k4) ?_
      apply wpG_value'
      · rfl
      · (intro a wx hlx hk K hK; have e18 : a.eval (.tmp 18) = _ := hk 18 rfl; simp only [execOp, e18]; clear e18 hk; go_simp; exact hK)
      apply wpG_value'
      · rfl
      · (intro a wx hlx hk K hK; have e3 : a.eval (.tmp 3) = _ := (hk 3 rfl : a.eval (.tmp 3) = a0.eval (.tmp 3)).trans k3; have e19 : a.eval (.tmp 19) = _ := hk 19 rfl; simp only [execOp, e3, e19]; clear e3 e19 hk; go_simp; exact hK)
      refine wpG_load1 (hl3.cell hc) Try.underlying9 rfl (fun a w hk => hk 20 rfl) ?_
      refine wpG_call _ _ Try.func66 (by kernel_rfl) (by kernel_rfl) (fun w _ => C2.out w) (fun a w hk => by have e13 : a.eval (.tmp 13) = _ := hk 13 rfl; have e17 : a.eval (.tmp 17) = _ := hk 17 rfl; have e21 : a.eval (.tmp 21) = _ := hk 21 rfl; simp [e13, e17, e21]) ?_
      apply wpG_value'
      · rfl
      · (intro a wx hlx hk K hK; have e3 : a.eval (.tmp 3) = _ := (hk 3 rfl : a.eval (.tmp 3) = a0.eval (.tmp 3)).trans k3; have e12 : a.eval (.tmp 12) = _ := hk 12 rfl; simp only [execOp, e3, e12]; clear e3 e12 hk; go_simp; exact hK)
      refine wpG_nil (fun w3' hl3' => ?_)
      refine fin_is ?_
      refine fin_is ?_
      refine fin_is ?_
      refine fin_is ?_
      refine fin_is ?_
      refine fin_is ?_
      refine fin_is ?_
      refine fin_is ?_
      refine fin_is ?_
      refine fin_is ?_
      refine fin_is ?_
      refine fin_is ?_
      refine fin_nil ?_
      have hl := hl3.trans hl3'
      refine wl_store1 (p := ⟨w.heap.size + 2, m, none⟩) (v := .string X) (hl.cell c1) ((hl.whole hw).frozen m) q1 q3 (by simp [eval_put, put_size, ks]) (by simp [eval_put, put_size, ks]) rfl rfl ?_
      have hp := sarr_put (hl.whole hw) m X
      rw [hst.out] at hp
      have h12 := (hl.whole h1).far (p := ⟨w.heap.size + 2, m, none⟩) (show w.heap.size ≠ w.heap.size + 2 by omega) (.string X)
      have hR2 := (hl.whole hR).far (p := ⟨w.heap.size + 2, m, none⟩) (show w.heap.size + 1 ≠ w.heap.size + 2 by omega) (.string X)
      have hB2 : Later w _ := (hB.trans hl).setCell (p := ⟨w.heap.size + 2, m, none⟩) (by simp) (.string X)
      subst ha0
      clear k1 k3 k4 ks x1 x2 x3 x4 x5 x6 hc
      go_wp2_with (fail)
      go_roundg (m + 1)
      case measure => go_light; rw [hkg.out]; omega
      case rel => go_light; exact ⟨m, 255 - m + 1, by omega, rfl, rfl, hp, h12, hR2, hB2⟩
end Go.Proofs.Ytknjbkbbhgjnlaa
