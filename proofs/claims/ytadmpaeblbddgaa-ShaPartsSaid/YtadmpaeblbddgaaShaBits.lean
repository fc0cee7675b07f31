/- The law ShaBits, walked. No conditions. -/
import Derived.Test.YtadmpaeblbddgaaPSha
namespace Go.Proofs.Ytadmpaeblbddgaa
open Go.RowKit
set_option linter.unusedVariables false
set_option linter.unusedSimpArgs false
theorem shaN_size32 (s : ByteArray) : (shaN s).size = 32 := by simp only [shaN, outB_size, flat_size]; rfl
set_option maxHeartbeats 2000000 in
set_option maxRecDepth 100000 in
theorem shaBits_calls (n c : Nat) (hn : n < 65536) (hc : c < 256) (w : World) : Calls Try.prog 10 #[.int .u16 n, .int .u8 c] w fun e w' => e = .returned (.bool true) ∧ Below w.heap.size w w' := by
  have AW := fun w => awake01_calls w
  have M := fun w => make_calls w
  obtain ⟨m, hm⟩ : ∃ m, n % 300 = m := ⟨_, rfl⟩
  have hm3 : m < 300 := by omega
  have r1 : (n : Int).tmod 300 = m := by rw [Int.tmod_eq_emod_of_nonneg (Int.natCast_nonneg _)]; omega
  have r2 : (n : Int) % 300 = m := by omega
  have r3 : IntKind.i64.wrap (m : Int) = m := by simp [IntKind.wrap, IntKind.signed, IntKind.bits]; omega
  have hmk : ∀ w : World, (Instr.makeSlice 66 (.int .i64 (m : Int)) (.int .i64 (m : Int))).run Try.prog w = .ok (.slice (some ⟨w.heap.size, 0, none⟩) m m) (w.alloc (.cells (Array.replicate m (.int .u8 0)) 5)) := fun w => run_make1 (b := 1) Try.underlying66 (by kernel_rfl) rfl m (by omega) (by omega) w
  obtain ⟨L, hL⟩ : ∃ L, List.replicate m c = L := ⟨_, rfl⟩
  have hl : L.length = m := by rw [← hL]; simp
  have hget : ∀ k, k < m → L.getD k 0 = c := fun k hk => by rw [← hL, List.getD_eq_getElem?_getD, List.getElem?_replicate, if_pos hk]; rfl
  have hSz : (outB L).size = m := by rw [outB_size, hl]
  have SS := fun w => shaSum_calls (outB L) (by omega) w
  have RS := fun w => sum01_calls (outB L) (by omega) w
  have h32 := shaN_size32 (outB L)
  have hcvG : ∀ (G : Nat) (W : World), Whole W G 5 (arr .u8 L) → (convert 66 9 (.slice (some ⟨G, 0, none⟩) m m)).run Try.prog W = .ok (.string (outB L)) W := fun G W h => by
    rw [← outB_nums]
    refine run_convert_bytes_arg _ _ 5 rfl rfl _ 0 m m (L.map fun (n : Nat) => (n : Int)) (by simp [hl]) (fun i hi => ?_) _ rfl
    rw [Nat.zero_add, arr_cell h (by omega)]
    simp [List.getD_eq_getElem?_getD, List.getElem?_eq_getElem (show i < L.length by omega)]
  generalize outB L = S at *
  generalize shaN S = H at *
  generalize arr .u32 (K64 ++ H8.L) = tb at *
  clear hm hL
  replace AW := Lib.hid AW
  replace M := Lib.hid M
  replace SS := Lib.hid SS
  replace RS := Lib.hid RS
  replace hget := Lib.hid hget
  replace hcvG := Lib.hid hcvG
  replace hl := Lib.hid hl
  go_enter Try.func10, Try.ntmps10
  go_upto_region 3 with ((with_reducible refine (AW.out _).mono ?_); rintro e w1 ⟨rfl, hB1⟩)
  have h5 : Whole (w1.alloc (.cells (Array.replicate m (.int .u8 0)) 5)) w1.heap.size 5 (arr .u8 (fillL L 0)) := by
    have e : arr .u8 (fillL L 0) = Array.replicate m (.int .u8 0) := by
      rw [fillL_none, hl.out]
      simp [arr]
    rw [e]
    exact Whole.new _ _ _
  have hB2 := hB1.alloc hB1.size (.cells (Array.replicate m (.int .u8 0)) 5)
  have hsG := hB1.size
  go_upto_region 4 with (fail)
  clear hmk
  generalize w1.heap.size = G at *
  generalize w1.alloc (.cells (Array.replicate m (.int .u8 0)) 5) = W1 at *
  have hg0 : W1.grownBy W1 (some G) := only_same _ _
  have hlt1 := h5.lt
  go_wp2_with (fail)
  go_loopg [6] (m + 1) (fun kg i wr => ∃ (k : Nat), k ≤ m ∧ kg = m + 1 - k ∧ i = .int .i64 k ∧ Whole wr G 5 (arr .u8 (fillL L k)) ∧ W1.grownBy wr (some G))
  case atStart => exact ⟨0, Nat.zero_le _, rfl, rfl, h5, hg0⟩
  case round =>
    clear h5 hg0
    obtain ⟨k, hk, hkg, rfl, h5, hg⟩ := hrel
    replace hkg := Lib.hid hkg
    by_cases hlt : k < m
    · have hst := fillL_set L (k := k) (by rw [hl.out]; exact hlt)
      rw [hget.out k hlt] at hst
      have e0 := arr_cell h5 (i := k) (by rw [fillL_length, hl.out]; exact hlt)
      have f0 := h5.frozen k
      have h5n := arr_put h5 k c
      have hgn := only_put hg (p := ⟨G, k, none⟩) (.inl rfl) (.int .u8 (c : Int))
      generalize (fillL L k).getD k 0 = old at e0
      replace hst := Lib.hid hst
      have q9 : ((k : Int) < m) = True := eq_true (by omega)
      go_wp2
      go_roundg (m - k)
      case measure => go_light; rw [hkg.out]; omega
      case rel => go_light; exact ⟨k + 1, by omega, by omega, by go_num, by rw [← hst.out]; exact h5n, hgn⟩
    · obtain rfl : k = m := by omega
      rw [show fillL L k = L by rw [← hl.out]; exact fillL_all L] at h5
      have hBn := below_only hB2 (by omega) hg hsG
      have hcv : ∀ W, Later wr W → (convert 66 9 (.slice (some ⟨G, 0, none⟩) k k)).run Try.prog W = .ok (.string S) W := fun W hW => hcvG.out G W (hW.whole h5)
      replace hcv := Lib.hid hcv
      go_upto_region 8 with (fail)
      refine wp_region_grow 4 38 (by kernel_rfl) (by kernel_rfl) rfl (fun w4 hl4 => ?_)
      simp only [List.take_succ_cons, List.take_zero, List.drop_succ_cons, List.drop_zero]
      generalize ha : Act.mk _ _ = a0
      have k5 : a0.eval (.tmp 5) = .slice (some ⟨G, 0, none⟩) k k := by subst ha; rfl
      have ks : a0.tmps.size = 38 := by subst ha; rfl
      have ha0 := ha.symm
      clear ha
      refine wpG_call _ _ Try.func27 (by kernel_rfl) (by kernel_rfl) (fun W _ => M.out W) (fun a w hk => by first | rfl | simp) ?_
      refine wpG_move (fun a w hk => (hk 5 rfl : a.eval (.tmp 5) = a0.eval (.tmp 5)).trans k5) ?_
      apply wpG_value' (v := .string S)
      · rfl
      · (intro a wx hlx hk K hK; have e25 : a.eval (.tmp 25) = _ := hk 25 rfl; have hcw := hcv.out wx (hl4.trans hlx); simp only [execOp, e25]; clear e25 hk; go_simp; exact hK)
      refine wpG_call _ _ Try.func35 (by kernel_rfl) (by kernel_rfl) (fun W _ => SS.out W) (fun a w hk => by have e24 : a.eval (.tmp 24) = _ := hk 24 rfl; have e26 : a.eval (.tmp 26) = _ := hk 26 rfl; simp [e24, e26]) ?_
      refine wpG_nil (fun w4' hl4' => ?_)
      refine fin_is ?_
      refine fin_is ?_
      refine fin_is ?_
      refine fin_is ?_
      refine fin_nil ?_
      subst ha0
      have hc9 := hcv.out w4' (hl4.trans hl4')
      have hB9 := below_next' hBn (hl4.trans hl4')
      clear k5 ks
      go_wp2_with ((with_reducible refine (RS.out _).mono ?_); rintro e w9 ⟨rfl, hb9⟩; replace hB9 := below_next' hB9 hb9)
      go_returns
      go_light
      exact ⟨by first | rfl | simp, hB9⟩
end Go.Proofs.Ytadmpaeblbddgaa
