/- The reference of layer 5: digest, own, the empty roots, climb. Conditions: at most 2^30 bytes; keys of less than 256. -/
import Derived.Test.YtknjbkbbhgjnlaaSmt3
import Derived.Test.YtknjbkbbhgjnlaaBit05
namespace Go.Proofs.Ytknjbkbbhgjnlaa
open Go.RowKit
set_option linter.unusedVariables false
set_option linter.unusedSimpArgs false
set_option maxRecDepth 100000 in
theorem h05_calls (s : ByteArray) (hs : s.size ≤ 1099511627776) (w : World) :
    Calls Try.prog 58 #[.string s] w fun e w' => e = .returned (.string (shaN s)) ∧ Later w w' := by
  have C := fun w => sum01_calls s hs w
  generalize shaN s = P at *
  replace C := Lib.hid C
  go_enter Try.func58, Try.ntmps58
  go_wp2_with ((with_reducible refine (C.out _).mono ?_); rintro e wN ⟨rfl, hbN⟩)
  go_returns
  go_light
  exact ⟨rfl, hbN⟩
set_option maxRecDepth 100000 in
theorem own05_calls (k v : ByteArray) (hk : k.size < 256) (hv : v.size ≤ 1073741824) (w : World) :
    Calls Try.prog 59 #[.agg #[.string k, .string v]] w fun e w' => e = .returned (.string (ownN (k, v))) ∧ Later w w' := by
  have n1 : ∀ x : Int, (strOfNums [x]).size = 1 := fun x => strOfNums_size _
  have C := fun w => h05_calls (((⟨#[86]⟩ ++ strOfNums [(k.size : Int)]) ++ k) ++ v) (by rw [ByteArray.size_append, ByteArray.size_append, ByteArray.size_append, strOfNums_size]; show 1 + 1 + k.size + v.size ≤ _; omega) w
  have hp : ownN (k, v) = shaN (((⟨#[86]⟩ ++ strOfNums [(k.size : Int)]) ++ k) ++ v) := rfl
  rw [← hp] at C
  generalize ownN (k, v) = P at *
  have h1 := Whole.new w 33 #[.string k, .string v]
  have hB1 : Below w.heap.size w (w.alloc (.cells #[.string k, .string v] 33)) := by go_grown
  have k1 := fun x W => conv1 x W _ rfl
  clear hp
  replace C := Lib.hid C
  go_enter Try.func59, Try.ntmps59
  go_upto_region 1 with (fail)
  generalize w.alloc (.cells #[.string k, .string v] 33) = W1 at *
  have hB2 := hB1.alloc hB1.size (.cells #[.int .u8 (k.size : Int)] 5)
  have c0 := h1.cell 0
  have c1 := (h1.alloc (.cells #[.int .u8 (k.size : Int)] 5)).cell 1
  have c2 := (h1.alloc (.cells #[.int .u8 (k.size : Int)] 5)).cell 0
  go_wp2_with (((with_reducible refine (C.out _).mono ?_); rintro e wN ⟨rfl, hbN⟩; replace hB2 := below_next' hB2 hbN))
  go_returns
  go_light
  exact ⟨rfl, hB2⟩
set_option maxHeartbeats 4000000 in
set_option maxRecDepth 100000 in
theorem empty05_calls (w : World) : Calls Try.prog 21 #[] w fun e w' => e = .returned (.agg (sarr (downL (emp shaN) 256))) ∧ Later w w' := by
  have CE := fun w => h05_calls ⟨#[69]⟩ (by decide) w
  have CN := fun (E : ByteArray) (hE : E.size = 32) w => h05_calls ((⟨#[78]⟩ ++ E) ++ E) (by rw [ByteArray.size_append, ByteArray.size_append, hE]; decide) w
  have hes := emp_len
  have hfn : ∀ k, emp shaN (k + 1) = shaN ((⟨#[78]⟩ ++ emp shaN k) ++ emp shaN k) := fun k => rfl
  have hT0 : (sarr e257).size = 257 := by rw [sarr_size, e257_length]
  obtain ⟨i9, q1, q2, q3, q4⟩ := info_parts (P := Try.prog) (e := 9) (z := .string ⟨#[]⟩) (size := 1) (bytes := 16) (by kernel_rfl)
  have hz := zero257s
  have hR := (Whole.new w 41 (sarr e257)).alloc (.cells (sarr e257) 41)
  have hE0 := Whole.new (w.alloc (.cells (sarr e257) 41)) 41 (sarr e257)
  have hB : Later w ((w.alloc (.cells (sarr e257) 41)).alloc (.cells (sarr e257) 41)) := ((Later.refl w).alloc _).alloc _
  rw [show (w.alloc (.cells (sarr e257) 41)).heap.size = w.heap.size + 1 by simp] at hE0
  replace CE := Lib.hid CE
  replace CN := Lib.hid CN
  replace hes := Lib.hid hes
  replace hfn := Lib.hid hfn
  go_enter Try.func21, Try.ntmps21
  go_upto_region 2 with (fail)
  generalize (w.alloc (.cells (sarr e257) 41)).alloc (.cells (sarr e257) 41) = W1 at *
  clear hz
  go_upto_region 3 with ((with_reducible refine (CE.out _).mono ?_); rintro e wN ⟨rfl, hbN⟩; replace hE0 := hbN.whole hE0; replace hR := hbN.whole hR; replace hB := hB.trans hbN; have d0 := sarr_cell hE0 (i := 256) (by rw [e257_length]; decide); have f0 := hE0.frozen 256; have hp1 := sarr_put hE0 256 (shaN ⟨#[69]⟩); have hR1 := hR.far (p := ⟨w.heap.size + 1, 256, none⟩) (show w.heap.size ≠ w.heap.size + 1 by omega) (.string (shaN ⟨#[69]⟩)); have hB1 : Later w _ := hB.setCell (p := ⟨w.heap.size + 1, 256, none⟩) (by simp) (.string (shaN ⟨#[69]⟩)))
  clear hE0 hR hB hbN d0 f0 CE
  replace hp1 : Whole (wN.setCell ⟨w.heap.size + 1, 256, none⟩ (.string (shaN ⟨#[69]⟩))) (w.heap.size + 1) 41 (sarr (downL (emp shaN) 0)) := by rw [← downL_zero]; exact hp1
  generalize wN.setCell ⟨w.heap.size + 1, 256, none⟩ (.string (shaN ⟨#[69]⟩)) = W2 at *
  go_wp2_with (fail)
  go_loopg [2] 257 (fun kg i wr => ∃ m k : Nat, m + k = 256 ∧ kg = m + 1 ∧ i = .int .i64 ((m : Int) - 1) ∧ Whole wr (w.heap.size + 1) 41 (sarr (downL (emp shaN) k)) ∧ Whole wr w.heap.size 41 (sarr e257) ∧ Later w wr)
  case atStart => exact ⟨256, 0, rfl, rfl, rfl, hp1, hR1, hB1⟩
  case round =>
    clear hp1 hR1 hB1
    obtain ⟨m, k, hmk, hkg, rfl, hw, hR, hB⟩ := hrel
    replace hkg := Lib.hid hkg
    cases m with
    | zero =>
      obtain rfl : k = 256 := by omega
      have hsz2 : (sarr (downL (emp shaN) 256)).size = 257 := by rw [sarr_size, downL_length _ (by decide)]
      have hone := sarr_one (downL (emp shaN) 256)
      generalize hEE : sarr (downL (emp shaN) 256) = EE at *
      replace hEE := Lib.hid hEE
      have hi7 : (Try.prog.info? 41).map (·.size) = some EE.size := by rw [hsz2]; kernel_rfl
      have hi8 : EE.size = (sarr e257).size := by rw [hsz2, hT0]
      have hi9 : (Try.prog.info? 41).map (·.size) = some (sarr e257).size := by rw [hT0]; kernel_rfl
      go_wp2_with (first | ((with_reducible apply wl_loadW (ty := 41) hw Try.underlying41); rfl; rfl; rfl; exact hi7) | ((with_reducible apply wl_storeW (ty := 41) hR); rfl; rfl; rfl; exact hi9; exact hi8; exact hone; intro w7 hs7 hg7 hz7))
      refine bodyPost_ret (res_cell1 rfl _ _ _ _ _ _ rfl hs7 Try.underlying41 rfl hi7) rfl ?_
      go_light
      exact ⟨by rw [hEE.out], below_only' hB hg7 (by simp)⟩
    | succ m =>
      obtain rfl : k = 255 - m := by omega
      have hc := sarr_cell hw (i := m + 1) (by rw [downL_length _ (by omega)]; omega)
      rw [downL_getD _ (by omega) (by omega) (by omega), show 256 - (m + 1) = 255 - m by omega] at hc
      have hst := downL_step (emp shaN) (k := 255 - m) (by omega)
      rw [show 255 - (255 - m) = m by omega, hfn.out] at hst
      have hE := hes.out (255 - m)
      have C2 := CN.out _ hE
      have c1 := sarr_cell hw (i := m) (by rw [downL_length _ (by omega)]; omega)
      generalize emp shaN (255 - m) = E at *
      generalize shaN ((⟨#[78]⟩ ++ E) ++ E) = X at *
      replace hst := Lib.hid hst
      replace C2 := Lib.hid C2
      rw [show (((m + 1 : Nat) : Int) - 1) = (m : Int) by omega]
      have hm : m < 256 := by omega
      have x1 : IntKind.i64.wrap ((m : Int) + 1) = m + 1 := by simp [IntKind.wrap, IntKind.signed, IntKind.bits]; omega
      have x2 : (0 : Int) ≤ (m : Int) + 1 := by omega
      have x3 : (m : Int) + 1 < 257 := by omega
      have x4 : ((m : Int) + 1).toNat = m + 1 := by omega
      have x5 : (0 : Int) ≤ (m : Int) := by omega
      have x6 : (m : Int) < 257 := by omega
      go_upto_region 6 with (fail)
      refine wp_region_grow 13 23 (by kernel_rfl) (by kernel_rfl) rfl (fun w3 hl3 => ?_)
      simp only [List.take_succ_cons, List.take_zero, List.drop_succ_cons, List.drop_zero]
      generalize ha : Act.mk _ _ = a0
      have k1 : a0.eval (.tmp 1) = .pointer (some ⟨w.heap.size + 1, 0, none⟩) := by subst ha; rfl
      have k2 : a0.eval (.tmp 2) = .int .i64 m := by subst ha; rfl
      have ks : a0.tmps.size = 23 := by subst ha; rfl
      have ha0 := ha.symm
      clear ha
      refine wpG_move (fun a w hk => (hk 2 rfl : a.eval (.tmp 2) = a0.eval (.tmp 2)).trans k2) ?_
      refine wpG_move (fun a w hk => (hk 2 rfl : a.eval (.tmp 2) = a0.eval (.tmp 2)).trans k2) ?_
      apply wpG_value'
      · rfl
      · (intro a wx hlx hk K hK; have e10 : a.eval (.tmp 10) = _ := hk 10 rfl; simp only [execOp, e10]; clear e10 hk; go_simp; exact hK)
      apply wpG_value'
      · rfl
      · (intro a wx hlx hk K hK; have e1 : a.eval (.tmp 1) = _ := (hk 1 rfl : a.eval (.tmp 1) = a0.eval (.tmp 1)).trans k1; have e11 : a.eval (.tmp 11) = _ := hk 11 rfl; simp only [execOp, e1, e11]; clear e1 e11 hk; go_simp; exact hK)
      refine wpG_load1 (hl3.cell hc) Try.underlying9 rfl (fun a w hk => hk 12 rfl) ?_
      apply wpG_value'
      · rfl
      · (intro a wx hlx hk K hK; have e13 : a.eval (.tmp 13) = _ := hk 13 rfl; simp only [execOp, e13]; clear e13 hk; go_simp; exact hK)
      refine wpG_move (fun a w hk => (hk 2 rfl : a.eval (.tmp 2) = a0.eval (.tmp 2)).trans k2) ?_
      apply wpG_value'
      · rfl
      · (intro a wx hlx hk K hK; have e15 : a.eval (.tmp 15) = _ := hk 15 rfl; simp only [execOp, e15]; clear e15 hk; go_simp; exact hK)
      apply wpG_value'
      · rfl
      · (intro a wx hlx hk K hK; have e1 : a.eval (.tmp 1) = _ := (hk 1 rfl : a.eval (.tmp 1) = a0.eval (.tmp 1)).trans k1; have e16 : a.eval (.tmp 16) = _ := hk 16 rfl; simp only [execOp, e1, e16]; clear e1 e16 hk; go_simp; exact hK)
      refine wpG_load1 (hl3.cell hc) Try.underlying9 rfl (fun a w hk => hk 17 rfl) ?_
      apply wpG_value'
      · rfl
      · (intro a wx hlx hk K hK; have e14 : a.eval (.tmp 14) = _ := hk 14 rfl; have e18 : a.eval (.tmp 18) = _ := hk 18 rfl; simp only [execOp, e14, e18]; clear e14 e18 hk; go_simp; exact hK)
      refine wpG_call _ _ Try.func58 (by kernel_rfl) (by kernel_rfl) (fun w _ => C2.out w) (fun a w hk => by have e19 : a.eval (.tmp 19) = _ := hk 19 rfl; simp [e19]) ?_
      apply wpG_value'
      · rfl
      · (intro a wx hlx hk K hK; have e1 : a.eval (.tmp 1) = _ := (hk 1 rfl : a.eval (.tmp 1) = a0.eval (.tmp 1)).trans k1; have e9 : a.eval (.tmp 9) = _ := hk 9 rfl; simp only [execOp, e1, e9]; clear e1 e9 hk; go_simp; exact hK)
      refine wpG_nil (fun w3' hl3' => ?_)
      refine fin_is ?_
      refine fin_is ?_
      refine fin_is ?_
      refine fin_is ?_
      refine fin_is ?_
      refine fin_is ?_
      refine fin_is ?_
      refine fin_is ?_
      refine fin_is ?_
      refine fin_is ?_
      refine fin_is ?_
      refine fin_is ?_
      refine fin_is ?_
      refine fin_nil ?_
      have hl := hl3.trans hl3'
      refine wl_store1 (p := ⟨w.heap.size + 1, m, none⟩) (v := .string X) (hl.cell c1) ((hl.whole hw).frozen m) q1 q3 (by simp [eval_put, put_size, ks]) (by simp [eval_put, put_size, ks]) rfl rfl ?_
      have hp := sarr_put (hl.whole hw) m X
      rw [hst.out] at hp
      have hR2 := (hl.whole hR).far (p := ⟨w.heap.size + 1, m, none⟩) (show w.heap.size ≠ w.heap.size + 1 by omega) (.string X)
      have hB2 : Later w _ := (hB.trans hl).setCell (p := ⟨w.heap.size + 1, m, none⟩) (by simp) (.string X)
      subst ha0
      clear k1 k2 ks x1 x2 x3 x4 x5 x6 hc
      go_wp2_with (fail)
      go_roundg (m + 1)
      case measure => go_light; rw [hkg.out]; omega
      case rel => go_light; exact ⟨m, 255 - m + 1, by omega, rfl, rfl, hp, hR2, hB2⟩
/-- Climbing so many levels from the lowest. -/
def climbG (path x : ByteArray) : Nat → ByteArray
  | 0 => x
  | k + 1 => if bitQ path (255 - k) = true then shaN (NT (emp shaN k) (climbG path x k)) else shaN (NT (climbG path x k) (emp shaN k))
theorem climbG_own (p : KV) : ∀ k, climbG (pathN p.1) (ownN p) k = climbS p k
  | 0 => rfl
  | k + 1 => by rw [climbG, climbS, climbG_own p k]
theorem climbG_size {path x : ByteArray} (hx : x.size = 32) (k : Nat) : (climbG path x k).size = 32 := by
  cases k with
  | zero => exact hx
  | succ k => rw [climbG]; split <;> exact shaN_len _
set_option maxHeartbeats 4000000 in
set_option maxRecDepth 100000 in
theorem climb05_calls (path x : ByteArray) (K : Nat) (hP : path.size = 32) (hx : x.size = 32) (hK : K ≤ 256) (w : World) :
    Calls Try.prog 61 #[.agg (sarr (downL (emp shaN) 256)), .string path, .string x, .int .i64 256, .int .i64 ((256 - K : Nat) : Int)] w fun e w' => e = .returned (.string (climbG path x K)) ∧ Later w w' := by
  have hh := fun s h w => h05_calls s h w
  have hcz := fun k => climbG_size (path := path) hx k
  have hcs : ∀ k, climbG path x (k + 1) = if bitQ path (255 - k) = true then shaN (NT (emp shaN k) (climbG path x k)) else shaN (NT (climbG path x k) (emp shaN k)) := fun k => rfl
  have hc0 : climbG path x 0 = x := rfl
  have hes := emp_len
  have hE := Whole.new w 41 (sarr (downL (emp shaN) 256))
  have hB : Later w (w.alloc (.cells (sarr (downL (emp shaN) 256)) 41)) := (Later.refl w).alloc _
  obtain ⟨Q, hQ⟩ : ∃ Q : Nat, 256 - K = Q := ⟨_, rfl⟩
  rw [hQ]
  generalize climbG path x = CG at *
  replace hh := Lib.hid hh
  replace hcz := Lib.hid hcz
  replace hcs := Lib.hid hcs
  replace hes := Lib.hid hes
  replace hc0 := Lib.hid hc0
  go_enter Try.func61, Try.ntmps61
  go_upto_region 2 with (fail)
  generalize w.alloc (.cells (sarr (downL (emp shaN) 256)) 41) = W1 at *
  go_loopg [2, 11] (K + 1) (fun kg xx i wr => ∃ (k : Nat), k ≤ K ∧ kg = K - k + 1 ∧ i = .int .i64 (255 - (k : Int)) ∧ xx = .string (CG k) ∧ Whole wr w.heap.size 41 (sarr (downL (emp shaN) 256)) ∧ Later w wr)
  case atStart => exact ⟨0, Nat.zero_le _, rfl, rfl, by rw [hc0.out], hE, hB⟩
  case round =>
    clear hE hB
    obtain ⟨k, hk, hkg, rfl, rfl, hE, hB⟩ := hrel
    replace hkg := Lib.hid hkg
    by_cases hlt : k < K
    · obtain ⟨m, hm⟩ : ∃ m : Nat, m = 255 - k := ⟨_, rfl⟩
      rw [show 255 - (k : Int) = (m : Int) by omega]
      have hm2 : m < 256 := by omega
      have ce := sarr_cell hE (i := m + 1) (by rw [downL_length _ (by omega)]; omega)
      rw [downL_getD _ (by omega) (by omega) (by omega), show 256 - (m + 1) = k by omega] at ce
      have hnx := hcs.out k
      rw [← hm] at hnx
      have hEs := hes.out k
      have hCs := hcz.out k
      have C1 := fun w => bit05_calls path m (by omega) (by omega) w
      have b1 : ((Q : Int) ≤ m) = True := eq_true (by omega)
      have x1 : IntKind.i64.wrap ((m : Int) + 1) = m + 1 := by simp [IntKind.wrap, IntKind.signed, IntKind.bits]; omega
      have x2 : (0 : Int) ≤ (m : Int) + 1 := by omega
      have x3 : (m : Int) + 1 < 257 := by omega
      have x4 : ((m : Int) + 1).toNat = m + 1 := by omega
      have x5 : (0 : Int) ≤ (m : Int) := by omega
      generalize emp shaN k = E at *
      generalize CG k = X at *
      replace hm := Lib.hid hm
      cases hb : bitQ path m
      · rw [if_neg (by rw [hb]; decide)] at hnx
        rw [bitQ_no hb] at C1
        have Ch := fun w => hh.out ((⟨#[78]⟩ ++ X) ++ E) (by rw [ByteArray.size_append, ByteArray.size_append, hEs, hCs]; decide) w
        replace Ch := Lib.hid Ch
        replace C1 := Lib.hid C1
        replace hnx : Hid (CG (k + 1) = shaN ((⟨#[78]⟩ ++ X) ++ E)) := Lib.hid hnx
        go_wp2_with (first | ((with_reducible refine (C1.out _).mono ?_); rintro e wB ⟨rfl, rfl⟩) | ((with_reducible refine (Ch.out _).mono ?_); rintro e wH ⟨rfl, hlH⟩; replace hE := Later.whole hlH hE; replace hB := hB.trans hlH))
        go_roundg (K - k)
        case measure => go_light; rw [hkg.out]; omega
        case rel => go_light; exact ⟨k + 1, by omega, by omega, congrArg (Value.int .i64) (by have := hm.out; omega), by rw [hnx.out], hE, hB⟩
      · rw [if_pos hb] at hnx
        rw [(bitQ_true _ _).1 hb] at C1
        have Ch := fun w => hh.out ((⟨#[78]⟩ ++ E) ++ X) (by rw [ByteArray.size_append, ByteArray.size_append, hEs, hCs]; decide) w
        replace Ch := Lib.hid Ch
        replace C1 := Lib.hid C1
        replace hnx : Hid (CG (k + 1) = shaN ((⟨#[78]⟩ ++ E) ++ X)) := Lib.hid hnx
        go_wp2_with (first | ((with_reducible refine (C1.out _).mono ?_); rintro e wB ⟨rfl, rfl⟩) | ((with_reducible refine (Ch.out _).mono ?_); rintro e wH ⟨rfl, hlH⟩; replace hE := Later.whole hlH hE; replace hB := hB.trans hlH))
        go_roundg (K - k)
        case measure => go_light; rw [hkg.out]; omega
        case rel => go_light; exact ⟨k + 1, by omega, by omega, congrArg (Value.int .i64) (by have := hm.out; omega), by rw [hnx.out], hE, hB⟩
    · obtain rfl : k = K := by omega
      have b1 : ((Q : Int) ≤ 255 - (k : Int)) = False := eq_false (by omega)
      go_wp2_with (fail)
      go_returns
      go_light
      exact ⟨rfl, hB⟩
end Go.Proofs.Ytknjbkbbhgjnlaa
