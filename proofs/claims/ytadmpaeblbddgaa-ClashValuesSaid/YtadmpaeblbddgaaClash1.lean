/- Layer 9: a path, its bits, the empty roots. Condition: at most 2^40 bytes. -/
import Derived.Test.YtadmpaeblbddgaaHash
import Derived.Test.YtadmpaeblbddgaaClashSpec
namespace Go.Proofs.Ytadmpaeblbddgaa
open Go.RowKit
set_option linter.unusedVariables false
set_option linter.unusedSimpArgs false
set_option maxRecDepth 100000 in
theorem path_calls {f : FuncId} {hf : ByteArray → ByteArray} (H : Hasher f hf) (key : ByteArray) (hk : key.size ≤ 1099511627770) (w : World) :
    Calls Try.prog 36 #[.func (.func f) #[] #[], .string key] w fun e w' => e = .returned (.string (hf (⟨#[75]⟩ ++ key))) ∧ Later w w' := by
  have hsz : (⟨#[75]⟩ ++ key : ByteArray).size ≤ 1099511627776 := by rw [ByteArray.size_append]; show 1 + key.size ≤ _; omega
  have C := fun w => H.calls (⟨#[75]⟩ ++ key) w hsz
  have En := H.enters
  replace C := Lib.hid C
  clear H
  go_enter Try.func36, Try.ntmps36
  go_wp2_with (first | ((with_reducible refine (C.out _).mono ?_); rintro e wN ⟨rfl, hbN⟩))
  go_returns
  go_light
  exact ⟨rfl, hbN⟩
theorem u8_shr_and (b n : Nat) (hb : b < 256) (hn : n < 8) : IntKind.u8.wrap ((b : Int) / 2 ^ n) = ((b / 2 ^ n : Nat) : Int) := by
  have : b / 2 ^ n ≤ b := Nat.div_le_self _ _
  have e : ((b : Int) / 2 ^ n) = ((b / 2 ^ n : Nat) : Int) := by simp
  rw [e]
  generalize b / 2 ^ n = q at *
  simp [IntKind.wrap, IntKind.signed, IntKind.bits]
  omega
set_option maxRecDepth 100000 in
theorem bit_calls (p : ByteArray) (i : Nat) (hi : i < 8 * p.size) (hp : p.size ≤ 1099511627776) (w : World) :
    Calls Try.prog 94 #[.string p, .int .i64 i] w fun e w' => e = .returned (.bool (bitQ p i)) ∧ w' = w := by
  have hlt : i / 8 < p.size := by omega
  have hq : bitQ p i = decide (p[i / 8].toNat / 2 ^ (7 - i % 8) % 2 = 1) := by
    unfold bitQ bitN
    rw [List.getD_eq_getElem?_getD, List.getElem?_eq_getElem (by simpa using hlt)]
    rfl
  obtain ⟨j, hj⟩ : ∃ j, i / 8 = j := ⟨_, rfl⟩
  obtain ⟨r, hr⟩ : ∃ r, i % 8 = r := ⟨_, rfl⟩
  have j1 : (i : Int) / 8 = j := by omega
  have j2 : (i : Int).tdiv 8 = j := by rw [Int.tdiv_eq_ediv_of_nonneg (Int.natCast_nonneg _)]; omega
  have r1 : (i : Int) % 8 = r := by omega
  have r2 : (i : Int).tmod 8 = r := by rw [Int.tmod_eq_emod_of_nonneg (Int.natCast_nonneg _)]; omega
  have hr8 : r < 8 := by omega
  simp only [hj, hr] at hq hlt
  have hy8 : (p[j].toNat : Int) < 256 := by have := p[j].toNat_lt; omega
  replace hq := Lib.hid hq
  go_enter Try.func94, Try.ntmps94
  go_wp2
  go_returns
  refine ⟨?_, rfl⟩
  congr 2
  rw [hq.out]
  generalize p[j].toNat = y at *
  have e1 : (y : Int) / 2 ^ (7 - r) = ((y / 2 ^ (7 - r) : Nat) : Int) := by simp
  have h1 : y / 2 ^ (7 - r) ≤ y := Nat.div_le_self _ _
  rw [e1]
  generalize y / 2 ^ (7 - r) = z at *
  have h2 := u8_and_nat z 1 (by omega) (by decide)
  rw [show ((1 : Nat) : Int) = 1 from rfl] at h2
  rw [h2, Nat.and_one_is_mod]
  by_cases h : z % 2 = 1
  · rw [h]; rfl
  · rw [show z % 2 = 0 by omega]; rfl
def RowRet (w : World) (l : List ByteArray) (e : Ending) (w' : World) : Prop := ∃ g, e = .returned (.slice (some ⟨g, 0, none⟩) l.length l.length) ∧ Whole w' g 9 (sarr l) ∧ w.heap.size ≤ g ∧ Later w w'
theorem NT_size (a b : ByteArray) : (NT a b).size = 1 + a.size + b.size := by simp only [NT, ByteArray.size_append]; rfl
theorem emp_size {hf : ByteArray → ByteArray} (h : ∀ s, (hf s).size = 32) (k : Nat) : (emp hf k).size = 32 := by
  cases k with
  | zero => exact h _
  | succ k => exact h _
set_option maxHeartbeats 2000000 in
set_option maxRecDepth 100000 in
theorem empties_calls {f : FuncId} {hf : ByteArray → ByteArray} (H : Hasher f hf) (w : World) :
    Calls Try.prog 93 #[.func (.func f) #[] #[]] w (RowRet w (downL (emp hf) 256)) := by
  have C0 := fun w => H.calls ⟨#[69]⟩ w (by decide)
  have C1 := fun (E : ByteArray) (hE : E.size = 32) w => H.calls ((⟨#[78]⟩ ++ E) ++ E) w (by rw [ByteArray.size_append, ByteArray.size_append, hE]; decide)
  have En := H.enters
  have hmk : ∀ w : World, (Instr.makeSlice 36 (.int .i64 257) (.int .i64 257)).run Try.prog w = .ok (.slice (some ⟨w.heap.size, 0, none⟩) 257 257) (w.alloc (.cells (sarr e257) 9)) := fun w => by
    unfold e257
    rw [← sarr_replicate]
    exact run_make1 (b := 16) Try.underlying36 (by kernel_rfl) rfl 257 (by decide) (by decide) w
  replace C0 := Lib.hid C0
  replace C1 := Lib.hid C1
  have hsz := emp_size H.size
  replace hsz := Lib.hid hsz
  clear H
  obtain ⟨i9, q1, q2, q3, q4⟩ := info_parts (P := Try.prog) (e := 9) (z := .string ⟨#[]⟩) (size := 1) (bytes := 16) (by kernel_rfl)
  have hn := Whole.new w 9 (sarr e257)
  have hB : Later w (w.alloc (.cells (sarr e257) 9)) := (Later.refl w).alloc _
  go_enter Try.func93, Try.ntmps93
  go_wp2_with (first | ((with_reducible refine (C0.out _).mono ?_); rintro e wN ⟨rfl, hbN⟩; replace hn := hbN.whole hn; replace hB := hB.trans hbN; have c0 := sarr_cell hn (i := 256) (by rw [e257_length]; decide); have f0 := hn.frozen 256; have hp := sarr_put hn 256 (hf ⟨#[69]⟩); replace hB := hB.setCell (p := ⟨w.heap.size, 256, none⟩) (Nat.le_refl _) (.string (hf ⟨#[69]⟩))))
  clear hn hbN c0 f0 hmk C0
  replace hp : Whole (wN.setCell ⟨w.heap.size, 256, none⟩ (.string (hf ⟨#[69]⟩))) w.heap.size 9 (sarr (downL (emp hf) 0)) := by rw [← downL_zero]; exact hp
  generalize wN.setCell ⟨w.heap.size, 256, none⟩ (.string (hf ⟨#[69]⟩)) = W2 at *
  go_loopg [4] 257 (fun kg i wr => ∃ m k : Nat, m + k = 256 ∧ kg = m + 1 ∧ i = .int .i64 ((m : Int) - 1) ∧ Whole wr w.heap.size 9 (sarr (downL (emp hf) k)) ∧ Later w wr)
  case atStart => exact ⟨256, 0, rfl, rfl, rfl, hp, hB⟩
  case round =>
    clear hp hB
    obtain ⟨m, k, hmk, hkg, rfl, hw, hB⟩ := hrel
    replace hkg := Lib.hid hkg
    cases m with
    | zero =>
      obtain rfl : k = 256 := by omega
      go_wp2_with (fail)
      go_returns
      go_light
      exact ⟨w.heap.size, by rw [downL_length _ (by decide)]; rfl, hw, Nat.le_refl _, hB⟩
    | succ m =>
      obtain rfl : k = 255 - m := by omega
      have hc := sarr_cell hw (i := m + 1) (by rw [downL_length _ (by omega)]; omega)
      rw [downL_getD _ (by omega) (by omega) (by omega), show 256 - (m + 1) = 255 - m by omega] at hc
      have hst := downL_step (emp hf) (k := 255 - m) (by omega)
      have hnx : emp hf (255 - m + 1) = hf ((⟨#[78]⟩ ++ emp hf (255 - m)) ++ emp hf (255 - m)) := rfl
      rw [show 255 - (255 - m) = m by omega, hnx] at hst
      have hE := hsz.out (255 - m)
      have C2 := C1.out _ hE
      have c1 := sarr_cell hw (i := m) (by rw [downL_length _ (by omega)]; omega)
      generalize emp hf (255 - m) = E at *
      replace hst := Lib.hid hst
      replace C2 := Lib.hid C2
      rw [show (((m + 1 : Nat) : Int) - 1) = (m : Int) by omega]
      have hm : m < 256 := by omega
      clear hmk C1
      have x1 : IntKind.i64.wrap ((m : Int) + 1) = m + 1 := by simp [IntKind.wrap, IntKind.signed, IntKind.bits]; omega
      have x2 : (0 : Int) ≤ (m : Int) + 1 := by omega
      have x3 : (m : Int) + 1 < 257 := by omega
      have x4 : ((m : Int) + 1).toNat = m + 1 := by omega
      have x5 : (0 : Int) ≤ (m : Int) := by omega
      have x6 : (m : Int) < 257 := by omega
      go_upto_region 6 with (fail)
      refine wp_region_grow 17 32 (by kernel_rfl) (by kernel_rfl) rfl (fun w3 hl3 => ?_)
      simp only [List.take_succ_cons, List.take_zero, List.drop_succ_cons, List.drop_zero]
      generalize ha : Act.mk _ _ = a0
      have k0 : a0.eval (.tmp 0) = .func (.func f) #[] #[] := by subst ha; rfl
      have k3 : a0.eval (.tmp 3) = .slice (some ⟨w.heap.size, 0, none⟩) 257 257 := by subst ha; rfl
      have k4 : a0.eval (.tmp 4) = .int .i64 m := by subst ha; rfl
      have ks : a0.tmps.size = 32 := by subst ha; rfl
      have ha0 := ha.symm
      clear ha
      refine wpG_move (fun a w hk => (hk 3 rfl : a.eval (.tmp 3) = a0.eval (.tmp 3)).trans k3) ?_
      refine wpG_move (fun a w hk => (hk 4 rfl : a.eval (.tmp 4) = a0.eval (.tmp 4)).trans k4) ?_
      refine wpG_move (fun a w hk => (hk 0 rfl : a.eval (.tmp 0) = a0.eval (.tmp 0)).trans k0) ?_
      refine wpG_move (fun a w hk => (hk 3 rfl : a.eval (.tmp 3) = a0.eval (.tmp 3)).trans k3) ?_
      refine wpG_move (fun a w hk => (hk 4 rfl : a.eval (.tmp 4) = a0.eval (.tmp 4)).trans k4) ?_
      apply wpG_value'
      · rfl
      · (intro a wx hlx hk K hK; have e18 : a.eval (.tmp 18) = _ := hk 18 rfl; simp only [execOp, e18]; clear e18 hk; go_simp; exact hK)
      apply wpG_value'
      · rfl
      · (intro a wx hlx hk K hK; have e17 : a.eval (.tmp 17) = _ := hk 17 rfl; have e19 : a.eval (.tmp 19) = _ := hk 19 rfl; simp only [execOp, e17, e19]; clear e17 e19 hk; go_simp; exact hK)
      refine wpG_load1 (hl3.cell hc) Try.underlying9 rfl (fun a w hk => hk 20 rfl) ?_
      apply wpG_value'
      · rfl
      · (intro a wx hlx hk K hK; have e21 : a.eval (.tmp 21) = _ := hk 21 rfl; simp only [execOp, e21]; clear e21 hk; go_simp; exact hK)
      refine wpG_move (fun a w hk => (hk 3 rfl : a.eval (.tmp 3) = a0.eval (.tmp 3)).trans k3) ?_
      refine wpG_move (fun a w hk => (hk 4 rfl : a.eval (.tmp 4) = a0.eval (.tmp 4)).trans k4) ?_
      apply wpG_value'
      · rfl
      · (intro a wx hlx hk K hK; have e24 : a.eval (.tmp 24) = _ := hk 24 rfl; simp only [execOp, e24]; clear e24 hk; go_simp; exact hK)
      apply wpG_value'
      · rfl
      · (intro a wx hlx hk K hK; have e23 : a.eval (.tmp 23) = _ := hk 23 rfl; have e25 : a.eval (.tmp 25) = _ := hk 25 rfl; simp only [execOp, e23, e25]; clear e23 e25 hk; go_simp; exact hK)
      refine wpG_load1 (hl3.cell hc) Try.underlying9 rfl (fun a w hk => hk 26 rfl) ?_
      apply wpG_value'
      · rfl
      · (intro a wx hlx hk K hK; have e22 : a.eval (.tmp 22) = _ := hk 22 rfl; have e27 : a.eval (.tmp 27) = _ := hk 27 rfl; simp only [execOp, e22, e27]; clear e22 e27 hk; go_simp; exact hK)
      refine wpG_callv _ _ (En) (fun w _ => C2.out w) (fun a w hk => by have e16 : a.eval (.tmp 16) = _ := hk 16 rfl; have e28 : a.eval (.tmp 28) = _ := hk 28 rfl; exact ⟨e16, by simp [e28]⟩) ?_
      apply wpG_value'
      · rfl
      · (intro a wx hlx hk K hK; have e14 : a.eval (.tmp 14) = _ := hk 14 rfl; have e15 : a.eval (.tmp 15) = _ := hk 15 rfl; simp only [execOp, e14, e15]; clear e14 e15 hk; go_simp; exact hK)
      refine wpG_nil (fun w3' hl3' => ?_)
      refine fin_is ?_
      refine fin_is ?_
      refine fin_is ?_
      refine fin_is ?_
      refine fin_is ?_
      refine fin_is ?_
      refine fin_is ?_
      refine fin_is ?_
      refine fin_is ?_
      refine fin_is ?_
      refine fin_is ?_
      refine fin_is ?_
      refine fin_is ?_
      refine fin_is ?_
      refine fin_is ?_
      refine fin_is ?_
      refine fin_is ?_
      refine fin_nil ?_
      have hl := hl3.trans hl3'
      refine wl_store1 (p := ⟨w.heap.size, m, none⟩) (v := .string (hf ((⟨#[78]⟩ ++ E) ++ E))) (hl.cell c1) ((hl.whole hw).frozen m) q1 q3 (by simp [eval_put, put_size, ks]) (by simp [eval_put, put_size, ks]) rfl rfl ?_
      have hp := sarr_put (hl.whole hw) m (hf ((⟨#[78]⟩ ++ E) ++ E))
      rw [hst.out] at hp
      have hB2 := (hB.trans hl).setCell (p := ⟨w.heap.size, m, none⟩) (Nat.le_refl _) (.string (hf ((⟨#[78]⟩ ++ E) ++ E)))
      subst ha0
      clear k0 k3 k4 ks x1 x2 x3 x4 x5 x6 hc hnx
      go_wp2_with (fail)
      go_roundg (m + 1)
      case measure => go_light; rw [hkg.out]; omega
      case rel => go_light; exact ⟨m, 255 - m + 1, by omega, rfl, rfl, hp, hB2⟩
end Go.Proofs.Ytadmpaeblbddgaa
