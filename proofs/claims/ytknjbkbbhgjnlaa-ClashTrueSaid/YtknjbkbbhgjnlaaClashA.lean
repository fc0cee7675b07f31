/- Several texts in one. No conditions. -/
import Derived.Test.YtknjbkbbhgjnlaaShaR3
import Derived.Test.YtknjbkbbhgjnlaaToolA
import Derived.Shelf.Abstract
import Derived.Test.YtknjbkbbhgjnlaaClashSpec
import Derived.Test.YtknjbkbbhgjnlaaConv1
import Derived.WalkSpells
import Derived.StillTactics
/- Hashers: what a hash function gives, whatever the world. Condition: at most 2^40 bytes. -/
namespace Go.Proofs.Ytknjbkbbhgjnlaa
open Go.RowKit
set_option linter.unusedVariables false
set_option linter.unusedSimpArgs false
/-- The weak hash's number, behind i bytes. -/
def weakK (s : ByteArray) : Nat → Nat
  | 0 => 7
  | i + 1 => (weakK s i * 31 + (s.data.toList.getD i 0).toNat + i) % 1009
theorem weakK_lt (s : ByteArray) (i : Nat) : weakK s i < 1009 := by
  cases i with
  | zero => show 7 < 1009; decide
  | succ i => exact Nat.mod_lt _ (by decide)
def weakS (n : Nat) (s : ByteArray) : ByteArray := strOfNums (((weakK s s.size % n : Nat) : Int) :: List.replicate 31 0)
theorem weakS_size (n : Nat) (s : ByteArray) : (weakS n s).size = 32 := by simp [weakS, strOfNums_size]
set_option maxRecDepth 100000 in
theorem conv32 (w : World) (x : Int) : (convert 46 9 (.slice (some ⟨w.heap.size, 0, none⟩) 32 32)).run Try.prog (w.alloc (.cells ((Array.replicate 32 (.int .u8 0)).setIfInBounds 0 (.int .u8 x)) 5)) = .ok (.string (strOfNums (x :: List.replicate 31 0))) (w.alloc (.cells ((Array.replicate 32 (.int .u8 0)).setIfInBounds 0 (.int .u8 x)) 5)) := by
  refine run_convert_bytes_arg _ _ 5 rfl rfl _ 0 32 32 (x :: List.replicate 31 0) rfl (fun i hi => ?_) _ rfl
  have hw := (Whole.new w 5 ((Array.replicate 32 (.int .u8 0)).setIfInBounds 0 (.int .u8 x))).cell
  rw [hw]
  cases i with
  | zero => simp
  | succ i =>
    have h31 : i < 31 := by omega
    rw [Array.getElem?_setIfInBounds_ne (by omega)]
    simp only [Nat.zero_add, Array.getElem?_replicate, if_pos hi]
    rw [List.getD_eq_getElem?_getD, List.getElem?_cons_succ, List.getElem?_replicate, if_pos h31]
    rfl
set_option maxHeartbeats 1000000 in
set_option maxRecDepth 100000 in
theorem weak_calls (s : ByteArray) (hs : s.size ≤ 1099511627776) (n : Nat) (hn : 0 < n) (hn2 : n ≤ 256) (w : World) :
    Calls Try.prog 94 #[.string s, .int .i64 n] w fun e w' => e = .returned (.string (weakS n s)) ∧ Later w w' := by
  go_enter Try.func94, Try.ntmps94
  go_wp2
  go_loop [5, 6] (fun k i => ∃ j : Nat, j ≤ s.size ∧ i = .int .i64 j ∧ k = .int .i64 (weakK s j)) (fun _ i => s.size - (intOf i).toNat)
  case atStart => exact ⟨0, Nat.zero_le _, rfl, rfl⟩
  case round =>
    obtain ⟨j, hj, rfl, rfl⟩ := hrel
    have hk := weakK_lt s j
    by_cases hlt : j < s.size
    · have hst : weakK s (j + 1) = (weakK s j * 31 + s[j].toNat + j) % 1009 := by
        simp only [weakK]
        rw [List.getD_eq_getElem?_getD, List.getElem?_eq_getElem (by simpa using hlt)]
        rfl
      replace hst := Lib.hid hst
      generalize weakK s j = x at *
      have hb : (s[j].toNat : Int) < 256 := by have := s[j].toNat_lt; omega
      go_wp2
      go_round
      case rel => exact ⟨j + 1, by omega, by go_num, by rw [hst.out]; exact congrArg (Value.int .i64) (by omega)⟩
      case measure => simp [intOf]; omega
    · obtain rfl : j = s.size := by omega
      have hmk : ∀ w : World, (Instr.makeSlice 46 (.int .i64 32) (.int .i64 32)).run Try.prog w = .ok (.slice (some ⟨w.heap.size, 0, none⟩) 32 32) (w.alloc (.cells (Array.replicate 32 (.int .u8 0)) 5)) := fun w => run_make1 (b := 1) Try.underlying46 (by kernel_rfl) rfl 32 (by decide) (by decide) w
      have hcv : ∀ (w : World) (x : Int), (convert 46 9 (.slice (some ⟨w.heap.size, 0, none⟩) 32 32)).run Try.prog (w.alloc (.cells ((Array.replicate 32 (.int .u8 0)).setIfInBounds 0 (.int .u8 x)) 5)) = .ok (.string (strOfNums (x :: List.replicate 31 0))) (w.alloc (.cells ((Array.replicate 32 (.int .u8 0)).setIfInBounds 0 (.int .u8 x)) 5)) := fun w x => conv32 w x
      obtain ⟨k, hkk⟩ : ∃ k, weakK s s.size = k := ⟨_, rfl⟩
      rw [hkk] at hk ⊢
      replace hkk := Lib.hid hkk
      have hkn : k % n < n := Nat.mod_lt _ hn
      obtain ⟨y, hy⟩ : ∃ y, k % n = y := ⟨_, rfl⟩
      have y1 : (k : Int) % (n : Int) = y := by rw [← hy]; simp
      have y2 : (k : Int).tmod (n : Int) = y := by rw [Int.tmod_eq_emod_of_nonneg (Int.natCast_nonneg _), y1]
      have y3 : IntKind.u8.wrap (y : Int) = y := by simp [IntKind.wrap, IntKind.signed, IntKind.bits]; omega
      have y4 : (y : Int) % 256 = y := by omega
      rw [hy] at hkn
      replace hy := Lib.hid hy
      have hz : (n : Int) ≠ 0 := by omega
      go_wp2
      go_returns
      go_light
      refine ⟨ret_str ?_, (Later.refl w).alloc _⟩
      unfold weakS
      rw [hkk.out, hy.out]
      rfl
/-- A hash function, by its number. -/
structure Hasher (f : FuncId) (hf : ByteArray → ByteArray) : Prop where
  enters : ∀ args w, (callFunc f args).run Try.prog w = .ok (.enter f args) w
  calls : ∀ (s : ByteArray) (w : World), s.size ≤ 1099511627776 → Calls Try.prog f #[.string s] w fun e w' => e = .returned (.string (hf s)) ∧ Later w w'
  size : ∀ s, (hf s).size = 32
theorem shaN_size (s : ByteArray) : (shaN s).size = 32 := by simp only [shaN, outB_size, flat_size]; rfl
set_option maxRecDepth 100000 in
theorem two_calls (s : ByteArray) (w : World) (hs : s.size ≤ 1099511627776) : Calls Try.prog 68 #[.string s] w fun e w' => e = .returned (.string (weakS 2 s)) ∧ Later w w' := by
  have C : ∀ w : World, Calls Try.prog 94 #[.string s, .int .i64 2] w (fun e w' => e = .returned (.string (weakS 2 s)) ∧ Later w w') := fun w => weak_calls s hs 2 (by decide) (by decide) w
  replace C := Lib.hid C
  go_enter Try.func68, Try.ntmps68
  go_wp2_with (((with_reducible refine (C.out _).mono ?_); rintro e wN ⟨rfl, hbN⟩))
  go_returns
  go_light
  exact ⟨rfl, hbN⟩
set_option maxRecDepth 100000 in
theorem full_calls (s : ByteArray) (w : World) (hs : s.size ≤ 1099511627776) : Calls Try.prog 31 #[.string s] w fun e w' => e = .returned (.string (shaN s)) ∧ Later w w' := by
  have C := fun w => sum01_calls s hs w
  replace C := Lib.hid C
  go_enter Try.func31, Try.ntmps31
  go_wp2_with (((with_reducible refine (C.out _).mono ?_); rintro e wN ⟨rfl, hbN⟩))
  go_returns
  go_light
  exact ⟨rfl, hbN⟩
theorem two_hasher : Hasher 68 (weakS 2) := ⟨enters_of Try.func68 (by kernel_rfl) rfl, fun s w h => two_calls s w h, weakS_size 2⟩
theorem full_hasher : Hasher 31 shaN := ⟨enters_of Try.func31 (by kernel_rfl) rfl, fun s w h => full_calls s w h, shaN_size⟩
end Go.Proofs.Ytknjbkbbhgjnlaa

/- Layer 9: a path, its bits, the empty roots. Condition: at most 2^40 bytes. -/
namespace Go.Proofs.Ytknjbkbbhgjnlaa
open Go.RowKit
set_option linter.unusedVariables false
set_option linter.unusedSimpArgs false
set_option maxRecDepth 100000 in
theorem path_calls {f : FuncId} {hf : ByteArray → ByteArray} (H : Hasher f hf) (key : ByteArray) (hk : key.size ≤ 1099511627770) (w : World) :
    Calls Try.prog 32 #[.func (.func f) #[] #[], .string key] w fun e w' => e = .returned (.string (hf (⟨#[75]⟩ ++ key))) ∧ Later w w' := by
  have hsz : (⟨#[75]⟩ ++ key : ByteArray).size ≤ 1099511627776 := by rw [ByteArray.size_append]; show 1 + key.size ≤ _; omega
  have C := fun w => H.calls (⟨#[75]⟩ ++ key) w hsz
  have En := H.enters
  replace C := Lib.hid C
  clear H
  go_enter Try.func32, Try.ntmps32
  go_wp2_with (first | ((with_reducible refine (C.out _).mono ?_); rintro e wN ⟨rfl, hbN⟩))
  go_returns
  go_light
  exact ⟨rfl, hbN⟩
theorem u8_shr_and (b n : Nat) (hb : b < 256) (hn : n < 8) : IntKind.u8.wrap ((b : Int) / 2 ^ n) = ((b / 2 ^ n : Nat) : Int) := by
  have : b / 2 ^ n ≤ b := Nat.div_le_self _ _
  have e : ((b : Int) / 2 ^ n) = ((b / 2 ^ n : Nat) : Int) := by simp
  rw [e]
  generalize b / 2 ^ n = q at *
  simp [IntKind.wrap, IntKind.signed, IntKind.bits]
  omega
set_option maxRecDepth 100000 in
theorem bit_calls (p : ByteArray) (i : Nat) (hi : i < 8 * p.size) (hp : p.size ≤ 1099511627776) (w : World) :
    Calls Try.prog 96 #[.string p, .int .i64 i] w fun e w' => e = .returned (.bool (bitQ p i)) ∧ w' = w := by
  have hlt : i / 8 < p.size := by omega
  have hq : bitQ p i = decide (p[i / 8].toNat / 2 ^ (7 - i % 8) % 2 = 1) := by
    unfold bitQ bitN
    rw [List.getD_eq_getElem?_getD, List.getElem?_eq_getElem (by simpa using hlt)]
    rfl
  obtain ⟨j, hj⟩ : ∃ j, i / 8 = j := ⟨_, rfl⟩
  obtain ⟨r, hr⟩ : ∃ r, i % 8 = r := ⟨_, rfl⟩
  have j1 : (i : Int) / 8 = j := by omega
  have j2 : (i : Int).tdiv 8 = j := by rw [Int.tdiv_eq_ediv_of_nonneg (Int.natCast_nonneg _)]; omega
  have r1 : (i : Int) % 8 = r := by omega
  have r2 : (i : Int).tmod 8 = r := by rw [Int.tmod_eq_emod_of_nonneg (Int.natCast_nonneg _)]; omega
  have hr8 : r < 8 := by omega
  simp only [hj, hr] at hq hlt
  have hy8 : (p[j].toNat : Int) < 256 := by have := p[j].toNat_lt; omega
  replace hq := Lib.hid hq
  go_enter Try.func96, Try.ntmps96
  go_wp2
  go_returns
  refine ⟨?_, rfl⟩
  congr 2
  rw [hq.out]
  generalize p[j].toNat = y at *
  have e1 : (y : Int) / 2 ^ (7 - r) = ((y / 2 ^ (7 - r) : Nat) : Int) := by simp
  have h1 : y / 2 ^ (7 - r) ≤ y := Nat.div_le_self _ _
  rw [e1]
  generalize y / 2 ^ (7 - r) = z at *
  have h2 := u8_and_nat z 1 (by omega) (by decide)
  rw [show ((1 : Nat) : Int) = 1 from rfl] at h2
  rw [h2, Nat.and_one_is_mod]
  by_cases h : z % 2 = 1
  · rw [h]; rfl
  · rw [show z % 2 = 0 by omega]; rfl
def RowRet (w : World) (l : List ByteArray) (e : Ending) (w' : World) : Prop := ∃ g, e = .returned (.slice (some ⟨g, 0, none⟩) l.length l.length) ∧ Whole w' g 9 (sarr l) ∧ w.heap.size ≤ g ∧ Later w w'
theorem NT_size (a b : ByteArray) : (NT a b).size = 1 + a.size + b.size := by simp only [NT, ByteArray.size_append]; rfl
theorem emp_size {hf : ByteArray → ByteArray} (h : ∀ s, (hf s).size = 32) (k : Nat) : (emp hf k).size = 32 := by
  cases k with
  | zero => exact h _
  | succ k => exact h _
set_option maxHeartbeats 2000000 in
set_option maxRecDepth 100000 in
theorem empties_calls {f : FuncId} {hf : ByteArray → ByteArray} (H : Hasher f hf) (w : World) :
    Calls Try.prog 95 #[.func (.func f) #[] #[]] w (RowRet w (downL (emp hf) 256)) := by
  have C0 := fun w => H.calls ⟨#[69]⟩ w (by decide)
  have C1 := fun (E : ByteArray) (hE : E.size = 32) w => H.calls ((⟨#[78]⟩ ++ E) ++ E) w (by rw [ByteArray.size_append, ByteArray.size_append, hE]; decide)
  have En := H.enters
  have hmk : ∀ w : World, (Instr.makeSlice 44 (.int .i64 257) (.int .i64 257)).run Try.prog w = .ok (.slice (some ⟨w.heap.size, 0, none⟩) 257 257) (w.alloc (.cells (sarr e257) 9)) := fun w => by
    unfold e257
    rw [← sarr_replicate]
    exact run_make1 (b := 16) Try.underlying44 (by kernel_rfl) rfl 257 (by decide) (by decide) w
  replace C0 := Lib.hid C0
  replace C1 := Lib.hid C1
  have hsz := emp_size H.size
  replace hsz := Lib.hid hsz
  clear H
  obtain ⟨i9, q1, q2, q3, q4⟩ := info_parts (P := Try.prog) (e := 9) (z := .string ⟨#[]⟩) (size := 1) (bytes := 16) (by kernel_rfl)
  have hn := Whole.new w 9 (sarr e257)
  have hB : Later w (w.alloc (.cells (sarr e257) 9)) := (Later.refl w).alloc _
  go_enter Try.func95, Try.ntmps95
  go_wp2_with (first | ((with_reducible refine (C0.out _).mono ?_); rintro e wN ⟨rfl, hbN⟩; replace hn := hbN.whole hn; replace hB := hB.trans hbN; have c0 := sarr_cell hn (i := 256) (by rw [e257_length]; decide); have f0 := hn.frozen 256; have hp := sarr_put hn 256 (hf ⟨#[69]⟩); replace hB := hB.setCell (p := ⟨w.heap.size, 256, none⟩) (Nat.le_refl _) (.string (hf ⟨#[69]⟩))))
  clear hn hbN c0 f0 hmk C0
  replace hp : Whole (wN.setCell ⟨w.heap.size, 256, none⟩ (.string (hf ⟨#[69]⟩))) w.heap.size 9 (sarr (downL (emp hf) 0)) := by rw [← downL_zero]; exact hp
  generalize wN.setCell ⟨w.heap.size, 256, none⟩ (.string (hf ⟨#[69]⟩)) = W2 at *
  go_loopg [4] 257 (fun kg i wr => ∃ m k : Nat, m + k = 256 ∧ kg = m + 1 ∧ i = .int .i64 ((m : Int) - 1) ∧ Whole wr w.heap.size 9 (sarr (downL (emp hf) k)) ∧ Later w wr)
  case atStart => exact ⟨256, 0, rfl, rfl, rfl, hp, hB⟩
  case round =>
    clear hp hB
    obtain ⟨m, k, hmk, hkg, rfl, hw, hB⟩ := hrel
    replace hkg := Lib.hid hkg
    cases m with
    | zero =>
      obtain rfl : k = 256 := by omega
      go_wp2_with (fail)
      go_returns
      go_light
      exact ⟨w.heap.size, by rw [downL_length _ (by decide)]; rfl, hw, Nat.le_refl _, hB⟩
    | succ m =>
      obtain rfl : k = 255 - m := by omega
      have hc := sarr_cell hw (i := m + 1) (by rw [downL_length _ (by omega)]; omega)
      rw [downL_getD _ (by omega) (by omega) (by omega), show 256 - (m + 1) = 255 - m by omega] at hc
      have hst := downL_step (emp hf) (k := 255 - m) (by omega)
      have hnx : emp hf (255 - m + 1) = hf ((⟨#[78]⟩ ++ emp hf (255 - m)) ++ emp hf (255 - m)) := rfl
      rw [show 255 - (255 - m) = m by omega, hnx] at hst
      have hE := hsz.out (255 - m)
      have C2 := C1.out _ hE
      have c1 := sarr_cell hw (i := m) (by rw [downL_length _ (by omega)]; omega)
      generalize emp hf (255 - m) = E at *
      replace hst := Lib.hid hst
      replace C2 := Lib.hid C2
      rw [show (((m + 1 : Nat) : Int) - 1) = (m : Int) by omega]
      have hm : m < 256 := by omega
      clear hmk C1
      have x1 : IntKind.i64.wrap ((m : Int) + 1) = m + 1 := by simp [IntKind.wrap, IntKind.signed, IntKind.bits]; omega
      have x2 : (0 : Int) ≤ (m : Int) + 1 := by omega
      have x3 : (m : Int) + 1 < 257 := by omega
      have x4 : ((m : Int) + 1).toNat = m + 1 := by omega
      have x5 : (0 : Int) ≤ (m : Int) := by omega
      have x6 : (m : Int) < 257 := by omega
      go_upto_region 6 with (fail)
      refine wp_region_grow 17 32 (by kernel_rfl) (by kernel_rfl) rfl (fun w3 hl3 => ?_)
      simp only [List.take_succ_cons, List.take_zero, List.drop_succ_cons, List.drop_zero]
      generalize ha : Act.mk _ _ = a0
      have k0 : a0.eval (.tmp 0) = .func (.func f) #[] #[] := by subst ha; rfl
      have k3 : a0.eval (.tmp 3) = .slice (some ⟨w.heap.size, 0, none⟩) 257 257 := by subst ha; rfl
      have k4 : a0.eval (.tmp 4) = .int .i64 m := by subst ha; rfl
      have ks : a0.tmps.size = 32 := by subst ha; rfl
      have ha0 := ha.symm
      clear ha
      refine wpG_move (fun a w hk => (hk 3 rfl : a.eval (.tmp 3) = a0.eval (.tmp 3)).trans k3) ?_
      refine wpG_move (fun a w hk => (hk 4 rfl : a.eval (.tmp 4) = a0.eval (.tmp 4)).trans k4) ?_
      refine wpG_move (fun a w hk => (hk 0 rfl : a.eval (.tmp 0) = a0.eval (.tmp 0)).trans k0) ?_
      refine wpG_move (fun a w hk => (hk 3 rfl : a.eval (.tmp 3) = a0.eval (.tmp 3)).trans k3) ?_
      refine wpG_move (fun a w hk => (hk 4 rfl : a.eval (.tmp 4) = a0.eval (.tmp 4)).trans k4) ?_
      apply wpG_value'
      · rfl
      · (intro a wx hlx hk K hK; have e18 : a.eval (.tmp 18) = _ := hk 18 rfl; simp only [execOp, e18]; clear e18 hk; go_simp; exact hK)
      apply wpG_value'
      · rfl
      · (intro a wx hlx hk K hK; have e17 : a.eval (.tmp 17) = _ := hk 17 rfl; have e19 : a.eval (.tmp 19) = _ := hk 19 rfl; simp only [execOp, e17, e19]; clear e17 e19 hk; go_simp; exact hK)
      refine wpG_load1 (hl3.cell hc) Try.underlying9 rfl (fun a w hk => hk 20 rfl) ?_
      apply wpG_value'
      · rfl
      · (intro a wx hlx hk K hK; have e21 : a.eval (.tmp 21) = _ := hk 21 rfl; simp only [execOp, e21]; clear e21 hk; go_simp; exact hK)
      refine wpG_move (fun a w hk => (hk 3 rfl : a.eval (.tmp 3) = a0.eval (.tmp 3)).trans k3) ?_
      refine wpG_move (fun a w hk => (hk 4 rfl : a.eval (.tmp 4) = a0.eval (.tmp 4)).trans k4) ?_
      apply wpG_value'
      · rfl
      · (intro a wx hlx hk K hK; have e24 : a.eval (.tmp 24) = _ := hk 24 rfl; simp only [execOp, e24]; clear e24 hk; go_simp; exact hK)
      apply wpG_value'
      · rfl
      · (intro a wx hlx hk K hK; have e23 : a.eval (.tmp 23) = _ := hk 23 rfl; have e25 : a.eval (.tmp 25) = _ := hk 25 rfl; simp only [execOp, e23, e25]; clear e23 e25 hk; go_simp; exact hK)
      refine wpG_load1 (hl3.cell hc) Try.underlying9 rfl (fun a w hk => hk 26 rfl) ?_
      apply wpG_value'
      · rfl
      · (intro a wx hlx hk K hK; have e22 : a.eval (.tmp 22) = _ := hk 22 rfl; have e27 : a.eval (.tmp 27) = _ := hk 27 rfl; simp only [execOp, e22, e27]; clear e22 e27 hk; go_simp; exact hK)
      refine wpG_callv _ _ (En) (fun w _ => C2.out w) (fun a w hk => by have e16 : a.eval (.tmp 16) = _ := hk 16 rfl; have e28 : a.eval (.tmp 28) = _ := hk 28 rfl; exact ⟨e16, by simp [e28]⟩) ?_
      apply wpG_value'
      · rfl
      · (intro a wx hlx hk K hK; have e14 : a.eval (.tmp 14) = _ := hk 14 rfl; have e15 : a.eval (.tmp 15) = _ := hk 15 rfl; simp only [execOp, e14, e15]; clear e14 e15 hk; go_simp; exact hK)
      refine wpG_nil (fun w3' hl3' => ?_)
      refine fin_is ?_
      refine fin_is ?_
      refine fin_is ?_
      refine fin_is ?_
      refine fin_is ?_
      refine fin_is ?_
      refine fin_is ?_
      refine fin_is ?_
      refine fin_is ?_
      refine fin_is ?_
      refine fin_is ?_
      refine fin_is ?_
      refine fin_is ?_
      refine fin_is ?_
      refine fin_is ?_
      refine fin_is ?_
      refine fin_is ?_
      refine fin_nil ?_
      have hl := hl3.trans hl3'
      refine wl_store1 (p := ⟨w.heap.size, m, none⟩) (v := .string (hf ((⟨#[78]⟩ ++ E) ++ E))) (hl.cell c1) ((hl.whole hw).frozen m) q1 q3 (by simp [eval_put, put_size, ks]) (by simp [eval_put, put_size, ks]) rfl rfl ?_
      have hp := sarr_put (hl.whole hw) m (hf ((⟨#[78]⟩ ++ E) ++ E))
      rw [hst.out] at hp
      have hB2 := (hB.trans hl).setCell (p := ⟨w.heap.size, m, none⟩) (Nat.le_refl _) (.string (hf ((⟨#[78]⟩ ++ E) ++ E)))
      subst ha0
      clear k0 k3 k4 ks x1 x2 x3 x4 x5 x6 hc hnx
      go_wp2_with (fail)
      go_roundg (m + 1)
      case measure => go_light; rw [hkg.out]; omega
      case rel => go_light; exact ⟨m, 255 - m + 1, by omega, rfl, rfl, hp, hB2⟩
end Go.Proofs.Ytknjbkbbhgjnlaa

/- Layer 9: the texts of an answer. Conditions: sizes as the law's. -/
namespace Go.Proofs.Ytknjbkbbhgjnlaa
open Go.RowKit
set_option linter.unusedVariables false
set_option linter.unusedSimpArgs false
/-- What a call hands back: a row of texts, or nil. -/
def RowOpt (w : World) (l : Option (List ByteArray)) (e : Ending) (w' : World) : Prop := match l with
  | some l => RowRet w l e w'
  | none => e = .returned (.slice none 0 0) ∧ Later w w'
theorem size0 {a : ByteArray} : a.toList = [] ↔ a.size = 0 := by
  rw [nilL]
  refine ⟨fun h => by rw [h]; rfl, fun h => ByteArray.ext (Array.eq_empty_of_size_eq_zero h)⟩
theorem may_no {key : ByteArray} {a : An} (h : a.may key = false) : 255 < key.size ∨ 255 < a.value.size ∨ (a.there = false ∧ ¬ a.value.toList = []) ∨ a.proof.size < 32 ∨ ¬ a.proof.size % 32 = 0 := by
  have h' : (((255 < key.size ∨ 255 < a.value.size) ∨ a.there = false ∧ 0 < a.value.size) ∨ a.proof.size < 32) ∨ ¬ a.proof.size % 32 = 0 := by
    simp only [An.may, Bool.not_eq_false', Bool.or_eq_true, decide_eq_true_eq, Bool.and_eq_true, Bool.not_eq_true'] at h
    exact h
  rcases h' with (((h | h) | ⟨h, h2⟩) | h) | h
  · exact .inl h
  · exact .inr (.inl h)
  · exact .inr (.inr (.inl ⟨h, fun q => by have := size0.1 q; omega⟩))
  · exact .inr (.inr (.inr (.inl h)))
  · exact .inr (.inr (.inr (.inr h)))
theorem may_yes {key : ByteArray} {a : An} (h : a.may key = true) : key.size ≤ 255 ∧ a.value.size ≤ 255 ∧ (a.there = false → a.value.toList = []) ∧ 32 ≤ a.proof.size ∧ a.proof.size % 32 = 0 := by
  simp only [An.may, Bool.not_eq_true', Bool.or_eq_false_iff, decide_eq_false_iff_not, Bool.and_eq_false_iff, Bool.not_eq_false', Classical.not_not, Nat.not_lt] at h
  obtain ⟨⟨⟨⟨h1, h2⟩, h3⟩, h4⟩, h5⟩ := h
  exact ⟨h1, h2, fun q => (h3.resolve_left (by rw [q]; decide)) |> fun h => size0.2 (by omega), h4, h5⟩
set_option maxHeartbeats 2000000 in
set_option maxRecDepth 100000 in
theorem texts_no {f : FuncId} (key : ByteArray) (a : An) (hk : key.size ≤ 1099511627770) (hv : a.value.size ≤ 1099511627770) (hp : a.proof.size ≤ 1099511627770) (hm : a.may key = false) (w : World) :
    Calls Try.prog 69 #[.func (.func f) #[] #[], .string key, .agg a.A] w fun e w' => e = .returned (.slice none 0 0) ∧ Later w w' := by
  have hn := may_no hm
  clear hm
  obtain ⟨th, va, pr⟩ := a
  simp only [An.A] at *
  replace hn := Lib.hid hn
  have hw := Whole.new w 58 #[.bool th, .string va, .string pr]
  have c0 := hw.cell 0
  have c1 := hw.cell 1
  have c2 := hw.cell 2
  go_enter Try.func69, Try.ntmps69
  go_wp2
  all_goals first
    | (go_returns; go_light; exact ⟨rfl, (Later.refl w).alloc _⟩)
    | (exfalso; simp only [bne_eq_false_iff_eq] at *; rcases hn.out with h | h | ⟨h, h2⟩ | h | h <;> first | omega | (simp_all; done))
theorem bitQ_cut (p : ByteArray) {i : Nat} (hi : i < 256) (hp : 32 ≤ p.size) : bitQ (p.extract 0 32) i = bitQ p i := by
  unfold bitQ bitN
  have : (p.extract 0 32).data.toList.getD (i / 8) 0 = p.data.toList.getD (i / 8) 0 := by
    have h32 : i / 8 < 32 := by omega
    rw [List.getD_eq_getElem?_getD, List.getD_eq_getElem?_getD]
    simp [ByteArray.data_extract, List.getElem?_take, h32]
  rw [this]
set_option maxHeartbeats 4000000 in
set_option maxRecDepth 100000 in
theorem texts_yes {f : FuncId} {hf : ByteArray → ByteArray} (H : Hasher f hf) (key : ByteArray) (a : An) (hp : a.proof.size ≤ 1099511627770) (hm : a.may key = true) (w : World) :
    Calls Try.prog 69 #[.func (.func f) #[] #[], .string key, .agg a.A] w (RowOpt w (texts hf key a)) := by
  obtain ⟨y1, y2, y3, y4, y5⟩ := may_yes hm
  have hT : texts hf key a = topC hf key a (stC hf key a 256) := by unfold texts; rw [if_pos hm]
  clear hm
  have hst := stC_succ hf key a
  have hs0 : stC hf key a 0 = some (a.low key, a.proof.size) := rfl
  have htx := fun k T n => @txC_of hf key a k T n
  obtain ⟨th, va, pr⟩ := a
  simp only [An.A, An.low] at *
  replace hT := Lib.hid hT
  replace hst := Lib.hid hst
  replace htx := Lib.hid htx
  have y6 : ((pr.size : Int) % 32 != 0) = false := by rw [bne_eq_false_iff_eq]; omega
  have hmk : ∀ w : World, (Instr.makeSlice 44 (.int .i64 257) (.int .i64 257)).run Try.prog w = .ok (.slice (some ⟨w.heap.size, 0, none⟩) 257 257) (w.alloc (.cells (sarr e257) 9)) := fun w => by
    unfold e257
    rw [← sarr_replicate]
    exact run_make1 (b := 16) Try.underlying44 (by kernel_rfl) rfl 257 (by decide) (by decide) w
  have En := H.enters
  have hes := emp_size H.size
  have hhs := H.size
  have hch := H.calls
  replace hes := Lib.hid hes
  replace hhs := Lib.hid hhs
  replace hch := Lib.hid hch
  obtain ⟨low, hlow⟩ : ∃ low, (if th = true then ((⟨#[86]⟩ ++ strOfNums [(key.size : Int)]) ++ key) ++ va else ⟨#[69]⟩) = low := ⟨_, rfl⟩
  rw [hlow] at hs0
  replace hs0 := Lib.hid hs0
  have hlows : low.size ≤ 600 := by
    rw [← hlow]
    split
    · rw [ByteArray.size_append, ByteArray.size_append, ByteArray.size_append, strOfNums_size]
      show 1 + 1 + key.size + va.size ≤ 600
      omega
    · show 1 ≤ 600; decide
  replace hlows := Lib.hid hlows
  obtain ⟨W0, hW0⟩ : ∃ W0, w.alloc (.cells #[.bool th, .string va, .string pr] 58) = W0 := ⟨_, rfl⟩
  have hA : Whole W0 w.heap.size 58 #[.bool th, .string va, .string pr] := by rw [← hW0]; exact Whole.new w _ _
  have hB : Later w W0 := by rw [← hW0]; exact (Later.refl w).alloc _
  have hz0 : W0.heap.size = w.heap.size + 1 := by rw [← hW0]; simp
  obtain ⟨Pt, hPt⟩ : ∃ P, hf (⟨#[75]⟩ ++ key) = P := ⟨_, rfl⟩
  have hPs : Pt.size = 32 := by rw [← hPt]; exact H.size _
  have Cp := fun w => path_calls H key (by omega) w
  have Ce := fun w => empties_calls H w
  simp only [hPt] at Cp
  replace Cp := Lib.hid Cp
  replace Ce := Lib.hid Ce
  have hst' := hst.out
  simp only [hPt] at hst'
  replace hst := Lib.hid hst'
  clear hst'
  replace hPt := Lib.hid hPt
  go_enter Try.func69, Try.ntmps69
  go_upto_region 1 with (fail)
  try rw [hW0]
  clear hW0
  go_cut [46] (fun p wc => p = .bool false ∧ wc = W0)
  case first =>
    have c0 := hA.cell 0
    have c1 := hA.cell 1
    have c2 := hA.cell 2
    rcases th with _ | _
    all_goals go_wp2_with (fail)
    all_goals
      go_meet
      refine ⟨congrArg Value.bool ?_, rfl⟩
      simp only [Bool.or_eq_false_iff, decide_eq_false_iff_not]
      omega
  case rest =>
    obtain ⟨rfl, rfl⟩ := hcut
    have hO := Whole.new wc 9 (sarr e257)
    rw [hz0] at hO
    have hA1 := hA.alloc (.cells (sarr e257) 9)
    have hB1 : Later w (wc.alloc (.cells (sarr e257) 9)) := hB.alloc _
    go_upto_region 4 with (fail)
    have hz1 : w.heap.size + 1 < (wc.alloc (.cells (sarr e257) 9)).heap.size := hO.lt
    clear hA hB hmk
    generalize wc.alloc (.cells (sarr e257) 9) = W1 at *
    have o1 := sarr_cell hO (i := 256) (by rw [e257_length]; decide)
    have o2 := hO.frozen 256
    have c0' := hA1.cell 0
    go_upto_if 51 with (fail)
    have hO1 := sarr_put hO 256 ⟨#[69]⟩
    replace hA1 := hA1.far (p := ⟨w.heap.size + 1, 256, none⟩) (show w.heap.size ≠ w.heap.size + 1 by omega) (.string ⟨#[69]⟩)
    replace hB1 : Later w _ := hB1.setCell (p := ⟨w.heap.size + 1, 256, none⟩) (by simp) (.string ⟨#[69]⟩)
    have hz2 : w.heap.size + 1 < (W1.setCell ⟨w.heap.size + 1, 256, none⟩ (.string ⟨#[69]⟩)).heap.size := hO1.lt
    clear o1 o2 hO hz1 c0'
    generalize W1.setCell ⟨w.heap.size + 1, 256, none⟩ (.string ⟨#[69]⟩) = W2 at *
    go_cut [] (fun w3 => Whole w3 (w.heap.size + 1) 9 (sarr (downL (txC hf key ⟨th, va, pr⟩) 0)) ∧ Whole w3 w.heap.size 58 #[.bool th, .string va, .string pr] ∧ Later w w3)
    case first =>
      have hd := (downL_zero (txC hf key ⟨th, va, pr⟩)).symm
      rw [htx.out 0 _ _ hs0.out, ← hlow] at hd
      rcases th with _ | _
      · go_wp2_with (fail)
        go_meet
        exact ⟨by rw [hd]; exact hO1, hA1, hB1⟩
      · replace hd := Lib.hid hd
        have hO' := hO1.alloc (.cells #[.int .u8 (key.size : Int)] 5)
        have k1 := fun x => conv1 x W2 _ rfl
        have n1 : ∀ x : Int, (strOfNums [x]).size = 1 := fun x => strOfNums_size _
        have o3 := sarr_cell hO' (i := 256) (by rw [List.length_set, e257_length]; decide)
        have o4 := hO'.frozen 256
        have hA' := hA1.alloc (.cells #[.int .u8 (key.size : Int)] 5)
        have c1' := hA'.cell 1
        have hO2 := (sarr_put hO1 256 (((⟨#[86]⟩ ++ strOfNums [(key.size : Int)]) ++ key) ++ va)).alloc (.cells #[.int .u8 (key.size : Int)] 5)
        rw [List.set_set] at hO2
        have hA2 := (hA1.far (p := ⟨w.heap.size + 1, 256, none⟩) (show w.heap.size ≠ w.heap.size + 1 by omega) (.string (((⟨#[86]⟩ ++ strOfNums [(key.size : Int)]) ++ key) ++ va))).alloc (.cells #[.int .u8 (key.size : Int)] 5)
        have hB2 : Later w _ := Later.alloc (hB1.setCell (p := ⟨w.heap.size + 1, 256, none⟩) (by simp) (.string (((⟨#[86]⟩ ++ strOfNums [(key.size : Int)]) ++ key) ++ va))) (.cells #[.int .u8 (key.size : Int)] 5)
        go_wp2_with (fail)
        go_meet
        exact ⟨by rw [hd.out, if_pos trivial]; exact hO2, hA2, hB2⟩
    case rest =>
      clear hO1 hA1 hB1 hlow
      obtain ⟨hO2, hA2, hB2⟩ := hcut
      go_upto_region 8 with (first | ((with_reducible refine (Ce.out _).mono ?_); rintro e wE ⟨gE, rfl, hE, hgE, hlE⟩; have hgne : gE ≠ w.heap.size + 1 := (by have := hO2.lt; omega); replace hO2 := hlE.whole hO2; replace hA2 := hlE.whole hA2; replace hB2 := hB2.trans hlE; rw [downL_length _ (by decide)]) | ((with_reducible refine (Cp.out _).mono ?_); rintro e wP ⟨rfl, hlP⟩; replace hO2 := hlP.whole hO2; replace hA2 := hlP.whole hA2; replace hE := hlP.whole hE; replace hB2 := hB2.trans hlP))
      have c2 := hA2.cell 2
      have z1 : (32 : Int) ≤ (pr.size : Int) := by omega
      have z2 : (0 : Int) ≤ (pr.size : Int) := by omega
      refine wp_region_grow 8 127 (by kernel_rfl) (by kernel_rfl) rfl (fun w3 hl3 => ?_)
      simp only [List.take_succ_cons, List.take_zero, List.drop_succ_cons, List.drop_zero]
      generalize ha : Act.mk _ _ = a0
      have k5 : a0.eval (.tmp 5) = .pointer (some ⟨w.heap.size, 0, none⟩) := by subst ha; rfl
      have ks : a0.tmps.size = 127 := by subst ha; rfl
      have ha0 := ha.symm
      clear ha
      apply wpG_value'
      · rfl
      · (intro a wx hlx hk K hK; have e5 : a.eval (.tmp 5) = _ := (hk 5 rfl : a.eval (.tmp 5) = a0.eval (.tmp 5)).trans k5; simp only [execOp, e5]; clear e5 hk; go_simp; exact hK)
      refine wpG_load1 (hl3.cell c2) Try.underlying9 rfl (fun a w hk => hk 70 rfl) ?_
      apply wpG_value'
      · rfl
      · (intro a wx hlx hk K hK; have e71 : a.eval (.tmp 71) = _ := hk 71 rfl; simp only [execOp, resolve, List.map_toArray, List.map_cons, List.map_nil, Option.map_some, Option.map_none, e71]; clear e71 hk; go_simp; exact hK)
      apply wpG_value'
      · rfl
      · (intro a wx hlx hk K hK; have e5 : a.eval (.tmp 5) = _ := (hk 5 rfl : a.eval (.tmp 5) = a0.eval (.tmp 5)).trans k5; simp only [execOp, e5]; clear e5 hk; go_simp; exact hK)
      refine wpG_load1 (hl3.cell c2) Try.underlying9 rfl (fun a w hk => hk 73 rfl) ?_
      apply wpG_value'
      · rfl
      · (intro a wx hlx hk K hK; have e74 : a.eval (.tmp 74) = _ := hk 74 rfl; simp only [execOp, resolve, List.map_toArray, List.map_cons, List.map_nil, Option.map_some, Option.map_none, e74]; clear e74 hk; go_simp; exact hK)
      refine wpG_assign (fun a w hk => hk 72 rfl) ?_
      refine wpG_assign (fun a w hk => hk 75 rfl) ?_
      refine wpG_nil (fun w3' hl3' => ?_)
      refine fin_is ?_
      refine fin_is ?_
      refine fin_is ?_
      refine fin_is ?_
      refine fin_is ?_
      refine fin_is ?_
      refine fin_is ?_
      refine fin_is ?_
      refine fin_nil ?_
      have hl := hl3.trans hl3'
      replace hO2 := hl.whole hO2
      replace hE := hl.whole hE
      replace hB2 := hB2.trans hl
      subst ha0
      clear k5 ks hl hl3 hl3' hA2 c2 hlE hlP
      obtain ⟨Bi, hBi⟩ : ∃ B, pr.extract 0 32 = B := ⟨_, rfl⟩
      have hBs : Bi.size = 32 := by rw [← hBi, ByteArray.size_extract]; omega
      have hbb : ∀ m, m < 256 → bitQ Bi m = bitQ pr m := fun m hm => by rw [← hBi]; exact bitQ_cut pr hm y4
      rw [hBi]
      replace hBi := Lib.hid hBi
      replace hbb := Lib.hid hbb
      have hls : low.size ≤ 600 := hlows.out
      go_wp2_with (fail)
      go_loopg [11, 12] 257 (fun kg r i wr => ∃ (m k n : Nat) (T : ByteArray), m + k = 256 ∧ kg = m + 1 ∧ i = .int .i64 ((m : Int) - 1) ∧ stC hf key ⟨th, va, pr⟩ k = some (T, n) ∧ 32 ≤ n ∧ n ≤ pr.size ∧ n % 32 = 0 ∧ T.size ≤ 600 ∧ r = .string (pr.extract 32 n) ∧ Whole wr (w.heap.size + 1) 9 (sarr (downL (txC hf key ⟨th, va, pr⟩) k)) ∧ Whole wr gE 9 (sarr (downL (emp hf) 256)) ∧ Later w wr)
      case atStart => exact ⟨256, 0, pr.size, low, rfl, rfl, rfl, hs0.out, y4, Nat.le_refl _, y5, hls, rfl, hO2, hE, hB2⟩
      case round =>
        clear hO2 hE hB2 hs0
        obtain ⟨m, k, n, T, hmk, hkg, rfl, hTm, hn1, hn2, hn3, hTs, rfl, hO, hE, hB⟩ := hrel
        replace hkg := Lib.hid hkg
        replace hTm := Lib.hid hTm
        obtain ⟨R, hR⟩ : ∃ R, pr.extract 32 n = R := ⟨_, rfl⟩
        have hRs : R.size = n - 32 := by rw [← hR, ByteArray.size_extract]; omega
        rw [hR]
        cases m with
        | zero =>
          obtain rfl : k = 256 := by omega
          have hT' := hT.out
          rw [hTm.out] at hT'
          simp only [topC] at hT'
          by_cases hn : n = 32
          · rw [if_pos hn] at hT'
            rw [hT']
            have r1 : R.toList = [] := size0.2 (by omega)
            go_wp2_with (fail)
            go_returns
            go_light
            exact ⟨w.heap.size + 1, by rw [downL_length _ (by decide)]; rfl, hO, by omega, hB⟩
          · rw [if_neg hn] at hT'
            rw [hT']
            have r1 : ¬ R.toList = [] := fun q => by have := size0.1 q; omega
            have r2 : R.toList.isEmpty = false := by simpa using r1
            go_wp2_with (fail)
            go_returns
            go_light
            exact ⟨rfl, hB⟩
        | succ m =>
          obtain rfl : k = 255 - m := by omega
          have hm : m < 256 := by omega
          have ct := sarr_cell hO (i := m + 1) (by rw [downL_length _ (by omega)]; omega)
          rw [downL_getD _ (by omega) (by omega) (by omega), show 256 - (m + 1) = 255 - m by omega, htx.out _ _ _ hTm.out] at ct
          have ce := sarr_cell hE (i := m + 1) (by rw [downL_length _ (by omega)]; omega)
          rw [downL_getD _ (by omega) (by omega) (by omega), show 256 - (m + 1) = 255 - m by omega] at ce
          have hnx := hst.out (255 - m) T n hTm.out
          rw [show 255 - (255 - m) = m by omega] at hnx
          have hEs := hes.out (255 - m)
          have hHs := hhs.out T
          have Ch := fun w => hch.out T w (by omega)
          have C1 := fun w => bit_calls Bi m (by omega) (by omega) w
          have C2 := fun w => bit_calls Pt m (by omega) (by omega) w
          rw [hbb.out m hm] at C1
          generalize emp hf (255 - m) = E at *
          replace Ch := Lib.hid Ch
          rw [show (((m + 1 : Nat) : Int) - 1) = (m : Int) by omega]
          clear hmk
          have x1 : IntKind.i64.wrap ((m : Int) + 1) = m + 1 := by simp [IntKind.wrap, IntKind.signed, IntKind.bits]; omega
          have x2 : (0 : Int) ≤ (m : Int) + 1 := by omega
          have x3 : (m : Int) + 1 < 257 := by omega
          have x4 : ((m : Int) + 1).toNat = m + 1 := by omega
          have x5 : (0 : Int) ≤ (m : Int) := by omega
          have x6 : (m : Int) < 257 := by omega
          cases hb1 : bitQ pr m
          · rw [hb1] at hnx C1
            rw [if_neg (by decide)] at hnx
            replace hR := Lib.hid hR
            replace C1 := Lib.hid C1
            go_upto_region 17 with (((with_reducible refine (C1.out _).mono ?_); rintro e wB ⟨rfl, rfl⟩))
            cases hb2 : bitQ Pt m
            · rw [hb2] at C2 hnx
              rw [if_neg (by decide)] at hnx
              replace hnx := Lib.hid hnx
              replace C2 := Lib.hid C2
              go_wp2_with (first | ((with_reducible refine (Ch.out _).mono ?_); rintro e wH ⟨rfl, hlH⟩; replace hO := hlH.whole hO; replace hE := hlH.whole hE; replace hB := hB.trans hlH; have o1 := sarr_cell hO (i := m) (by rw [downL_length _ (by omega)]; omega); have o2 := hO.frozen m) | ((with_reducible refine (C2.out _).mono ?_); rintro e wB ⟨rfl, rfl⟩))
              have hp := sarr_put hO m ((⟨#[78]⟩ ++ hf T) ++ E)
              have hB3 := hB.setCell (p := ⟨w.heap.size + 1, m, none⟩) (by simp) (.string ((⟨#[78]⟩ ++ hf T) ++ E))
              have hdn := downL_step (txC hf key ⟨th, va, pr⟩) (k := 255 - m) (by omega)
              rw [show 255 - (255 - m) = m by omega, htx.out _ _ _ hnx.out] at hdn
              rw [show NT _ _ = (⟨#[78]⟩ ++ hf T) ++ E from rfl] at hdn
              rw [hdn] at hp
              clear hdn
              go_roundg (m + 1)
              case measure => go_light; rw [hkg.out]; omega
              case rel => go_light; exact ⟨m, 255 - m + 1, n, _, by omega, rfl, rfl, hnx.out, by omega, by omega, by omega, by rw [NT_size, hHs, hEs]; decide, congrArg Value.string hR.out.symm, hp, hE.far (p := ⟨w.heap.size + 1, m, none⟩) hgne _, hB3⟩
            · rw [hb2] at C2 hnx
              rw [if_pos rfl] at hnx
              replace hnx := Lib.hid hnx
              replace C2 := Lib.hid C2
              go_wp2_with (first | ((with_reducible refine (Ch.out _).mono ?_); rintro e wH ⟨rfl, hlH⟩; replace hO := hlH.whole hO; replace hE := hlH.whole hE; replace hB := hB.trans hlH; have o1 := sarr_cell hO (i := m) (by rw [downL_length _ (by omega)]; omega); have o2 := hO.frozen m) | ((with_reducible refine (C2.out _).mono ?_); rintro e wB ⟨rfl, rfl⟩))
              have hp := sarr_put hO m ((⟨#[78]⟩ ++ E) ++ hf T)
              have hB3 := hB.setCell (p := ⟨w.heap.size + 1, m, none⟩) (by simp) (.string ((⟨#[78]⟩ ++ E) ++ hf T))
              have hdn := downL_step (txC hf key ⟨th, va, pr⟩) (k := 255 - m) (by omega)
              rw [show 255 - (255 - m) = m by omega, htx.out _ _ _ hnx.out] at hdn
              rw [show NT _ _ = (⟨#[78]⟩ ++ E) ++ hf T from rfl] at hdn
              rw [hdn] at hp
              clear hdn
              go_roundg (m + 1)
              case measure => go_light; rw [hkg.out]; omega
              case rel => go_light; exact ⟨m, 255 - m + 1, n, _, by omega, rfl, rfl, hnx.out, by omega, by omega, by omega, by rw [NT_size, hHs, hEs]; decide, congrArg Value.string hR.out.symm, hp, hE.far (p := ⟨w.heap.size + 1, m, none⟩) hgne _, hB3⟩
          · rw [hb1] at hnx C1
            rw [if_pos rfl] at hnx
            by_cases hn : n = 32
            · rw [if_pos hn] at hnx
              have hno : texts hf key ⟨th, va, pr⟩ = none := by
                rw [hT.out, stC_none hf key _ hnx 256 (by omega)]
                rfl
              rw [hno]
              have r1 : R.toList = [] := size0.2 (by omega)
              replace hR := Lib.hid hR
              replace C1 := Lib.hid C1
              go_wp2_with (((with_reducible refine (C1.out _).mono ?_); rintro e wB ⟨rfl, rfl⟩))
              go_returns
              go_light
              exact ⟨rfl, hB⟩
            · rw [if_neg hn] at hnx
              have r1 : ¬ R.toList = [] := fun q => by have := size0.1 q; omega
              have r2 : R.toList.isEmpty = false := by simpa using r1
              obtain ⟨q, hq⟩ : ∃ q, n = q + 64 := ⟨n - 64, by omega⟩
              subst hq
              rw [show q + 64 - 32 = q + 32 by omega] at hnx hRs
              have eO : R.extract q (q + 32) = pr.extract (q + 32) (q + 64) := by
                rw [← hR, ByteArray.extract_extract]
                congr 1 <;> omega
              have eR : R.extract 0 q = pr.extract 32 (q + 32) := by
                rw [← hR, ByteArray.extract_extract]
                congr 1 <;> omega
              have hOs : (pr.extract (q + 32) (q + 64)).size = 32 := by rw [ByteArray.size_extract]; omega
              generalize pr.extract (q + 32) (q + 64) = O at *
              replace hR := Lib.hid hR
              replace C1 := Lib.hid C1
              go_upto_region 16 with (((with_reducible refine (C1.out _).mono ?_); rintro e wB ⟨rfl, rfl⟩))
              have g1 : IntKind.i64.wrap ((q : Int) + 32 - 32) = q := by simp [IntKind.wrap, IntKind.signed, IntKind.bits]; omega
              have g4 : IntKind.i64.wrap (q : Int) = q := by simp [IntKind.wrap, IntKind.signed, IntKind.bits]; omega
              have g2 : (0 : Int) ≤ (q : Int) := by omega
              have g3 : (q : Int) ≤ (q : Int) + 32 := by omega
              refine wp_region_grow 12 127 (by kernel_rfl) (by kernel_rfl) rfl (fun w5 hl5 => ?_)
              simp only [List.take_succ_cons, List.take_zero, List.drop_succ_cons, List.drop_zero]
              generalize ha : Act.mk _ _ = a0
              have k11 : a0.eval (.tmp 11) = .string R := by subst ha; rfl
              have ks : a0.tmps.size = 127 := by subst ha; rfl
              have ha0 := ha.symm
              clear ha
              refine wpG_move (fun a w hk => (hk 11 rfl : a.eval (.tmp 11) = a0.eval (.tmp 11)).trans k11) ?_
              refine wpG_move (fun a w hk => (hk 11 rfl : a.eval (.tmp 11) = a0.eval (.tmp 11)).trans k11) ?_
              apply wpG_value'
              · rfl
              · (intro a wx hlx hk K hK; have e91 : a.eval (.tmp 91) = _ := hk 91 rfl; simp only [execOp, resolve, List.map_toArray, List.map_cons, List.map_nil, Option.map_some, Option.map_none, e91]; clear e91 hk; go_simp; exact hK)
              apply wpG_value'
              · rfl
              · (intro a wx hlx hk K hK; have e92 : a.eval (.tmp 92) = _ := hk 92 rfl; simp only [execOp, e92]; clear e92 hk; go_simp; exact hK)
              apply wpG_value'
              · rfl
              · (intro a wx hlx hk K hK; have e90 : a.eval (.tmp 90) = _ := hk 90 rfl; have e93 : a.eval (.tmp 93) = _ := hk 93 rfl; simp only [execOp, resolve, List.map_toArray, List.map_cons, List.map_nil, Option.map_some, Option.map_none, e90, e93]; clear e90 e93 hk; go_simp; exact hK)
              refine wpG_move (fun a w hk => (hk 11 rfl : a.eval (.tmp 11) = a0.eval (.tmp 11)).trans k11) ?_
              refine wpG_move (fun a w hk => (hk 11 rfl : a.eval (.tmp 11) = a0.eval (.tmp 11)).trans k11) ?_
              apply wpG_value'
              · rfl
              · (intro a wx hlx hk K hK; have e96 : a.eval (.tmp 96) = _ := hk 96 rfl; simp only [execOp, resolve, List.map_toArray, List.map_cons, List.map_nil, Option.map_some, Option.map_none, e96]; clear e96 hk; go_simp; exact hK)
              apply wpG_value'
              · rfl
              · (intro a wx hlx hk K hK; have e97 : a.eval (.tmp 97) = _ := hk 97 rfl; simp only [execOp, e97]; clear e97 hk; go_simp; exact hK)
              apply wpG_value'
              · rfl
              · (intro a wx hlx hk K hK; have e95 : a.eval (.tmp 95) = _ := hk 95 rfl; have e98 : a.eval (.tmp 98) = _ := hk 98 rfl; simp only [execOp, resolve, List.map_toArray, List.map_cons, List.map_nil, Option.map_some, Option.map_none, e95, e98]; clear e95 e98 hk; go_simp; exact hK)
              refine wpG_assign (fun a w hk => hk 94 rfl) ?_
              refine wpG_assign (fun a w hk => hk 99 rfl) ?_
              refine wpG_nil (fun w5' hl5' => ?_)
              refine fin_is ?_
              refine fin_is ?_
              refine fin_is ?_
              refine fin_is ?_
              refine fin_is ?_
              refine fin_is ?_
              refine fin_is ?_
              refine fin_is ?_
              refine fin_is ?_
              refine fin_is ?_
              refine fin_is ?_
              refine fin_is ?_
              refine fin_nil ?_
              have hl := hl5.trans hl5'
              replace ct := hl.cell ct
              replace hO := hl.whole hO
              replace hE := hl.whole hE
              replace hB := hB.trans hl
              subst ha0
              clear k11 ks hl hl5 hl5'
              cases hb2 : bitQ Pt m
              · rw [hb2] at C2 hnx
                rw [if_neg (by decide)] at hnx
                replace hnx := Lib.hid hnx
                replace C2 := Lib.hid C2
                go_wp2_with (first | ((with_reducible refine (Ch.out _).mono ?_); rintro e wH ⟨rfl, hlH⟩; replace hO := hlH.whole hO; replace hE := hlH.whole hE; replace hB := hB.trans hlH; have o1 := sarr_cell hO (i := m) (by rw [downL_length _ (by omega)]; omega); have o2 := hO.frozen m) | ((with_reducible refine (C2.out _).mono ?_); rintro e wB ⟨rfl, rfl⟩))
                have hp := sarr_put hO m ((⟨#[78]⟩ ++ hf T) ++ O)
                have hB3 := hB.setCell (p := ⟨w.heap.size + 1, m, none⟩) (by simp) (.string ((⟨#[78]⟩ ++ hf T) ++ O))
                have hdn := downL_step (txC hf key ⟨th, va, pr⟩) (k := 255 - m) (by omega)
                rw [show 255 - (255 - m) = m by omega, htx.out _ _ _ hnx.out] at hdn
                rw [show NT _ _ = (⟨#[78]⟩ ++ hf T) ++ O from rfl] at hdn
                rw [hdn] at hp
                clear hdn
                go_roundg (m + 1)
                case measure => go_light; rw [hkg.out]; omega
                case rel => go_light; exact ⟨m, 255 - m + 1, (q + 32), _, by omega, rfl, rfl, hnx.out, by omega, by omega, by omega, by rw [NT_size, hHs, hOs]; decide, rfl, hp, hE.far (p := ⟨w.heap.size + 1, m, none⟩) hgne _, hB3⟩
              · rw [hb2] at C2 hnx
                rw [if_pos rfl] at hnx
                replace hnx := Lib.hid hnx
                replace C2 := Lib.hid C2
                go_wp2_with (first | ((with_reducible refine (Ch.out _).mono ?_); rintro e wH ⟨rfl, hlH⟩; replace hO := hlH.whole hO; replace hE := hlH.whole hE; replace hB := hB.trans hlH; have o1 := sarr_cell hO (i := m) (by rw [downL_length _ (by omega)]; omega); have o2 := hO.frozen m) | ((with_reducible refine (C2.out _).mono ?_); rintro e wB ⟨rfl, rfl⟩))
                have hp := sarr_put hO m ((⟨#[78]⟩ ++ O) ++ hf T)
                have hB3 := hB.setCell (p := ⟨w.heap.size + 1, m, none⟩) (by simp) (.string ((⟨#[78]⟩ ++ O) ++ hf T))
                have hdn := downL_step (txC hf key ⟨th, va, pr⟩) (k := 255 - m) (by omega)
                rw [show 255 - (255 - m) = m by omega, htx.out _ _ _ hnx.out] at hdn
                rw [show NT _ _ = (⟨#[78]⟩ ++ O) ++ hf T from rfl] at hdn
                rw [hdn] at hp
                clear hdn
                go_roundg (m + 1)
                case measure => go_light; rw [hkg.out]; omega
                case rel => go_light; exact ⟨m, 255 - m + 1, (q + 32), _, by omega, rfl, rfl, hnx.out, by omega, by omega, by omega, by rw [NT_size, hHs, hOs]; decide, rfl, hp, hE.far (p := ⟨w.heap.size + 1, m, none⟩) hgne _, hB3⟩
end Go.Proofs.Ytknjbkbbhgjnlaa

/- Layer 9: a root. Conditions: sizes as the law's. -/
namespace Go.Proofs.Ytknjbkbbhgjnlaa
open Go.RowKit
set_option linter.unusedVariables false
set_option linter.unusedSimpArgs false
theorem texts_calls {f : FuncId} {hf : ByteArray → ByteArray} (H : Hasher f hf) (key : ByteArray) (a : An) (hk : key.size ≤ 1099511627770) (hv : a.value.size ≤ 1099511627770) (hp : a.proof.size ≤ 1099511627770) (w : World) :
    Calls Try.prog 69 #[.func (.func f) #[] #[], .string key, .agg a.A] w (RowOpt w (texts hf key a)) := by
  cases hm : a.may key
  · have : texts hf key a = none := by unfold texts; rw [if_neg (by rw [hm]; decide)]
    rw [this]
    exact texts_no key a hk hv hp hm w
  · exact texts_yes H key a hp hm w
theorem texts_len {hf : ByteArray → ByteArray} {key : ByteArray} {a : An} {l : List ByteArray} (h : texts hf key a = some l) : l.length = 257 := by
  unfold texts at h
  split at h
  · unfold topC at h
    split at h
    · split at h
      · have h := Option.some.inj h
        rw [← h]
        exact downL_length _ (Nat.le_refl _)
      · cases h
    · cases h
  · cases h
theorem st_size {hf : ByteArray → ByteArray} (hh : ∀ s, (hf s).size = 32) {key : ByteArray} {a : An} (hk : key.size ≤ 255) (hv : a.value.size ≤ 255) (hp : a.proof.size % 32 = 0) (h32 : 32 ≤ a.proof.size) : ∀ k T n, stC hf key a k = some (T, n) → T.size ≤ 600 ∧ 32 ≤ n ∧ n ≤ a.proof.size ∧ n % 32 = 0 := by
  intro k
  induction k with
  | zero =>
    intro T n h
    simp only [stC, Option.some.injEq, Prod.mk.injEq] at h
    obtain ⟨rfl, rfl⟩ := h
    refine ⟨?_, h32, Nat.le_refl _, hp⟩
    unfold An.low
    split
    · rw [ByteArray.size_append, ByteArray.size_append, ByteArray.size_append, strOfNums_size]
      show 1 + 1 + key.size + a.value.size ≤ 600
      omega
    · show 1 ≤ 600; decide
  | succ k ih =>
    intro T n h
    cases hs : stC hf key a k with
    | none => rw [stC, hs] at h; cases h
    | some x =>
      obtain ⟨T0, n0⟩ := x
      obtain ⟨_, i2, i3, i4⟩ := ih T0 n0 hs
      rw [stC_succ hf key a k T0 n0 hs] at h
      have hex : 64 ≤ n0 → (a.proof.extract (n0 - 32) n0).size = 32 := fun _ => by rw [ByteArray.size_extract]; omega
      have hnt : ∀ a b : ByteArray, a.size = 32 → b.size = 32 → (NT a b).size ≤ 600 := fun a b h1 h2 => by rw [NT_size, h1, h2]; decide
      split at h
      · split at h
        · cases h
        · simp only [Option.some.injEq, Prod.mk.injEq] at h
          obtain ⟨rfl, rfl⟩ := h
          refine ⟨?_, by omega, by omega, by omega⟩
          split
          · exact hnt _ _ (hex (by omega)) (hh _)
          · exact hnt _ _ (hh _) (hex (by omega))
      · simp only [Option.some.injEq, Prod.mk.injEq] at h
        obtain ⟨rfl, rfl⟩ := h
        refine ⟨?_, i2, i3, i4⟩
        split
        · exact hnt _ _ (emp_size hh _) (hh _)
        · exact hnt _ _ (hh _) (emp_size hh _)
theorem texts_size {hf : ByteArray → ByteArray} (hh : ∀ s, (hf s).size = 32) {key : ByteArray} {a : An} {l : List ByteArray} (h : texts hf key a = some l) (j : Nat) : (l.getD j ByteArray.empty).size ≤ 600 := by
  unfold texts at h
  split at h
  · rename_i hm
    obtain ⟨y1, y2, y3, y4, y5⟩ := may_yes hm
    have hs := st_size hh y1 y2 y5 y4
    have ht : ∀ k, (txC hf key a k).size ≤ 600 := fun k => by
      cases hk : stC hf key a k with
      | none => simp [txC, hk]
      | some x => rw [txC_of (T := x.1) (n := x.2) hk]; exact (hs k x.1 x.2 hk).1
    unfold topC at h
    split at h
    · split at h
      · have h := Option.some.inj h
        rw [← h]
        by_cases hj : j ≤ 256
        · rw [downL_getD _ (by decide) (by omega) hj]; exact ht _
        · rw [List.getD_eq_getElem?_getD, List.getElem?_eq_none (by rw [downL_length _ (by decide)]; omega)]
          show 0 ≤ 600; decide
      · cases h
    · cases h
  · cases h
set_option maxHeartbeats 1000000 in
set_option maxRecDepth 100000 in
theorem root_calls {f : FuncId} {hf : ByteArray → ByteArray} (H : Hasher f hf) (key : ByteArray) (a : An) (hk : key.size ≤ 1099511627770) (hv : a.value.size ≤ 1099511627770) (hp : a.proof.size ≤ 1099511627770) (w : World) :
    Calls Try.prog 30 #[.func (.func f) #[] #[], .string key, .agg a.A] w fun e w' => e = .returned (.tuple #[.string (rootC hf key a).1, .bool (rootC hf key a).2]) ∧ Later w w' := by
  have hnil := fun (w : World) a n c => Lib.run_eql_slice_nil (P := Try.prog) w 44 9 a n c 0 0 Try.underlying44
  have Ct := fun w => texts_calls H key a hk hv hp w
  obtain ⟨th, va, pr⟩ := a
  simp only [An.A] at *
  have hw := Whole.new w 58 #[.bool th, .string va, .string pr]
  have hB : Later w (w.alloc (.cells #[.bool th, .string va, .string pr] 58)) := (Later.refl w).alloc _
  cases ht : texts hf key ⟨th, va, pr⟩ with
  | none =>
    have hr : rootC hf key ⟨th, va, pr⟩ = (ByteArray.empty, false) := by unfold rootC; rw [ht]
    rw [hr]
    rw [ht] at Ct
    have Cn : ∀ w : World, Calls Try.prog 69 #[.func (.func f) #[] #[], .string key, .agg #[.bool th, .string va, .string pr]] w (fun e w' => e = .returned (.slice none 0 0) ∧ Later w w') := Ct
    clear hr ht H Ct
    replace Cn := Lib.hid Cn
    go_enter Try.func30, Try.ntmps30
    go_wp2_with (first | (first | ((with_reducible apply wl_loadW (ty := 58) hw Try.underlying58); rfl; rfl; rfl; kernel_rfl) | ((with_reducible apply wl_loadW (ty := 58) (hw.alloc _) Try.underlying58); rfl; rfl; rfl; kernel_rfl) | ((with_reducible apply wl_loadW (ty := 58) ((hw.alloc _).alloc _) Try.underlying58); rfl; rfl; rfl; kernel_rfl)) | ((with_reducible refine (Cn.out _).mono ?_); rintro e wT ⟨rfl, hlT⟩; replace hB := hB.trans hlT))
    go_returns
    go_light
    exact ⟨rfl, hB⟩
  | some l =>
    have hr : rootC hf key ⟨th, va, pr⟩ = (hf (l.getD 0 ByteArray.empty), true) := by unfold rootC; rw [ht]
    rw [hr]
    rw [ht] at Ct
    have Cn : ∀ w : World, Calls Try.prog 69 #[.func (.func f) #[] #[], .string key, .agg #[.bool th, .string va, .string pr]] w (RowRet w l) := Ct
    have hl := texts_len ht
    have Ch := fun w => H.calls (l.getD 0 ByteArray.empty) w (by have := texts_size H.size ht 0; omega)
    obtain ⟨t0, e0⟩ : ∃ t, l.getD 0 ByteArray.empty = t := ⟨_, rfl⟩
    rw [e0] at Ch ⊢
    replace e0 := Lib.hid e0
    have En := H.enters
    clear hr ht H Ct
    replace Cn := Lib.hid Cn
    replace Ch := Lib.hid Ch
    go_enter Try.func30, Try.ntmps30
    go_wp2_with (first | (first | ((with_reducible apply wl_loadW (ty := 58) hw Try.underlying58); rfl; rfl; rfl; kernel_rfl) | ((with_reducible apply wl_loadW (ty := 58) (hw.alloc _) Try.underlying58); rfl; rfl; rfl; kernel_rfl) | ((with_reducible apply wl_loadW (ty := 58) ((hw.alloc _).alloc _) Try.underlying58); rfl; rfl; rfl; kernel_rfl)) | ((with_reducible refine (Cn.out _).mono ?_); rintro e wT ⟨g, rfl, hT, hgT, hlT⟩; replace hB := hB.trans hlT; rw [hl]; have c0 := sarr_cell hT (i := 0) (by rw [hl]; decide); rw [e0.out] at c0) | ((with_reducible refine (Ch.out _).mono ?_); rintro e wH ⟨rfl, hlH⟩; replace hB := hB.trans hlH))
    go_returns
    go_light
    exact ⟨rfl, hB⟩
end Go.Proofs.Ytknjbkbbhgjnlaa
