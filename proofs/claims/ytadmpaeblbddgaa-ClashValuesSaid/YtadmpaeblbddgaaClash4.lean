/- Layer 9, the reference: a bit, a root. Conditions: sizes as the law's. -/
import Derived.Test.YtadmpaeblbddgaaClash3
namespace Go.Proofs.Ytadmpaeblbddgaa
open Go.RowKit
set_option linter.unusedVariables false
set_option linter.unusedSimpArgs false
set_option maxRecDepth 100000 in
theorem bit05_calls (p : ByteArray) (i : Nat) (hi : i < 8 * p.size) (hp : p.size ≤ 1099511627776) (w : World) :
    Calls Try.prog 42 #[.string p, .int .i64 i] w fun e w' => e = .returned (.int .i64 ((bitN p i : Nat) : Int)) ∧ w' = w := by
  have hlt : i / 8 < p.size := by omega
  have hq : bitN p i = p[i / 8].toNat / 2 ^ (7 - i % 8) % 2 := by
    unfold bitN
    rw [List.getD_eq_getElem?_getD, List.getElem?_eq_getElem (by simpa using hlt)]
    rfl
  obtain ⟨j, hj⟩ : ∃ j, i / 8 = j := ⟨_, rfl⟩
  obtain ⟨r, hr⟩ : ∃ r, i % 8 = r := ⟨_, rfl⟩
  have j1 : (i : Int) / 8 = j := by omega
  have j2 : (i : Int).tdiv 8 = j := by rw [Int.tdiv_eq_ediv_of_nonneg (Int.natCast_nonneg _)]; omega
  have r1 : (i : Int) % 8 = r := by omega
  have r2 : (i : Int).tmod 8 = r := by rw [Int.tmod_eq_emod_of_nonneg (Int.natCast_nonneg _)]; omega
  have hr8 : r < 8 := by omega
  simp only [hj, hr] at hq hlt
  have hy8 : (p[j].toNat : Int) < 256 := by have := p[j].toNat_lt; omega
  replace hq := Lib.hid hq
  go_enter Try.func42, Try.ntmps42
  go_wp2
  go_loop [5, 6] (fun c k => ∃ m : Nat, r ≤ m ∧ m ≤ 7 ∧ k = .int .i64 m ∧ c = .int .i64 ((p[j].toNat / 2 ^ (m - r) : Nat) : Int)) (fun _ k => 7 - (intOf k).toNat)
  case atStart => exact ⟨r, Nat.le_refl _, by omega, rfl, by rw [Nat.sub_self, Nat.pow_zero, Nat.div_one]⟩
  case round =>
    obtain ⟨m, hm1, hm2, rfl, rfl⟩ := hrel
    have hle : p[j].toNat / 2 ^ (m - r) ≤ p[j].toNat := Nat.div_le_self _ _
    by_cases hlt : m < 7
    · have hn : p[j].toNat / 2 ^ (m + 1 - r) = p[j].toNat / 2 ^ (m - r) / 2 := by rw [show m + 1 - r = (m - r) + 1 by omega, Nat.pow_succ, Nat.div_div_eq_div_mul]
      generalize p[j].toNat / 2 ^ (m - r) = x at *
      replace hn := Lib.hid hn
      go_wp2
      go_round
      case rel => exact ⟨m + 1, by omega, by omega, by go_num, by rw [hn.out]; exact congrArg (Value.int .i64) (by omega)⟩
      case measure => simp [intOf]; omega
    · obtain rfl : m = 7 := by omega
      go_wp2
      go_returns
      refine ⟨ret_int ?_, rfl⟩
      have e1 : ((p[j].toNat : Int) / 2 ^ (7 - r)) = ((p[j].toNat / 2 ^ (7 - r) : Nat) : Int) := by simp
      rw [hq.out, e1, Int.tmod_eq_emod_of_nonneg (Int.natCast_nonneg _)]
      generalize p[j].toNat / 2 ^ (7 - r) = x at *
      omega
/-- The reference's root. -/
theorem bitQ_iff (p : ByteArray) (i : Nat) : bitQ p i = true ↔ bitN p i = 1 := by simp [bitQ]
theorem bitN_lt (p : ByteArray) (i : Nat) : bitN p i < 2 := Nat.mod_lt _ (by decide)
def rootR (hf : ByteArray → ByteArray) (key : ByteArray) (a : An) : ByteArray × Bool :=
  if a.may key = true then match stC hf key a 256 with
    | some (T, n) => if n = 32 then (hf T, true) else (ByteArray.empty, false)
    | none => (ByteArray.empty, false)
  else (ByteArray.empty, false)
theorem rootR_eq (hf : ByteArray → ByteArray) (key : ByteArray) (a : An) : rootR hf key a = rootC hf key a := by
  unfold rootR rootC texts
  split
  · cases hs : stC hf key a 256 with
    | none => rfl
    | some x =>
      obtain ⟨T, n⟩ := x
      simp only [topC]
      by_cases hn : n = 32
      · rw [if_pos hn, if_pos hn]
        simp only
        rw [downL_getD _ (Nat.le_refl _) (by decide) (by decide), txC_of (k := 256) hs]
      · rw [if_neg hn, if_neg hn]
  · rfl
theorem zero257 (w : World) : (zeroValue 73).run Try.prog w = .ok (.agg (sarr e257)) w := by kernel_rfl
set_option maxHeartbeats 4000000 in
set_option maxRecDepth 100000 in
theorem root09_no (k : Nat) (key : ByteArray) (a : An) (hk : key.size ≤ 1099511627770) (hv : a.value.size ≤ 1099511627770) (hp : a.proof.size ≤ 1099511627770) (hm : a.may key = false) (w : World) :
    Calls Try.prog 16 #[.int .u8 k, .string key, .agg a.A] w fun e w' => e = .returned (.tuple #[.string ByteArray.empty, .bool false]) ∧ Later w w' := by
  have hn := may_no hm
  clear hm
  obtain ⟨th, va, pr⟩ := a
  simp only [An.A] at *
  have hw := Whole.new w 23 #[.bool th, .string va, .string pr]
  have c0 := hw.cell 0
  have c1 := hw.cell 1
  have c2 := hw.cell 2
  have hB : Later w (w.alloc (.cells #[.bool th, .string va, .string pr] 23)) := (Later.refl w).alloc _
  by_cases hz : 0 < va.size
  · have hne : ¬ va = ByteArray.empty := fun q => by rw [q] at hz; exact absurd hz (by decide)
    have hn' : 255 < key.size ∨ 255 < va.size ∨ th = false ∨ pr.size < 32 ∨ ¬ pr.size % 32 = 0 := by
      rcases hn with h | h | ⟨h, _⟩ | h | h
      · exact .inl h
      · exact .inr (.inl h)
      · exact .inr (.inr (.inl h))
      · exact .inr (.inr (.inr (.inl h)))
      · exact .inr (.inr (.inr (.inr h)))
    clear hn
    replace hn' := Lib.hid hn'
    cases th
    all_goals
      go_enter Try.func16, Try.ntmps16
      go_upto_region 4 with (fail)
    all_goals first
      | (go_returns; go_light; exact ⟨rfl, hB⟩)
      | (exfalso; simp only [bne_eq_false_iff_eq] at *; rcases hn'.out with h | h | h | h | h <;> first | omega | (simp_all; done))
  · obtain rfl : va = ByteArray.empty := by
      have : va.toList = [] := size0.2 (by omega)
      exact nilL va |>.1 this
    have hn' : 255 < key.size ∨ pr.size < 32 ∨ ¬ pr.size % 32 = 0 := by
      rcases hn with h | h | ⟨_, h⟩ | h | h
      · exact .inl h
      · exact absurd h (by decide)
      · exact absurd (size0.2 rfl) h
      · exact .inr (.inl h)
      · exact .inr (.inr h)
    clear hn
    replace hn' := Lib.hid hn'
    cases th
    all_goals
      go_enter Try.func16, Try.ntmps16
      go_upto_region 4 with (fail)
    all_goals first
      | (go_returns; go_light; exact ⟨rfl, hB⟩)
      | (exfalso; simp only [bne_eq_false_iff_eq] at *; rcases hn'.out with h | h | h <;> first | omega | (simp_all; done))
set_option maxHeartbeats 4000000 in
set_option maxRecDepth 100000 in
theorem root09_yes (k : Nat) (hk : k < 256) (key : ByteArray) (a : An) (hp : a.proof.size ≤ 1099511627770) (hm : a.may key = true) (w : World) :
    Calls Try.prog 16 #[.int .u8 k, .string key, .agg a.A] w fun e w' => e = .returned (.tuple #[.string (rootR (hfOf k) key a).1, .bool (rootR (hfOf k) key a).2]) ∧ Later w w' := by
  obtain ⟨y1, y2, y3, y4, y5⟩ := may_yes hm
  obtain ⟨hf, hhf⟩ : ∃ hf, hfOf k = hf := ⟨_, rfl⟩
  have hhs : ∀ s, (hf s).size = 32 := fun s => by rw [← hhf]; exact hfOf_size k s
  have hch : ∀ (s : ByteArray) (w : World), s.size ≤ 1099511627776 → Calls Try.prog 41 #[.int .u8 k, .string s] w (fun e w' => e = .returned (.string (hf s)) ∧ Later w w') := fun s w h => by rw [← hhf]; exact hash_calls k hk s w h
  rw [hhf]
  have hT : rootR hf key a = match stC hf key a 256 with
    | some (T, n) => if n = 32 then (hf T, true) else (ByteArray.empty, false)
    | none => (ByteArray.empty, false) := by unfold rootR; rw [if_pos hm]
  clear hm hhf
  have hst := stC_succ hf key a
  have hnone := fun k h => @stC_none hf key a k h
  have hs0 : stC hf key a 0 = some (a.low key, a.proof.size) := rfl
  have hes := emp_size hhs
  obtain ⟨th, va, pr⟩ := a
  simp only [An.A, An.low] at *
  obtain ⟨low, hlow⟩ : ∃ low, (if th = true then ((⟨#[86]⟩ ++ strOfNums [(key.size : Int)]) ++ key) ++ va else ⟨#[69]⟩) = low := ⟨_, rfl⟩
  rw [hlow] at hs0
  obtain ⟨Pt, hPt⟩ : ∃ P, hf (⟨#[75]⟩ ++ key) = P := ⟨_, rfl⟩
  have hPs : Pt.size = 32 := by rw [← hPt]; exact hhs _
  have Cp : ∀ w : World, Calls Try.prog 41 #[.int .u8 k, .string (⟨#[75]⟩ ++ key)] w (fun e w' => e = .returned (.string Pt) ∧ Later w w') := fun w => by rw [← hPt]; exact hch _ w (by rw [ByteArray.size_append]; show 1 + key.size ≤ _; omega)
  simp only [hPt] at hst
  have CE := fun w => hch ⟨#[69]⟩ w (by decide)
  have hy6 : ((pr.size : Int) % 32 != 0) = false := by rw [bne_eq_false_iff_eq]; omega
  replace hT := Lib.hid hT
  replace hst := Lib.hid hst
  replace hnone := Lib.hid hnone
  replace hs0 := Lib.hid hs0
  replace hes := Lib.hid hes
  replace hhs := Lib.hid hhs
  replace hch := Lib.hid hch
  replace hPt := Lib.hid hPt
  replace Cp := Lib.hid Cp
  replace CE := Lib.hid CE
  replace hlow := Lib.hid hlow
  obtain ⟨i9, q1, q2, q3, q4⟩ := info_parts (P := Try.prog) (e := 9) (z := .string ⟨#[]⟩) (size := 1) (bytes := 16) (by kernel_rfl)
  have hz := zero257
  have hA := Whole.new w 23 #[.bool th, .string va, .string pr]
  have hB : Later w (w.alloc (.cells #[.bool th, .string va, .string pr] 23)) := (Later.refl w).alloc _
  have hgA : w.heap.size < (w.alloc (.cells #[.bool th, .string va, .string pr] 23)).heap.size := by simp
  go_enter Try.func16, Try.ntmps16
  go_upto_region 1 with (fail)
  generalize w.alloc (.cells #[.bool th, .string va, .string pr] 23) = W0 at *
  have c0 := hA.cell 0
  have c1 := hA.cell 1
  have c2 := hA.cell 2
  go_upto_region 2 with (fail)
  go_cut [46] (fun p wc => p = .bool false ∧ wc = W0)
  case first =>
    rcases th with _ | _
    · obtain rfl : va = ByteArray.empty := (nilL va).1 (y3 rfl)
      go_wp2_with (fail)
      all_goals
        go_meet
        refine ⟨congrArg Value.bool ?_, rfl⟩
        first | rfl | (simp only [Bool.or_eq_false_iff, decide_eq_false_iff_not]; omega)
    · go_wp2_with (fail)
      all_goals
        go_meet
        refine ⟨congrArg Value.bool ?_, rfl⟩
        first | rfl | (simp only [Bool.or_eq_false_iff, decide_eq_false_iff_not]; omega)
  case rest =>
    obtain ⟨rfl, rfl⟩ := hcut
    have hE0 := Whole.new wc 73 (sarr e257)
    replace hA := hA.alloc (.cells (sarr e257) 73)
    replace hB : Later w (wc.alloc (.cells (sarr e257) 73)) := hB.alloc _
    go_upto_region 5 with (fail)
    generalize wc.alloc (.cells (sarr e257) 73) = W1 at *
    clear c0 c1 c2 hz
    generalize wc.heap.size = gE at *
    go_upto_region 6 with (((with_reducible refine (CE.out _).mono ?_); rintro e wN ⟨rfl, hbN⟩; replace hE0 := hbN.whole hE0; replace hA := hbN.whole hA; replace hB := hB.trans hbN; have d0 := sarr_cell hE0 (i := 256) (by rw [e257_length]; decide); have f0 := hE0.frozen 256; have hp1 := sarr_put hE0 256 (hf ⟨#[69]⟩); have hA1 := hA.far (p := ⟨gE, 256, none⟩) (show w.heap.size ≠ gE by omega) (.string (hf ⟨#[69]⟩)); have hB1 : Later w _ := hB.setCell (p := ⟨gE, 256, none⟩) (by simp; omega) (.string (hf ⟨#[69]⟩))))
    clear hE0 hA hB hbN d0 f0 CE
    replace hp1 : Whole (wN.setCell ⟨gE, 256, none⟩ (.string (hf ⟨#[69]⟩))) gE 73 (sarr (downL (emp hf) 0)) := by rw [← downL_zero]; exact hp1
    generalize wN.setCell ⟨gE, 256, none⟩ (.string (hf ⟨#[69]⟩)) = W2 at *
    go_wp2_with (fail)
    go_loopg [10] 257 (fun kg i wr => ∃ m k : Nat, m + k = 256 ∧ kg = m + 1 ∧ i = .int .i64 ((m : Int) - 1) ∧ Whole wr gE 73 (sarr (downL (emp hf) k)) ∧ Whole wr w.heap.size 23 #[.bool th, .string va, .string pr] ∧ Later w wr)
    case atStart => exact ⟨256, 0, rfl, rfl, rfl, hp1, hA1, hB1⟩
    case round =>
      clear hp1 hA1 hB1
      obtain ⟨m, k', hmk, hkg, rfl, hE, hA, hB⟩ := hrel
      replace hkg := Lib.hid hkg
      cases m with
      | succ m =>
        obtain rfl : k' = 255 - m := by omega
        have hc := sarr_cell hE (i := m + 1) (by rw [downL_length _ (by omega)]; omega)
        rw [downL_getD _ (by omega) (by omega) (by omega), show 256 - (m + 1) = 255 - m by omega] at hc
        have hdn := downL_step (emp hf) (k := 255 - m) (by omega)
        have hnx : emp hf (255 - m + 1) = hf ((⟨#[78]⟩ ++ emp hf (255 - m)) ++ emp hf (255 - m)) := rfl
        rw [show 255 - (255 - m) = m by omega, hnx] at hdn
        have hEs := hes.out (255 - m)
        have CH := fun w => hch.out ((⟨#[78]⟩ ++ emp hf (255 - m)) ++ emp hf (255 - m)) w (by rw [ByteArray.size_append, ByteArray.size_append, hEs]; decide)
        have c1 := sarr_cell hE (i := m) (by rw [downL_length _ (by omega)]; omega)
        generalize emp hf (255 - m) = E at *
        replace hdn := Lib.hid hdn
        replace CH := Lib.hid CH
        rw [show (((m + 1 : Nat) : Int) - 1) = (m : Int) by omega]
        have hm : m < 256 := by omega
        clear hmk
        have x1 : IntKind.i64.wrap ((m : Int) + 1) = m + 1 := by simp [IntKind.wrap, IntKind.signed, IntKind.bits]; omega
        have x2 : (0 : Int) ≤ (m : Int) + 1 := by omega
        have x3 : (m : Int) + 1 < 257 := by omega
        have x4 : ((m : Int) + 1).toNat = m + 1 := by omega
        have x5 : (0 : Int) ≤ (m : Int) := by omega
        have x6 : (m : Int) < 257 := by omega
        go_upto_region 9 with (fail)
        refine wp_region_grow 14 131 (by kernel_rfl) (by kernel_rfl) rfl (fun w3 hl3 => ?_)
        simp only [List.take_succ_cons, List.take_zero, List.drop_succ_cons, List.drop_zero]
        generalize ha : Act.mk _ _ = a0
        have k0 : a0.eval (.tmp 0) = .int .u8 k := by subst ha; rfl
        have k9 : a0.eval (.tmp 9) = .pointer (some ⟨gE, 0, none⟩) := by subst ha; rfl
        have k10 : a0.eval (.tmp 10) = .int .i64 m := by subst ha; rfl
        have ks : a0.tmps.size = 131 := by subst ha; rfl
        have ha0 := ha.symm
        clear ha
        refine wpG_move (fun a w hk => (hk 10 rfl : a.eval (.tmp 10) = a0.eval (.tmp 10)).trans k10) ?_
        refine wpG_move (fun a w hk => (hk 0 rfl : a.eval (.tmp 0) = a0.eval (.tmp 0)).trans k0) ?_
        refine wpG_move (fun a w hk => (hk 10 rfl : a.eval (.tmp 10) = a0.eval (.tmp 10)).trans k10) ?_
        apply wpG_value'
        · rfl
        · (intro a wx hlx hk K hK; have e56 : a.eval (.tmp 56) = _ := hk 56 rfl; simp only [execOp, e56]; clear e56 hk; go_simp; exact hK)
        apply wpG_value'
        · rfl
        · (intro a wx hlx hk K hK; have e9 : a.eval (.tmp 9) = _ := (hk 9 rfl : a.eval (.tmp 9) = a0.eval (.tmp 9)).trans k9; have e57 : a.eval (.tmp 57) = _ := hk 57 rfl; simp only [execOp, e9, e57]; clear e9 e57 hk; go_simp; exact hK)
        refine wpG_load1 (hl3.cell hc) Try.underlying9 rfl (fun a w hk => hk 58 rfl) ?_
        apply wpG_value'
        · rfl
        · (intro a wx hlx hk K hK; have e59 : a.eval (.tmp 59) = _ := hk 59 rfl; simp only [execOp, e59]; clear e59 hk; go_simp; exact hK)
        refine wpG_move (fun a w hk => (hk 10 rfl : a.eval (.tmp 10) = a0.eval (.tmp 10)).trans k10) ?_
        apply wpG_value'
        · rfl
        · (intro a wx hlx hk K hK; have e61 : a.eval (.tmp 61) = _ := hk 61 rfl; simp only [execOp, e61]; clear e61 hk; go_simp; exact hK)
        apply wpG_value'
        · rfl
        · (intro a wx hlx hk K hK; have e9 : a.eval (.tmp 9) = _ := (hk 9 rfl : a.eval (.tmp 9) = a0.eval (.tmp 9)).trans k9; have e62 : a.eval (.tmp 62) = _ := hk 62 rfl; simp only [execOp, e9, e62]; clear e9 e62 hk; go_simp; exact hK)
        refine wpG_load1 (hl3.cell hc) Try.underlying9 rfl (fun a w hk => hk 63 rfl) ?_
        apply wpG_value'
        · rfl
        · (intro a wx hlx hk K hK; have e60 : a.eval (.tmp 60) = _ := hk 60 rfl; have e64 : a.eval (.tmp 64) = _ := hk 64 rfl; simp only [execOp, e60, e64]; clear e60 e64 hk; go_simp; exact hK)
        refine wpG_call _ _ Try.func41 (by kernel_rfl) (by kernel_rfl) (fun w _ => CH.out w) (fun a w hk => by have e55 : a.eval (.tmp 55) = _ := hk 55 rfl; have e65 : a.eval (.tmp 65) = _ := hk 65 rfl; simp [e55, e65]) ?_
        apply wpG_value'
        · rfl
        · (intro a wx hlx hk K hK; have e9 : a.eval (.tmp 9) = _ := (hk 9 rfl : a.eval (.tmp 9) = a0.eval (.tmp 9)).trans k9; have e54 : a.eval (.tmp 54) = _ := hk 54 rfl; simp only [execOp, e9, e54]; clear e9 e54 hk; go_simp; exact hK)
        refine wpG_nil (fun w3' hl3' => ?_)
        refine fin_is ?_
        refine fin_is ?_
        refine fin_is ?_
        refine fin_is ?_
        refine fin_is ?_
        refine fin_is ?_
        refine fin_is ?_
        refine fin_is ?_
        refine fin_is ?_
        refine fin_is ?_
        refine fin_is ?_
        refine fin_is ?_
        refine fin_is ?_
        refine fin_is ?_
        refine fin_nil ?_
        have hl := hl3.trans hl3'
        refine wl_store1 (p := ⟨gE, m, none⟩) (v := .string (hf ((⟨#[78]⟩ ++ E) ++ E))) (hl.cell c1) ((hl.whole hE).frozen m) q1 q3 (by simp [eval_put, put_size, ks]) (by simp [eval_put, put_size, ks]) rfl rfl ?_
        have hp := sarr_put (hl.whole hE) m (hf ((⟨#[78]⟩ ++ E) ++ E))
        rw [hdn.out] at hp
        have hA2 := (hl.whole hA).far (p := ⟨gE, m, none⟩) (show w.heap.size ≠ gE by omega) (.string (hf ((⟨#[78]⟩ ++ E) ++ E)))
        have hB2 : Later w _ := (hB.trans hl).setCell (p := ⟨gE, m, none⟩) (by simp; omega) (.string (hf ((⟨#[78]⟩ ++ E) ++ E)))
        subst ha0
        clear k0 k9 k10 ks x1 x2 x3 x4 x5 x6 hc hnx
        go_wp2_with (fail)
        go_roundg (m + 1)
        case measure => go_light; rw [hkg.out]; omega
        case rel => go_light; exact ⟨m, 255 - m + 1, by omega, rfl, rfl, hp, hA2, hB2⟩
      | zero =>
        obtain rfl : k' = 256 := by omega
        have hE256 := sarr_cell hE (i := 256) (by rw [downL_length _ (by decide)]; decide)
        rw [downL_getD _ (by decide) (by decide) (by decide)] at hE256
        replace hE256 : wr.cell? ⟨gE, 256, none⟩ = some (.string (hf ⟨#[69]⟩)) := hE256
        have c0 := hA.cell 0
        have c1 := hA.cell 1
        go_upto_if 71 with (fail)
        go_cut [11] (fun xx wc2 => xx = .string (hf low) ∧ Later wr wc2)
        case first =>
          have hlo := hlow.out
          have hL := Later.refl wr
          rcases th with _ | _
          · rw [if_neg (by decide)] at hlo
            subst hlo
            go_wp2_with (fail)
            go_meet
            exact ⟨rfl, hL⟩
          · rw [if_pos rfl] at hlo
            have n1 : ∀ x : Int, (strOfNums [x]).size = 1 := fun x => strOfNums_size _
            have k1 := fun x W => conv1 x W _ rfl
            have CL := fun w => hch.out (((⟨#[86]⟩ ++ strOfNums [(key.size : Int)]) ++ key) ++ va) w (by rw [ByteArray.size_append, ByteArray.size_append, ByteArray.size_append, strOfNums_size]; show 1 + 1 + key.size + va.size ≤ _; omega)
            replace CL := Lib.hid CL
            replace hL : Later wr (wr.alloc (.cells #[.int .u8 (key.size : Int)] 5)) := hL.alloc _
            replace hlo := Lib.hid hlo
            have c1' := (hA.alloc (.cells #[.int .u8 (key.size : Int)] 5)).cell 1
            go_wp2_with (((with_reducible refine (CL.out _).mono ?_); rintro e wL ⟨rfl, hlL⟩; replace hL := hL.trans hlL))
            go_meet
            exact ⟨by rw [hlo.out], hL⟩
        case rest =>
          obtain ⟨rfl, hL⟩ := hcut
          clear c0 c1 hE256
          replace hE := hL.whole hE
          replace hA := hL.whole hA
          replace hB := hB.trans hL
          clear hL
          go_wp2_with (((with_reducible refine (Cp.out _).mono ?_); rintro e wP ⟨rfl, hlP⟩; replace hE := hlP.whole hE; replace hA := hlP.whole hA; replace hB := hB.trans hlP))
          go_loopg [8, 11, 13] 257 (fun kg nn x i wr => ∃ (m k n : Nat) (T : ByteArray), m + k = 256 ∧ kg = m + 1 ∧ i = .int .i64 ((m : Int) - 1) ∧ stC hf key ⟨th, va, pr⟩ k = some (T, n) ∧ 32 ≤ n ∧ n ≤ pr.size ∧ n % 32 = 0 ∧ nn = .int .i64 n ∧ x = .string (hf T) ∧ Whole wr gE 73 (sarr (downL (emp hf) 256)) ∧ Whole wr w.heap.size 23 #[.bool th, .string va, .string pr] ∧ Later w wr)
          case atStart => exact ⟨256, 0, pr.size, low, rfl, rfl, rfl, hs0.out, y4, Nat.le_refl _, y5, rfl, rfl, hE, hA, hB⟩
          case round =>
            clear hE hA hB
            obtain ⟨m, k', n, T, hmk, hkg, rfl, hTm, hn1, hn2, hn3, rfl, rfl, hE, hA, hB⟩ := hrel
            replace hkg := Lib.hid hkg
            replace hTm := Lib.hid hTm
            cases m with
            | zero =>
              obtain rfl : k' = 256 := by omega
              have hT' := hT.out
              rw [hTm.out] at hT'
              simp only at hT'
              by_cases hn : n = 32
              · rw [if_pos hn] at hT'
                replace hT' := Lib.hid hT'
                have r1 : ((n : Int) ≤ 32) := by omega
                go_wp2_with (fail)
                go_returns
                go_light
                exact ⟨by rw [hT'.out]; rfl, hB⟩
              · rw [if_neg hn] at hT'
                replace hT' := Lib.hid hT'
                have r1 : ((32 : Int) < n) := by omega
                go_wp2_with (fail)
                go_returns
                go_light
                exact ⟨by rw [hT'.out]; rfl, hB⟩
            | succ m =>
              obtain rfl : k' = 255 - m := by omega
              have hm : m < 256 := by omega
              have ce := sarr_cell hE (i := m + 1) (by rw [downL_length _ (by omega)]; omega)
              rw [downL_getD _ (by omega) (by omega) (by omega), show 256 - (m + 1) = 255 - m by omega] at ce
              have hnx := hst.out (255 - m) T n hTm.out
              rw [show 255 - (255 - m) = m by omega] at hnx
              have hEs := hes.out (255 - m)
              have hHs := hhs.out T
              have C1 := fun w => bit05_calls pr m (by omega) (by omega) w
              have C2 := fun w => bit05_calls Pt m (by omega) (by omega) w
              generalize emp hf (255 - m) = E at *
              rw [show (((m + 1 : Nat) : Int) - 1) = (m : Int) by omega]
              clear hmk
              have x1 : IntKind.i64.wrap ((m : Int) + 1) = m + 1 := by simp [IntKind.wrap, IntKind.signed, IntKind.bits]; omega
              have x2 : (0 : Int) ≤ (m : Int) + 1 := by omega
              have x3 : (m : Int) + 1 < 257 := by omega
              have x4 : ((m : Int) + 1).toNat = m + 1 := by omega
              have x5 : (0 : Int) ≤ (m : Int) := by omega
              have c2 := hA.cell 2
              cases hb1 : bitQ pr m
              · rw [hb1] at hnx
                rw [if_neg (by decide)] at hnx
                have hbn : bitN pr m = 0 := by
                  have h1 := bitN_lt pr m
                  have h2 : ¬ bitN pr m = 1 := fun q => by rw [(bitQ_iff _ _).2 q] at hb1; cases hb1
                  omega
                rw [hbn] at C1
                replace C1 := Lib.hid C1
                go_upto_region 23 with (((with_reducible refine (C1.out _).mono ?_); rintro e wB ⟨rfl, rfl⟩))
                have hOs := hEs
                cases hb2 : bitQ Pt m
                · rw [if_neg (by rw [hb2]; decide)] at hnx
                  have hbn : bitN Pt m = 0 := by
                    have h1 := bitN_lt Pt m
                    have h2 : ¬ bitN Pt m = 1 := fun q => by rw [(bitQ_iff _ _).2 q] at hb2; cases hb2
                    omega
                  rw [hbn] at C2
                  have Ch := fun w => hch.out ((⟨#[78]⟩ ++ hf T) ++ E) w (by rw [ByteArray.size_append, ByteArray.size_append, hHs, hOs]; decide)
                  replace Ch := Lib.hid Ch
                  replace C2 := Lib.hid C2
                  replace hnx : Hid (stC hf key ⟨th, va, pr⟩ (255 - m + 1) = some ((⟨#[78]⟩ ++ hf T) ++ E, n)) := Lib.hid hnx
                  go_wp2_with (first | ((with_reducible refine (C2.out _).mono ?_); rintro e wB ⟨rfl, rfl⟩) | ((with_reducible refine (Ch.out _).mono ?_); rintro e wH ⟨rfl, hlH⟩; replace hE := hlH.whole hE; replace hA := hlH.whole hA; replace hB := hB.trans hlH))
                  go_roundg (m + 1)
                  case measure => go_light; rw [hkg.out]; omega
                  case rel => go_light; exact ⟨m, 255 - m + 1, n, _, by omega, rfl, rfl, hnx.out, by omega, by omega, by omega, by simp, rfl, hE, hA, hB⟩
                · rw [if_pos hb2] at hnx
                  have hbn : bitN Pt m = 1 := (bitQ_iff _ _).1 hb2
                  rw [hbn] at C2
                  have Ch := fun w => hch.out ((⟨#[78]⟩ ++ E) ++ hf T) w (by rw [ByteArray.size_append, ByteArray.size_append, hHs, hOs]; decide)
                  replace Ch := Lib.hid Ch
                  replace C2 := Lib.hid C2
                  replace hnx : Hid (stC hf key ⟨th, va, pr⟩ (255 - m + 1) = some ((⟨#[78]⟩ ++ E) ++ hf T, n)) := Lib.hid hnx
                  go_wp2_with (first | ((with_reducible refine (C2.out _).mono ?_); rintro e wB ⟨rfl, rfl⟩) | ((with_reducible refine (Ch.out _).mono ?_); rintro e wH ⟨rfl, hlH⟩; replace hE := hlH.whole hE; replace hA := hlH.whole hA; replace hB := hB.trans hlH))
                  go_roundg (m + 1)
                  case measure => go_light; rw [hkg.out]; omega
                  case rel => go_light; exact ⟨m, 255 - m + 1, n, _, by omega, rfl, rfl, hnx.out, by omega, by omega, by omega, by simp, rfl, hE, hA, hB⟩
              · rw [hb1] at hnx
                rw [if_pos rfl] at hnx
                have hbn : bitN pr m = 1 := (bitQ_iff _ _).1 hb1
                rw [hbn] at C1
                replace C1 := Lib.hid C1
                by_cases hn : n = 32
                · rw [if_pos hn] at hnx
                  have hno : rootR hf key ⟨th, va, pr⟩ = (ByteArray.empty, false) := by
                    rw [hT.out, hnone.out _ hnx 256 (by omega)]
                  replace hno := Lib.hid hno
                  have r1 : ((n : Int) == 32) = true := by rw [beq_iff_eq]; omega
                  clear hn
                  go_wp2_with (((with_reducible refine (C1.out _).mono ?_); rintro e wB ⟨rfl, rfl⟩))
                  go_returns
                  go_light
                  exact ⟨by rw [hno.out]; rfl, hB⟩
                · rw [if_neg hn] at hnx
                  have r1 : ((n : Int) == 32) = false := by rw [beq_eq_false_iff_ne]; omega
                  obtain ⟨q, hq⟩ : ∃ q, n = q + 64 := ⟨n - 64, by omega⟩
                  subst hq
                  rw [show q + 64 - 32 = q + 32 by omega] at hnx
                  have hOs : (pr.extract (q + 32) (q + 64)).size = 32 := by rw [ByteArray.size_extract]; omega
                  have g1 : ((q + 64 : Nat) : Int) - 32 = (q : Int) + 32 := by omega
                  go_upto_region 23 with (((with_reducible refine (C1.out _).mono ?_); rintro e wB ⟨rfl, rfl⟩))
                  rw [show q + 64 - 32 = q + 32 by omega, show ((q : Int) + 64 - 32) = ((q + 32 : Nat) : Int) by omega]
                  generalize pr.extract (q + 32) (q + 64) = O at *
                  cases hb2 : bitQ Pt m
                  · rw [if_neg (by rw [hb2]; decide)] at hnx
                    have hbn : bitN Pt m = 0 := by
                      have h1 := bitN_lt Pt m
                      have h2 : ¬ bitN Pt m = 1 := fun q => by rw [(bitQ_iff _ _).2 q] at hb2; cases hb2
                      omega
                    rw [hbn] at C2
                    have Ch := fun w => hch.out ((⟨#[78]⟩ ++ hf T) ++ O) w (by rw [ByteArray.size_append, ByteArray.size_append, hHs, hOs]; decide)
                    replace Ch := Lib.hid Ch
                    replace C2 := Lib.hid C2
                    replace hnx : Hid (stC hf key ⟨th, va, pr⟩ (255 - m + 1) = some ((⟨#[78]⟩ ++ hf T) ++ O, (q + 32))) := Lib.hid hnx
                    go_wp2_with (first | ((with_reducible refine (C2.out _).mono ?_); rintro e wB ⟨rfl, rfl⟩) | ((with_reducible refine (Ch.out _).mono ?_); rintro e wH ⟨rfl, hlH⟩; replace hE := hlH.whole hE; replace hA := hlH.whole hA; replace hB := hB.trans hlH))
                    go_roundg (m + 1)
                    case measure => go_light; rw [hkg.out]; omega
                    case rel => go_light; exact ⟨m, 255 - m + 1, (q + 32), _, by omega, rfl, rfl, hnx.out, by omega, by omega, by omega, by simp, rfl, hE, hA, hB⟩
                  · rw [if_pos hb2] at hnx
                    have hbn : bitN Pt m = 1 := (bitQ_iff _ _).1 hb2
                    rw [hbn] at C2
                    have Ch := fun w => hch.out ((⟨#[78]⟩ ++ O) ++ hf T) w (by rw [ByteArray.size_append, ByteArray.size_append, hHs, hOs]; decide)
                    replace Ch := Lib.hid Ch
                    replace C2 := Lib.hid C2
                    replace hnx : Hid (stC hf key ⟨th, va, pr⟩ (255 - m + 1) = some ((⟨#[78]⟩ ++ O) ++ hf T, (q + 32))) := Lib.hid hnx
                    go_wp2_with (first | ((with_reducible refine (C2.out _).mono ?_); rintro e wB ⟨rfl, rfl⟩) | ((with_reducible refine (Ch.out _).mono ?_); rintro e wH ⟨rfl, hlH⟩; replace hE := hlH.whole hE; replace hA := hlH.whole hA; replace hB := hB.trans hlH))
                    go_roundg (m + 1)
                    case measure => go_light; rw [hkg.out]; omega
                    case rel => go_light; exact ⟨m, 255 - m + 1, (q + 32), _, by omega, rfl, rfl, hnx.out, by omega, by omega, by omega, by simp, rfl, hE, hA, hB⟩
theorem root09_calls (k : Nat) (hk : k < 256) (key : ByteArray) (a : An) (hkey : key.size ≤ 1099511627770) (hv : a.value.size ≤ 1099511627770) (hp : a.proof.size ≤ 1099511627770) (w : World) :
    Calls Try.prog 16 #[.int .u8 k, .string key, .agg a.A] w fun e w' => e = .returned (.tuple #[.string (rootC (hfOf k) key a).1, .bool (rootC (hfOf k) key a).2]) ∧ Later w w' := by
  rw [← rootR_eq]
  cases hm : a.may key
  · have : rootR (hfOf k) key a = (ByteArray.empty, false) := by unfold rootR; rw [if_neg (by rw [hm]; decide)]
    rw [this]
    exact root09_no k key a hkey hv hp hm w
  · exact root09_yes k hk key a hp hm w
end Go.Proofs.Ytadmpaeblbddgaa
