/- Layer 9: the texts of an answer. Conditions: sizes as the law's. -/
import Derived.Test.YtadmpaeblbddgaaClash1
namespace Go.Proofs.Ytadmpaeblbddgaa
open Go.RowKit
set_option linter.unusedVariables false
set_option linter.unusedSimpArgs false
/-- What a call hands back: a row of texts, or nil. -/
def RowOpt (w : World) (l : Option (List ByteArray)) (e : Ending) (w' : World) : Prop := match l with
  | some l => RowRet w l e w'
  | none => e = .returned (.slice none 0 0) ∧ Later w w'
set_option maxRecDepth 100000 in
theorem conv1 (a : Int) (W : World) (B : Nat) (hB : W.heap.size = B) : (convert 66 9 (.slice (some ⟨B, 0, none⟩) 1 1)).run Try.prog (W.alloc (.cells #[.int .u8 a] 5)) =
    .ok (.string (strOfNums [a])) (W.alloc (.cells #[.int .u8 a] 5)) := by
  subst hB
  refine run_convert_bytes_arg _ _ 5 rfl rfl _ 0 1 1 [a] rfl (fun i hi => ?_) _ rfl
  have hw := (Whole.new W 5 #[.int .u8 a]).cell
  rw [hw]
  match i, hi with
  | 0, _ => rfl
theorem size0 {a : ByteArray} : a.toList = [] ↔ a.size = 0 := by
  rw [nilL]
  refine ⟨fun h => by rw [h]; rfl, fun h => ByteArray.ext (Array.eq_empty_of_size_eq_zero h)⟩
theorem may_no {key : ByteArray} {a : An} (h : a.may key = false) : 255 < key.size ∨ 255 < a.value.size ∨ (a.there = false ∧ ¬ a.value.toList = []) ∨ a.proof.size < 32 ∨ ¬ a.proof.size % 32 = 0 := by
  have h' : (((255 < key.size ∨ 255 < a.value.size) ∨ a.there = false ∧ 0 < a.value.size) ∨ a.proof.size < 32) ∨ ¬ a.proof.size % 32 = 0 := by
    simp only [An.may, Bool.not_eq_false', Bool.or_eq_true, decide_eq_true_eq, Bool.and_eq_true, Bool.not_eq_true'] at h
    exact h
  rcases h' with (((h | h) | ⟨h, h2⟩) | h) | h
  · exact .inl h
  · exact .inr (.inl h)
  · exact .inr (.inr (.inl ⟨h, fun q => by have := size0.1 q; omega⟩))
  · exact .inr (.inr (.inr (.inl h)))
  · exact .inr (.inr (.inr (.inr h)))
theorem may_yes {key : ByteArray} {a : An} (h : a.may key = true) : key.size ≤ 255 ∧ a.value.size ≤ 255 ∧ (a.there = false → a.value.toList = []) ∧ 32 ≤ a.proof.size ∧ a.proof.size % 32 = 0 := by
  simp only [An.may, Bool.not_eq_true', Bool.or_eq_false_iff, decide_eq_false_iff_not, Bool.and_eq_false_iff, Bool.not_eq_false', Classical.not_not, Nat.not_lt] at h
  obtain ⟨⟨⟨⟨h1, h2⟩, h3⟩, h4⟩, h5⟩ := h
  exact ⟨h1, h2, fun q => (h3.resolve_left (by rw [q]; decide)) |> fun h => size0.2 (by omega), h4, h5⟩
set_option maxHeartbeats 2000000 in
set_option maxRecDepth 100000 in
theorem texts_no {f : FuncId} (key : ByteArray) (a : An) (hk : key.size ≤ 1099511627770) (hv : a.value.size ≤ 1099511627770) (hp : a.proof.size ≤ 1099511627770) (hm : a.may key = false) (w : World) :
    Calls Try.prog 64 #[.func (.func f) #[] #[], .string key, .agg a.A] w fun e w' => e = .returned (.slice none 0 0) ∧ Later w w' := by
  have hn := may_no hm
  clear hm
  obtain ⟨th, va, pr⟩ := a
  simp only [An.A] at *
  replace hn := Lib.hid hn
  have hw := Whole.new w 23 #[.bool th, .string va, .string pr]
  have c0 := hw.cell 0
  have c1 := hw.cell 1
  have c2 := hw.cell 2
  go_enter Try.func64, Try.ntmps64
  go_wp2
  all_goals first
    | (go_returns; go_light; exact ⟨rfl, (Later.refl w).alloc _⟩)
    | (exfalso; simp only [bne_eq_false_iff_eq] at *; rcases hn.out with h | h | ⟨h, h2⟩ | h | h <;> first | omega | (simp_all; done))
theorem bitQ_cut (p : ByteArray) {i : Nat} (hi : i < 256) (hp : 32 ≤ p.size) : bitQ (p.extract 0 32) i = bitQ p i := by
  unfold bitQ bitN
  have : (p.extract 0 32).data.toList.getD (i / 8) 0 = p.data.toList.getD (i / 8) 0 := by
    have h32 : i / 8 < 32 := by omega
    rw [List.getD_eq_getElem?_getD, List.getD_eq_getElem?_getD]
    simp [ByteArray.data_extract, List.getElem?_take, h32]
  rw [this]
set_option maxHeartbeats 4000000 in
set_option maxRecDepth 100000 in
theorem texts_yes {f : FuncId} {hf : ByteArray → ByteArray} (H : Hasher f hf) (key : ByteArray) (a : An) (hp : a.proof.size ≤ 1099511627770) (hm : a.may key = true) (w : World) :
    Calls Try.prog 64 #[.func (.func f) #[] #[], .string key, .agg a.A] w (RowOpt w (texts hf key a)) := by
  obtain ⟨y1, y2, y3, y4, y5⟩ := may_yes hm
  have hT : texts hf key a = topC hf key a (stC hf key a 256) := by unfold texts; rw [if_pos hm]
  clear hm
  have hst := stC_succ hf key a
  have hs0 : stC hf key a 0 = some (a.low key, a.proof.size) := rfl
  have htx := fun k T n => @txC_of hf key a k T n
  obtain ⟨th, va, pr⟩ := a
  simp only [An.A, An.low] at *
  replace hT := Lib.hid hT
  replace hst := Lib.hid hst
  replace htx := Lib.hid htx
  have y6 : ((pr.size : Int) % 32 != 0) = false := by rw [bne_eq_false_iff_eq]; omega
  have hmk : ∀ w : World, (Instr.makeSlice 36 (.int .i64 257) (.int .i64 257)).run Try.prog w = .ok (.slice (some ⟨w.heap.size, 0, none⟩) 257 257) (w.alloc (.cells (sarr e257) 9)) := fun w => by
    unfold e257
    rw [← sarr_replicate]
    exact run_make1 (b := 16) Try.underlying36 (by kernel_rfl) rfl 257 (by decide) (by decide) w
  have En := H.enters
  have hes := emp_size H.size
  have hhs := H.size
  have hch := H.calls
  replace hes := Lib.hid hes
  replace hhs := Lib.hid hhs
  replace hch := Lib.hid hch
  obtain ⟨low, hlow⟩ : ∃ low, (if th = true then ((⟨#[86]⟩ ++ strOfNums [(key.size : Int)]) ++ key) ++ va else ⟨#[69]⟩) = low := ⟨_, rfl⟩
  rw [hlow] at hs0
  replace hs0 := Lib.hid hs0
  have hlows : low.size ≤ 600 := by
    rw [← hlow]
    split
    · rw [ByteArray.size_append, ByteArray.size_append, ByteArray.size_append, strOfNums_size]
      show 1 + 1 + key.size + va.size ≤ 600
      omega
    · show 1 ≤ 600; decide
  replace hlows := Lib.hid hlows
  obtain ⟨W0, hW0⟩ : ∃ W0, w.alloc (.cells #[.bool th, .string va, .string pr] 23) = W0 := ⟨_, rfl⟩
  have hA : Whole W0 w.heap.size 23 #[.bool th, .string va, .string pr] := by rw [← hW0]; exact Whole.new w _ _
  have hB : Later w W0 := by rw [← hW0]; exact (Later.refl w).alloc _
  have hz0 : W0.heap.size = w.heap.size + 1 := by rw [← hW0]; simp
  obtain ⟨Pt, hPt⟩ : ∃ P, hf (⟨#[75]⟩ ++ key) = P := ⟨_, rfl⟩
  have hPs : Pt.size = 32 := by rw [← hPt]; exact H.size _
  have Cp := fun w => path_calls H key (by omega) w
  have Ce := fun w => empties_calls H w
  simp only [hPt] at Cp
  replace Cp := Lib.hid Cp
  replace Ce := Lib.hid Ce
  have hst' := hst.out
  simp only [hPt] at hst'
  replace hst := Lib.hid hst'
  clear hst'
  replace hPt := Lib.hid hPt
  go_enter Try.func64, Try.ntmps64
  go_upto_region 1 with (fail)
  try rw [hW0]
  clear hW0
  go_cut [46] (fun p wc => p = .bool false ∧ wc = W0)
  case first =>
    have c0 := hA.cell 0
    have c1 := hA.cell 1
    have c2 := hA.cell 2
    rcases th with _ | _
    all_goals go_wp2_with (fail)
    all_goals
      go_meet
      refine ⟨congrArg Value.bool ?_, rfl⟩
      simp only [Bool.or_eq_false_iff, decide_eq_false_iff_not]
      omega
  case rest =>
    obtain ⟨rfl, rfl⟩ := hcut
    have hO := Whole.new wc 9 (sarr e257)
    rw [hz0] at hO
    have hA1 := hA.alloc (.cells (sarr e257) 9)
    have hB1 : Later w (wc.alloc (.cells (sarr e257) 9)) := hB.alloc _
    go_upto_region 4 with (fail)
    have hz1 : w.heap.size + 1 < (wc.alloc (.cells (sarr e257) 9)).heap.size := hO.lt
    clear hA hB hmk
    generalize wc.alloc (.cells (sarr e257) 9) = W1 at *
    have o1 := sarr_cell hO (i := 256) (by rw [e257_length]; decide)
    have o2 := hO.frozen 256
    have c0' := hA1.cell 0
    go_upto_if 51 with (fail)
    have hO1 := sarr_put hO 256 ⟨#[69]⟩
    replace hA1 := hA1.far (p := ⟨w.heap.size + 1, 256, none⟩) (show w.heap.size ≠ w.heap.size + 1 by omega) (.string ⟨#[69]⟩)
    replace hB1 : Later w _ := hB1.setCell (p := ⟨w.heap.size + 1, 256, none⟩) (by simp) (.string ⟨#[69]⟩)
    have hz2 : w.heap.size + 1 < (W1.setCell ⟨w.heap.size + 1, 256, none⟩ (.string ⟨#[69]⟩)).heap.size := hO1.lt
    clear o1 o2 hO hz1 c0'
    generalize W1.setCell ⟨w.heap.size + 1, 256, none⟩ (.string ⟨#[69]⟩) = W2 at *
    go_cut [] (fun w3 => Whole w3 (w.heap.size + 1) 9 (sarr (downL (txC hf key ⟨th, va, pr⟩) 0)) ∧ Whole w3 w.heap.size 23 #[.bool th, .string va, .string pr] ∧ Later w w3)
    case first =>
      have hd := (downL_zero (txC hf key ⟨th, va, pr⟩)).symm
      rw [htx.out 0 _ _ hs0.out, ← hlow] at hd
      rcases th with _ | _
      · go_wp2_with (fail)
        go_meet
        exact ⟨by rw [hd]; exact hO1, hA1, hB1⟩
      · replace hd := Lib.hid hd
        have hO' := hO1.alloc (.cells #[.int .u8 (key.size : Int)] 5)
        have k1 := fun x => conv1 x W2 _ rfl
        have n1 : ∀ x : Int, (strOfNums [x]).size = 1 := fun x => strOfNums_size _
        have o3 := sarr_cell hO' (i := 256) (by rw [List.length_set, e257_length]; decide)
        have o4 := hO'.frozen 256
        have hA' := hA1.alloc (.cells #[.int .u8 (key.size : Int)] 5)
        have c1' := hA'.cell 1
        have hO2 := (sarr_put hO1 256 (((⟨#[86]⟩ ++ strOfNums [(key.size : Int)]) ++ key) ++ va)).alloc (.cells #[.int .u8 (key.size : Int)] 5)
        rw [List.set_set] at hO2
        have hA2 := (hA1.far (p := ⟨w.heap.size + 1, 256, none⟩) (show w.heap.size ≠ w.heap.size + 1 by omega) (.string (((⟨#[86]⟩ ++ strOfNums [(key.size : Int)]) ++ key) ++ va))).alloc (.cells #[.int .u8 (key.size : Int)] 5)
        have hB2 : Later w _ := Later.alloc (hB1.setCell (p := ⟨w.heap.size + 1, 256, none⟩) (by simp) (.string (((⟨#[86]⟩ ++ strOfNums [(key.size : Int)]) ++ key) ++ va))) (.cells #[.int .u8 (key.size : Int)] 5)
        go_wp2_with (fail)
        go_meet
        exact ⟨by rw [hd.out, if_pos trivial]; exact hO2, hA2, hB2⟩
    case rest =>
      clear hO1 hA1 hB1 hlow
      obtain ⟨hO2, hA2, hB2⟩ := hcut
      go_upto_region 8 with (first | ((with_reducible refine (Ce.out _).mono ?_); rintro e wE ⟨gE, rfl, hE, hgE, hlE⟩; have hgne : gE ≠ w.heap.size + 1 := (by have := hO2.lt; omega); replace hO2 := hlE.whole hO2; replace hA2 := hlE.whole hA2; replace hB2 := hB2.trans hlE; rw [downL_length _ (by decide)]) | ((with_reducible refine (Cp.out _).mono ?_); rintro e wP ⟨rfl, hlP⟩; replace hO2 := hlP.whole hO2; replace hA2 := hlP.whole hA2; replace hE := hlP.whole hE; replace hB2 := hB2.trans hlP))
      have c2 := hA2.cell 2
      have z1 : (32 : Int) ≤ (pr.size : Int) := by omega
      have z2 : (0 : Int) ≤ (pr.size : Int) := by omega
      refine wp_region_grow 8 127 (by kernel_rfl) (by kernel_rfl) rfl (fun w3 hl3 => ?_)
      simp only [List.take_succ_cons, List.take_zero, List.drop_succ_cons, List.drop_zero]
      generalize ha : Act.mk _ _ = a0
      have k5 : a0.eval (.tmp 5) = .pointer (some ⟨w.heap.size, 0, none⟩) := by subst ha; rfl
      have ks : a0.tmps.size = 127 := by subst ha; rfl
      have ha0 := ha.symm
      clear ha
      apply wpG_value'
      · rfl
      · (intro a wx hlx hk K hK; have e5 : a.eval (.tmp 5) = _ := (hk 5 rfl : a.eval (.tmp 5) = a0.eval (.tmp 5)).trans k5; simp only [execOp, e5]; clear e5 hk; go_simp; exact hK)
      refine wpG_load1 (hl3.cell c2) Try.underlying9 rfl (fun a w hk => hk 70 rfl) ?_
      apply wpG_value'
      · rfl
      · (intro a wx hlx hk K hK; have e71 : a.eval (.tmp 71) = _ := hk 71 rfl; simp only [execOp, resolve, List.map_toArray, List.map_cons, List.map_nil, Option.map_some, Option.map_none, e71]; clear e71 hk; go_simp; exact hK)
      apply wpG_value'
      · rfl
      · (intro a wx hlx hk K hK; have e5 : a.eval (.tmp 5) = _ := (hk 5 rfl : a.eval (.tmp 5) = a0.eval (.tmp 5)).trans k5; simp only [execOp, e5]; clear e5 hk; go_simp; exact hK)
      refine wpG_load1 (hl3.cell c2) Try.underlying9 rfl (fun a w hk => hk 73 rfl) ?_
      apply wpG_value'
      · rfl
      · (intro a wx hlx hk K hK; have e74 : a.eval (.tmp 74) = _ := hk 74 rfl; simp only [execOp, resolve, List.map_toArray, List.map_cons, List.map_nil, Option.map_some, Option.map_none, e74]; clear e74 hk; go_simp; exact hK)
      refine wpG_assign (fun a w hk => hk 72 rfl) ?_
      refine wpG_assign (fun a w hk => hk 75 rfl) ?_
      refine wpG_nil (fun w3' hl3' => ?_)
      refine fin_is ?_
      refine fin_is ?_
      refine fin_is ?_
      refine fin_is ?_
      refine fin_is ?_
      refine fin_is ?_
      refine fin_is ?_
      refine fin_is ?_
      refine fin_nil ?_
      have hl := hl3.trans hl3'
      replace hO2 := hl.whole hO2
      replace hE := hl.whole hE
      replace hB2 := hB2.trans hl
      subst ha0
      clear k5 ks hl hl3 hl3' hA2 c2 hlE hlP
      obtain ⟨Bi, hBi⟩ : ∃ B, pr.extract 0 32 = B := ⟨_, rfl⟩
      have hBs : Bi.size = 32 := by rw [← hBi, ByteArray.size_extract]; omega
      have hbb : ∀ m, m < 256 → bitQ Bi m = bitQ pr m := fun m hm => by rw [← hBi]; exact bitQ_cut pr hm y4
      rw [hBi]
      replace hBi := Lib.hid hBi
      replace hbb := Lib.hid hbb
      have hls : low.size ≤ 600 := hlows.out
      go_wp2_with (fail)
      go_loopg [11, 12] 257 (fun kg r i wr => ∃ (m k n : Nat) (T : ByteArray), m + k = 256 ∧ kg = m + 1 ∧ i = .int .i64 ((m : Int) - 1) ∧ stC hf key ⟨th, va, pr⟩ k = some (T, n) ∧ 32 ≤ n ∧ n ≤ pr.size ∧ n % 32 = 0 ∧ T.size ≤ 600 ∧ r = .string (pr.extract 32 n) ∧ Whole wr (w.heap.size + 1) 9 (sarr (downL (txC hf key ⟨th, va, pr⟩) k)) ∧ Whole wr gE 9 (sarr (downL (emp hf) 256)) ∧ Later w wr)
      case atStart => exact ⟨256, 0, pr.size, low, rfl, rfl, rfl, hs0.out, y4, Nat.le_refl _, y5, hls, rfl, hO2, hE, hB2⟩
      case round =>
        clear hO2 hE hB2 hs0
        obtain ⟨m, k, n, T, hmk, hkg, rfl, hTm, hn1, hn2, hn3, hTs, rfl, hO, hE, hB⟩ := hrel
        replace hkg := Lib.hid hkg
        replace hTm := Lib.hid hTm
        obtain ⟨R, hR⟩ : ∃ R, pr.extract 32 n = R := ⟨_, rfl⟩
        have hRs : R.size = n - 32 := by rw [← hR, ByteArray.size_extract]; omega
        rw [hR]
        cases m with
        | zero =>
          obtain rfl : k = 256 := by omega
          have hT' := hT.out
          rw [hTm.out] at hT'
          simp only [topC] at hT'
          by_cases hn : n = 32
          · rw [if_pos hn] at hT'
            rw [hT']
            have r1 : R.toList = [] := size0.2 (by omega)
            go_wp2_with (fail)
            go_returns
            go_light
            exact ⟨w.heap.size + 1, by rw [downL_length _ (by decide)]; rfl, hO, by omega, hB⟩
          · rw [if_neg hn] at hT'
            rw [hT']
            have r1 : ¬ R.toList = [] := fun q => by have := size0.1 q; omega
            have r2 : R.toList.isEmpty = false := by simpa using r1
            go_wp2_with (fail)
            go_returns
            go_light
            exact ⟨rfl, hB⟩
        | succ m =>
          obtain rfl : k = 255 - m := by omega
          have hm : m < 256 := by omega
          have ct := sarr_cell hO (i := m + 1) (by rw [downL_length _ (by omega)]; omega)
          rw [downL_getD _ (by omega) (by omega) (by omega), show 256 - (m + 1) = 255 - m by omega, htx.out _ _ _ hTm.out] at ct
          have ce := sarr_cell hE (i := m + 1) (by rw [downL_length _ (by omega)]; omega)
          rw [downL_getD _ (by omega) (by omega) (by omega), show 256 - (m + 1) = 255 - m by omega] at ce
          have hnx := hst.out (255 - m) T n hTm.out
          rw [show 255 - (255 - m) = m by omega] at hnx
          have hEs := hes.out (255 - m)
          have hHs := hhs.out T
          have Ch := fun w => hch.out T w (by omega)
          have C1 := fun w => bit_calls Bi m (by omega) (by omega) w
          have C2 := fun w => bit_calls Pt m (by omega) (by omega) w
          rw [hbb.out m hm] at C1
          generalize emp hf (255 - m) = E at *
          replace Ch := Lib.hid Ch
          rw [show (((m + 1 : Nat) : Int) - 1) = (m : Int) by omega]
          clear hmk
          have x1 : IntKind.i64.wrap ((m : Int) + 1) = m + 1 := by simp [IntKind.wrap, IntKind.signed, IntKind.bits]; omega
          have x2 : (0 : Int) ≤ (m : Int) + 1 := by omega
          have x3 : (m : Int) + 1 < 257 := by omega
          have x4 : ((m : Int) + 1).toNat = m + 1 := by omega
          have x5 : (0 : Int) ≤ (m : Int) := by omega
          have x6 : (m : Int) < 257 := by omega
          cases hb1 : bitQ pr m
          · rw [hb1] at hnx C1
            rw [if_neg (by decide)] at hnx
            replace hR := Lib.hid hR
            replace C1 := Lib.hid C1
            go_upto_region 17 with (((with_reducible refine (C1.out _).mono ?_); rintro e wB ⟨rfl, rfl⟩))
            cases hb2 : bitQ Pt m
            · rw [hb2] at C2 hnx
              rw [if_neg (by decide)] at hnx
              replace hnx := Lib.hid hnx
              replace C2 := Lib.hid C2
              go_wp2_with (first | ((with_reducible refine (Ch.out _).mono ?_); rintro e wH ⟨rfl, hlH⟩; replace hO := hlH.whole hO; replace hE := hlH.whole hE; replace hB := hB.trans hlH; have o1 := sarr_cell hO (i := m) (by rw [downL_length _ (by omega)]; omega); have o2 := hO.frozen m) | ((with_reducible refine (C2.out _).mono ?_); rintro e wB ⟨rfl, rfl⟩))
              have hp := sarr_put hO m ((⟨#[78]⟩ ++ hf T) ++ E)
              have hB3 := hB.setCell (p := ⟨w.heap.size + 1, m, none⟩) (by simp) (.string ((⟨#[78]⟩ ++ hf T) ++ E))
              have hdn := downL_step (txC hf key ⟨th, va, pr⟩) (k := 255 - m) (by omega)
              rw [show 255 - (255 - m) = m by omega, htx.out _ _ _ hnx.out] at hdn
              rw [show NT _ _ = (⟨#[78]⟩ ++ hf T) ++ E from rfl] at hdn
              rw [hdn] at hp
              clear hdn
              go_roundg (m + 1)
              case measure => go_light; rw [hkg.out]; omega
              case rel => go_light; exact ⟨m, 255 - m + 1, n, _, by omega, rfl, rfl, hnx.out, by omega, by omega, by omega, by rw [NT_size, hHs, hEs]; decide, congrArg Value.string hR.out.symm, hp, hE.far (p := ⟨w.heap.size + 1, m, none⟩) hgne _, hB3⟩
            · rw [hb2] at C2 hnx
              rw [if_pos rfl] at hnx
              replace hnx := Lib.hid hnx
              replace C2 := Lib.hid C2
              go_wp2_with (first | ((with_reducible refine (Ch.out _).mono ?_); rintro e wH ⟨rfl, hlH⟩; replace hO := hlH.whole hO; replace hE := hlH.whole hE; replace hB := hB.trans hlH; have o1 := sarr_cell hO (i := m) (by rw [downL_length _ (by omega)]; omega); have o2 := hO.frozen m) | ((with_reducible refine (C2.out _).mono ?_); rintro e wB ⟨rfl, rfl⟩))
              have hp := sarr_put hO m ((⟨#[78]⟩ ++ E) ++ hf T)
              have hB3 := hB.setCell (p := ⟨w.heap.size + 1, m, none⟩) (by simp) (.string ((⟨#[78]⟩ ++ E) ++ hf T))
              have hdn := downL_step (txC hf key ⟨th, va, pr⟩) (k := 255 - m) (by omega)
              rw [show 255 - (255 - m) = m by omega, htx.out _ _ _ hnx.out] at hdn
              rw [show NT _ _ = (⟨#[78]⟩ ++ E) ++ hf T from rfl] at hdn
              rw [hdn] at hp
              clear hdn
              go_roundg (m + 1)
              case measure => go_light; rw [hkg.out]; omega
              case rel => go_light; exact ⟨m, 255 - m + 1, n, _, by omega, rfl, rfl, hnx.out, by omega, by omega, by omega, by rw [NT_size, hHs, hEs]; decide, congrArg Value.string hR.out.symm, hp, hE.far (p := ⟨w.heap.size + 1, m, none⟩) hgne _, hB3⟩
          · rw [hb1] at hnx C1
            rw [if_pos rfl] at hnx
            by_cases hn : n = 32
            · rw [if_pos hn] at hnx
              have hno : texts hf key ⟨th, va, pr⟩ = none := by
                rw [hT.out, stC_none hf key _ hnx 256 (by omega)]
                rfl
              rw [hno]
              have r1 : R.toList = [] := size0.2 (by omega)
              replace hR := Lib.hid hR
              replace C1 := Lib.hid C1
              go_wp2_with (((with_reducible refine (C1.out _).mono ?_); rintro e wB ⟨rfl, rfl⟩))
              go_returns
              go_light
              exact ⟨rfl, hB⟩
            · rw [if_neg hn] at hnx
              have r1 : ¬ R.toList = [] := fun q => by have := size0.1 q; omega
              have r2 : R.toList.isEmpty = false := by simpa using r1
              obtain ⟨q, hq⟩ : ∃ q, n = q + 64 := ⟨n - 64, by omega⟩
              subst hq
              rw [show q + 64 - 32 = q + 32 by omega] at hnx hRs
              have eO : R.extract q (q + 32) = pr.extract (q + 32) (q + 64) := by
                rw [← hR, ByteArray.extract_extract]
                congr 1 <;> omega
              have eR : R.extract 0 q = pr.extract 32 (q + 32) := by
                rw [← hR, ByteArray.extract_extract]
                congr 1 <;> omega
              have hOs : (pr.extract (q + 32) (q + 64)).size = 32 := by rw [ByteArray.size_extract]; omega
              generalize pr.extract (q + 32) (q + 64) = O at *
              replace hR := Lib.hid hR
              replace C1 := Lib.hid C1
              go_upto_region 16 with (((with_reducible refine (C1.out _).mono ?_); rintro e wB ⟨rfl, rfl⟩))
              have g1 : IntKind.i64.wrap ((q : Int) + 32 - 32) = q := by simp [IntKind.wrap, IntKind.signed, IntKind.bits]; omega
              have g4 : IntKind.i64.wrap (q : Int) = q := by simp [IntKind.wrap, IntKind.signed, IntKind.bits]; omega
              have g2 : (0 : Int) ≤ (q : Int) := by omega
              have g3 : (q : Int) ≤ (q : Int) + 32 := by omega
              refine wp_region_grow 12 127 (by kernel_rfl) (by kernel_rfl) rfl (fun w5 hl5 => ?_)
              simp only [List.take_succ_cons, List.take_zero, List.drop_succ_cons, List.drop_zero]
              generalize ha : Act.mk _ _ = a0
              have k11 : a0.eval (.tmp 11) = .string R := by subst ha; rfl
              have ks : a0.tmps.size = 127 := by subst ha; rfl
              have ha0 := ha.symm
              clear ha
              refine wpG_move (fun a w hk => (hk 11 rfl : a.eval (.tmp 11) = a0.eval (.tmp 11)).trans k11) ?_
              refine wpG_move (fun a w hk => (hk 11 rfl : a.eval (.tmp 11) = a0.eval (.tmp 11)).trans k11) ?_
              apply wpG_value'
              · rfl
              · (intro a wx hlx hk K hK; have e91 : a.eval (.tmp 91) = _ := hk 91 rfl; simp only [execOp, resolve, List.map_toArray, List.map_cons, List.map_nil, Option.map_some, Option.map_none, e91]; clear e91 hk; go_simp; exact hK)
              apply wpG_value'
              · rfl
              · (intro a wx hlx hk K hK; have e92 : a.eval (.tmp 92) = _ := hk 92 rfl; simp only [execOp, e92]; clear e92 hk; go_simp; exact hK)
              apply wpG_value'
              · rfl
              · (intro a wx hlx hk K hK; have e90 : a.eval (.tmp 90) = _ := hk 90 rfl; have e93 : a.eval (.tmp 93) = _ := hk 93 rfl; simp only [execOp, resolve, List.map_toArray, List.map_cons, List.map_nil, Option.map_some, Option.map_none, e90, e93]; clear e90 e93 hk; go_simp; exact hK)
              refine wpG_move (fun a w hk => (hk 11 rfl : a.eval (.tmp 11) = a0.eval (.tmp 11)).trans k11) ?_
              refine wpG_move (fun a w hk => (hk 11 rfl : a.eval (.tmp 11) = a0.eval (.tmp 11)).trans k11) ?_
              apply wpG_value'
              · rfl
              · (intro a wx hlx hk K hK; have e96 : a.eval (.tmp 96) = _ := hk 96 rfl; simp only [execOp, resolve, List.map_toArray, List.map_cons, List.map_nil, Option.map_some, Option.map_none, e96]; clear e96 hk; go_simp; exact hK)
              apply wpG_value'
              · rfl
              · (intro a wx hlx hk K hK; have e97 : a.eval (.tmp 97) = _ := hk 97 rfl; simp only [execOp, e97]; clear e97 hk; go_simp; exact hK)
              apply wpG_value'
              · rfl
              · (intro a wx hlx hk K hK; have e95 : a.eval (.tmp 95) = _ := hk 95 rfl; have e98 : a.eval (.tmp 98) = _ := hk 98 rfl; simp only [execOp, resolve, List.map_toArray, List.map_cons, List.map_nil, Option.map_some, Option.map_none, e95, e98]; clear e95 e98 hk; go_simp; exact hK)
              refine wpG_assign (fun a w hk => hk 94 rfl) ?_
              refine wpG_assign (fun a w hk => hk 99 rfl) ?_
              refine wpG_nil (fun w5' hl5' => ?_)
              refine fin_is ?_
              refine fin_is ?_
              refine fin_is ?_
              refine fin_is ?_
              refine fin_is ?_
              refine fin_is ?_
              refine fin_is ?_
              refine fin_is ?_
              refine fin_is ?_
              refine fin_is ?_
              refine fin_is ?_
              refine fin_is ?_
              refine fin_nil ?_
              have hl := hl5.trans hl5'
              replace ct := hl.cell ct
              replace hO := hl.whole hO
              replace hE := hl.whole hE
              replace hB := hB.trans hl
              subst ha0
              clear k11 ks hl hl5 hl5'
              cases hb2 : bitQ Pt m
              · rw [hb2] at C2 hnx
                rw [if_neg (by decide)] at hnx
                replace hnx := Lib.hid hnx
                replace C2 := Lib.hid C2
                go_wp2_with (first | ((with_reducible refine (Ch.out _).mono ?_); rintro e wH ⟨rfl, hlH⟩; replace hO := hlH.whole hO; replace hE := hlH.whole hE; replace hB := hB.trans hlH; have o1 := sarr_cell hO (i := m) (by rw [downL_length _ (by omega)]; omega); have o2 := hO.frozen m) | ((with_reducible refine (C2.out _).mono ?_); rintro e wB ⟨rfl, rfl⟩))
                have hp := sarr_put hO m ((⟨#[78]⟩ ++ hf T) ++ O)
                have hB3 := hB.setCell (p := ⟨w.heap.size + 1, m, none⟩) (by simp) (.string ((⟨#[78]⟩ ++ hf T) ++ O))
                have hdn := downL_step (txC hf key ⟨th, va, pr⟩) (k := 255 - m) (by omega)
                rw [show 255 - (255 - m) = m by omega, htx.out _ _ _ hnx.out] at hdn
                rw [show NT _ _ = (⟨#[78]⟩ ++ hf T) ++ O from rfl] at hdn
                rw [hdn] at hp
                clear hdn
                go_roundg (m + 1)
                case measure => go_light; rw [hkg.out]; omega
                case rel => go_light; exact ⟨m, 255 - m + 1, (q + 32), _, by omega, rfl, rfl, hnx.out, by omega, by omega, by omega, by rw [NT_size, hHs, hOs]; decide, rfl, hp, hE.far (p := ⟨w.heap.size + 1, m, none⟩) hgne _, hB3⟩
              · rw [hb2] at C2 hnx
                rw [if_pos rfl] at hnx
                replace hnx := Lib.hid hnx
                replace C2 := Lib.hid C2
                go_wp2_with (first | ((with_reducible refine (Ch.out _).mono ?_); rintro e wH ⟨rfl, hlH⟩; replace hO := hlH.whole hO; replace hE := hlH.whole hE; replace hB := hB.trans hlH; have o1 := sarr_cell hO (i := m) (by rw [downL_length _ (by omega)]; omega); have o2 := hO.frozen m) | ((with_reducible refine (C2.out _).mono ?_); rintro e wB ⟨rfl, rfl⟩))
                have hp := sarr_put hO m ((⟨#[78]⟩ ++ O) ++ hf T)
                have hB3 := hB.setCell (p := ⟨w.heap.size + 1, m, none⟩) (by simp) (.string ((⟨#[78]⟩ ++ O) ++ hf T))
                have hdn := downL_step (txC hf key ⟨th, va, pr⟩) (k := 255 - m) (by omega)
                rw [show 255 - (255 - m) = m by omega, htx.out _ _ _ hnx.out] at hdn
                rw [show NT _ _ = (⟨#[78]⟩ ++ O) ++ hf T from rfl] at hdn
                rw [hdn] at hp
                clear hdn
                go_roundg (m + 1)
                case measure => go_light; rw [hkg.out]; omega
                case rel => go_light; exact ⟨m, 255 - m + 1, (q + 32), _, by omega, rfl, rfl, hnx.out, by omega, by omega, by omega, by rw [NT_size, hHs, hOs]; decide, rfl, hp, hE.far (p := ⟨w.heap.size + 1, m, none⟩) hgne _, hB3⟩
end Go.Proofs.Ytadmpaeblbddgaa
