/- Package smt: Verify. Conditions: keys of less than 256 bytes, values and proofs of at most 2^30. -/
import Derived.Test.YtknjbkbbhgjnlaaSmt2
namespace Go.Proofs.Ytknjbkbbhgjnlaa
open Go.RowKit
set_option linter.unusedVariables false
set_option linter.unusedSimpArgs false
def vfy (want key : ByteArray) (th : Bool) (va pr : ByteArray) : Bool := if pr.size < 32 ∨ pr.size % 32 ≠ 0 then false else match stC shaN key ⟨th, va, pr⟩ 256 with
  | some (T, n) => decide (n = 32) && decide (shaN T = want)
  | none => false
theorem bitN_head (pr : ByteArray) (d : Nat) (hd : d < 256) : bitN (pr.extract 0 32) d = bitN pr d := by
  unfold bitN
  congr 2
  rw [Lib.extract_data, List.drop_zero, List.getD_eq_getElem?_getD, List.getD_eq_getElem?_getD, List.getElem?_take, if_pos (by omega)]
theorem ext_ext (pr : ByteArray) (n i j : Nat) (hn : n ≤ pr.size) (hj : 32 + j ≤ n) : (pr.extract 32 n).extract i j = pr.extract (32 + i) (32 + j) := by
  apply ba_ext
  rw [Lib.extract_data, Lib.extract_data, Lib.extract_data, List.drop_take, List.drop_drop, List.take_take]
  congr 1
  omega
theorem ext_none (pr : ByteArray) (n : Nat) (hn : n ≤ pr.size) (h32 : 32 ≤ n) : (pr.extract 32 n).size = n - 32 := by rw [ByteArray.size_extract]; omega
theorem bitQ_true (p : ByteArray) (i : Nat) : bitQ p i = true ↔ bitN p i = 1 := by simp [bitQ]
theorem bitN_two (p : ByteArray) (i : Nat) : bitN p i < 2 := Nat.mod_lt _ (by decide)
theorem bitQ_no {p : ByteArray} {i : Nat} (h : bitQ p i = false) : bitN p i = 0 := by
  have h1 := bitN_two p i
  have h2 : ¬ bitN p i = 1 := fun q => by rw [(bitQ_true _ _).2 q] at h; cases h
  omega
set_option maxHeartbeats 1000000 in
set_option maxRecDepth 100000 in
theorem verify_bad (want key va pr : ByteArray) (th : Bool) (hb : pr.size < 32 ∨ pr.size % 32 ≠ 0) (w : World) :
    Calls Try.prog 25 #[.agg (arr .u32 (K64 ++ H8.L)), .string want, .string key, .string va, .bool th, .string pr] w fun e w' => e = .returned (.bool false) ∧ Later w w' := by
  generalize arr .u32 (K64 ++ H8.L) = tb at *
  have hB1 : Below w.heap.size w (w.alloc (.cells tb 29)) := by go_grown
  by_cases h32 : pr.size < 32
  · clear hb
    go_enter Try.func25, Try.ntmps25
    go_wp2_with (fail)
    go_returns
    go_light
    exact ⟨rfl, hB1⟩
  · have h5 : ¬ pr.size % 32 = 0 := hb.resolve_left h32
    have h7 : ((pr.size : Int) % 32 == 0) = false := by rw [beq_eq_false_iff_ne]; omega
    have h8 : ((pr.size : Int) % 32 != 0) = true := by rw [bne_iff_ne]; omega
    clear hb
    go_enter Try.func25, Try.ntmps25
    go_wp2_with (fail)
    go_returns
    go_light
    exact ⟨rfl, hB1⟩
set_option maxHeartbeats 4000000 in
set_option maxRecDepth 100000 in
theorem verify_ok (want key va pr : ByteArray) (th : Bool) (hk : key.size < 256) (hv : va.size ≤ 1073741824) (hp : pr.size ≤ 1073741824) (y4 : 32 ≤ pr.size) (y5 : pr.size % 32 = 0) (w : World) :
    Calls Try.prog 25 #[.agg (arr .u32 (K64 ++ H8.L)), .string want, .string key, .string va, .bool th, .string pr] w fun e w' => e = .returned (.bool (vfy want key th va pr)) ∧ Later w w' := by
  have hT : vfy want key th va pr = match stC shaN key ⟨th, va, pr⟩ 256 with
    | some (T, n) => decide (n = 32) && decide (shaN T = want)
    | none => false := by unfold vfy; rw [if_neg (by omega)]
  have CE := fun w => sempties_calls w
  have CO := fun w => sown_calls key va hk hv w
  have CP := fun w => spath_calls key (by omega) w
  have CN := fun a b (ha : a.size = 32) (hb : b.size = 32) w => snode_calls a b (by omega) (by omega) w
  have hst := stC_succ shaN key ⟨th, va, pr⟩
  have hnone := fun k h => @stC_none shaN key ⟨th, va, pr⟩ k h
  have hs0 : stC shaN key ⟨th, va, pr⟩ 0 = some (An.low key ⟨th, va, pr⟩, pr.size) := rfl
  have hlo : shaN (An.low key ⟨th, va, pr⟩) = if th = true then ownN (key, va) else emp shaN 0 := by cases th <;> rfl
  have hPP : shaN (⟨#[75]⟩ ++ key) = pathN key := rfl
  have hPs : (pathN key).size = 32 := shaN_len _
  have hes := emp_len
  have hhs := shaN_len
  have hsz := tb_size
  generalize vfy want key th va pr = RES at *
  simp only [hPP] at hst
  generalize pathN key = Pt at *
  generalize ownN (key, va) = OW at *
  generalize An.low key ⟨th, va, pr⟩ = low at *
  generalize arr .u32 (K64 ++ H8.L) = tb at *
  clear hPP hv
  have hEs : (sarr (downL (emp shaN) 256)).size = 257 := by rw [sarr_size, downL_length _ (by decide)]
  have hi7 : (Try.prog.info? 41).map (·.size) = some (sarr (downL (emp shaN) 256)).size := by rw [hEs]; kernel_rfl
  have hone := sarr_one (downL (emp shaN) 256)
  have hi9 : (Try.prog.info? 41).map (·.size) = some (sarr e257).size := by rw [sarr_size, e257_length]; kernel_rfl
  have hi8 : (sarr (downL (emp shaN) 256)).size = (sarr e257).size := by rw [hEs, sarr_size, e257_length]
  have hz := zero257s
  have h1 := Whole.new w 29 tb
  have hB : Later w (w.alloc (.cells tb 29)) := (Later.refl w).alloc _
  have hlt := h1.lt
  have h6 : ((pr.size : Int) % 32 != 0) = false := by rw [bne_eq_false_iff_eq]; omega
  replace hT := Lib.hid hT
  replace CE := Lib.hid CE
  replace CO := Lib.hid CO
  replace CP := Lib.hid CP
  replace CN := Lib.hid CN
  replace hst := Lib.hid hst
  replace hnone := Lib.hid hnone
  replace hs0 := Lib.hid hs0
  replace hlo := Lib.hid hlo
  replace hes := Lib.hid hes
  replace hhs := Lib.hid hhs
  replace hPs := Lib.hid hPs
  replace hEs := Lib.hid hEs
  go_enter Try.func25, Try.ntmps25
  go_upto_region 3 with (fail)
  generalize hEE : sarr (downL (emp shaN) 256) = EE at *
  replace hEE := Lib.hid hEE
  generalize w.alloc (.cells tb 29) = W0 at *
  go_upto_region 4 with (first | ((with_reducible apply wl_loadW (ty := 29) h1 Try.underlying29); rfl; rfl; rfl; exact hsz) | ((with_reducible refine (CE.out _).mono ?_); rintro e wE ⟨rfl, hbE⟩; replace h1 := Later.whole hbE h1; replace hB := hB.trans hbE; have hgg : w.heap.size < wE.heap.size := h1.lt; have hE := Whole.new wE 41 (sarr e257); replace h1 := h1.alloc (.cells (sarr e257) 41); replace hB : Later w (wE.alloc (.cells (sarr e257) 41)) := hB.alloc _) | ((with_reducible apply wl_storeW (ty := 41) hE); rfl; rfl; rfl; exact hi9; exact hi8; exact hone; intro w7 hE7 hg7 hz7; replace h1 := Whole.only h1 hg7 (fun q => by have := Option.some.inj q; omega); replace hB : Later w w7 := below_only' hB hg7 (by omega)))
  generalize wE.heap.size = gE at *
  have hE := hE7
  clear hE7 hi7 hi8 hi9 hz hg7 hbE CE hz7 hone
  rw [← hEE.out] at hE
  have hE256 := sarr_cell hE (i := 256) (by rw [downL_length _ (by decide)]; decide)
  rw [downL_getD _ (by decide) (by decide) (by decide), show 256 - 256 = 0 from rfl] at hE256
  generalize hbt : pr.extract 0 32 = BT at *
  refine wp_region_grow 6 88 (by kernel_rfl) (by kernel_rfl) rfl (fun w8 hl8 => ?_)
  simp only [List.take_succ_cons, List.take_zero, List.drop_succ_cons, List.drop_zero]
  generalize ha : Act.mk _ _ = a0
  have k5 : a0.eval (.tmp 5) = .string pr := by subst ha; rfl
  have ks : a0.tmps.size = 88 := by subst ha; rfl
  have ha0 := ha.symm
  clear ha
  refine wpG_move (fun a w hk => (hk 5 rfl : a.eval (.tmp 5) = a0.eval (.tmp 5)).trans k5) ?_
  apply wpG_value'
  · rfl
  · (intro a wx hlx hk K hK; have e31 : a.eval (.tmp 31) = _ := hk 31 rfl; simp only [execOp, resolve, List.map_toArray, List.map_cons, List.map_nil, Option.map_some, Option.map_none, e31]; clear e31 hk; go_simp; exact hK)
  refine wpG_move (fun a w hk => (hk 5 rfl : a.eval (.tmp 5) = a0.eval (.tmp 5)).trans k5) ?_
  apply wpG_value'
  · rfl
  · (intro a wx hlx hk K hK; have e33 : a.eval (.tmp 33) = _ := hk 33 rfl; simp only [execOp, resolve, List.map_toArray, List.map_cons, List.map_nil, Option.map_some, Option.map_none, e33]; clear e33 hk; go_simp; exact hK)
  refine wpG_assign (fun a w hk => hk 32 rfl) ?_
  refine wpG_assign (fun a w hk => hk 34 rfl) ?_
  refine wpG_nil (fun w8' hl8' => ?_)
  refine fin_is ?_
  refine fin_is ?_
  refine fin_is ?_
  refine fin_is ?_
  refine fin_is ?_
  refine fin_is ?_
  refine fin_nil ?_
  subst ha0
  clear k5 ks
  simp only [Act.put, List.setIfInBounds_toArray, List.set_cons_succ, List.set_cons_zero]
  have hlq := hl8.trans hl8'
  replace h1 := Later.whole hlq h1
  replace hE := Later.whole hlq hE
  replace hE256 := Later.cell hlq hE256
  replace hB := hB.trans hlq
  generalize w8' = W1 at *
  clear hlq hl8 hl8'
  go_upto_if 37 with (fail)
  go_cut [16] (fun xx wc2 => xx = .string (shaN low) ∧ Later W1 wc2)
  case first =>
    have hlo' := hlo.out
    have hL := Later.refl W1
    rcases th with _ | _
    · rw [if_neg (by decide)] at hlo'
      replace hlo' := Lib.hid hlo'
      go_wp2_with (fail)
      go_meet
      exact ⟨by rw [hlo'.out], hL⟩
    · rw [if_pos rfl] at hlo'
      replace hlo' := Lib.hid hlo'
      go_wp2_with (first | ((with_reducible apply wl_loadW (ty := 29) h1 Try.underlying29); rfl; rfl; rfl; exact hsz) | ((with_reducible refine (CO.out _).mono ?_); rintro e wL ⟨rfl, hlL⟩; replace hL := hL.trans hlL))
      go_meet
      exact ⟨by rw [hlo'.out], hL⟩
  case rest =>
    obtain ⟨rfl, hL⟩ := hcut
    clear hE256 hlo CO
    replace hE := Later.whole hL hE
    replace h1 := Later.whole hL h1
    replace hB := hB.trans hL
    clear hL
    have hBT : ∀ d, d < 256 → bitN BT d = bitN pr d := fun d hd => by rw [← hbt]; exact bitN_head pr d hd
    have hBs : BT.size = 32 := by rw [← hbt, ByteArray.size_extract]; omega
    have hxx := fun n i j h h' => ext_ext pr n i j h h'
    have hxn := fun n h h' => ext_none pr n h h'
    replace hxx := Lib.hid hxx
    replace hxn := Lib.hid hxn
    replace hBT := Lib.hid hBT
    clear hbt
    go_wp2_with (first | ((with_reducible apply wl_loadW (ty := 29) h1 Try.underlying29); rfl; rfl; rfl; exact hsz) | ((with_reducible refine (CP.out _).mono ?_); rintro e wP ⟨rfl, hlP⟩; replace hE := Later.whole hlP hE; replace h1 := Later.whole hlP h1; replace hB := hB.trans hlP))
    go_loopg [15, 16, 18] 257 (fun kg rr x i wr => ∃ (m k n : Nat) (T : ByteArray), m + k = 256 ∧ kg = m + 1 ∧ i = .int .i64 ((m : Int) - 1) ∧ stC shaN key ⟨th, va, pr⟩ k = some (T, n) ∧ 32 ≤ n ∧ n ≤ pr.size ∧ n % 32 = 0 ∧ rr = .string (pr.extract 32 n) ∧ x = .string (shaN T) ∧ Whole wr gE 41 (sarr (downL (emp shaN) 256)) ∧ Whole wr w.heap.size 29 tb ∧ Later w wr)
    case atStart => exact ⟨256, 0, pr.size, low, rfl, rfl, rfl, hs0.out, y4, Nat.le_refl _, y5, rfl, rfl, hE, h1, hB⟩
    case round =>
      clear hE h1 hB
      obtain ⟨m, k', n, T, hmk, hkg, rfl, hTm, hn1, hn2, hn3, rfl, rfl, hE, h1, hB⟩ := hrel
      replace hkg := Lib.hid hkg
      replace hTm := Lib.hid hTm
      have hrs := hxn.out n hn2 hn1
      cases m with
      | zero =>
        obtain rfl : k' = 256 := by omega
        have hT' := hT.out
        rw [hTm.out] at hT'
        simp only at hT'
        generalize hRR : pr.extract 32 n = RR at *
        by_cases hn : n = 32
        · rw [decide_eq_true hn, Bool.true_and] at hT'
          replace hT' := Lib.hid hT'
          obtain rfl : RR = ByteArray.empty := ByteArray.ext (Array.eq_empty_of_size_eq_zero (by show RR.size = 0; omega))
          generalize shaN T = HT at *
          go_wp2_with (fail)
          go_returns
          go_light
          exact ⟨ret_bool (by rw [hT'.out]; first | rfl | exact beqL _ _), hB⟩
        · rw [decide_eq_false hn, Bool.false_and] at hT'
          replace hT' := Lib.hid hT'
          have r1 : (RR.toList == ([] : List UInt8)) = false := by
            rw [beq_eq_false_iff_ne]
            intro q
            have := (nilL RR).1 q
            rw [this] at hrs
            have : n - 32 = 0 := hrs.symm
            omega
          go_wp2_with (fail)
          go_returns
          go_light
          exact ⟨ret_bool (by rw [hT'.out]), hB⟩
      | succ m =>
        obtain rfl : k' = 255 - m := by omega
        have hm : m < 256 := by omega
        have ce := sarr_cell hE (i := m + 1) (by rw [downL_length _ (by omega)]; omega)
        rw [downL_getD _ (by omega) (by omega) (by omega), show 256 - (m + 1) = 255 - m by omega] at ce
        have hnx := hst.out (255 - m) T n hTm.out
        try simp only at hnx
        rw [show 255 - (255 - m) = m by omega] at hnx
        have hEs := hes.out (255 - m)
        have hHs := hhs.out T
        have C1 := fun w => sbit_calls BT m (by omega) (by omega) w
        have C2 := fun w => sbit_calls Pt m (by rw [hPs.out]; omega) (by rw [hPs.out]; decide) w
        rw [hBT.out m hm] at C1
        generalize emp shaN (255 - m) = E at *
        rw [show (((m + 1 : Nat) : Int) - 1) = (m : Int) by omega]
        clear hmk
        have x1 : IntKind.i64.wrap ((m : Int) + 1) = m + 1 := by simp [IntKind.wrap, IntKind.signed, IntKind.bits]; omega
        have x2 : (0 : Int) ≤ (m : Int) + 1 := by omega
        have x3 : (m : Int) + 1 < 257 := by omega
        have x4 : ((m : Int) + 1).toNat = m + 1 := by omega
        have x5 : (0 : Int) ≤ (m : Int) := by omega
        cases hb1 : bitQ pr m
        · rw [hb1] at hnx
          rw [if_neg (by decide)] at hnx
          rw [bitQ_no hb1] at C1
          replace C1 := Lib.hid C1
          go_upto_region 18 with (((with_reducible refine (C1.out _).mono ?_); rintro e wB ⟨rfl, rfl⟩))
          cases hb2 : bitQ Pt m
          · rw [if_neg (by rw [hb2]; decide)] at hnx
            have hbn : bitN Pt m = 0 := bitQ_no hb2
            rw [hbn] at C2
            have Ch := fun w => CN.out (shaN T) (E) hHs hEs w
            replace Ch := Lib.hid Ch
            replace C2 := Lib.hid C2
            replace hnx : Hid (stC shaN key ⟨th, va, pr⟩ (255 - m + 1) = some (NT (shaN T) (E), n)) := Lib.hid hnx
            go_wp2_with (first | ((with_reducible apply wl_loadW (ty := 29) h1 Try.underlying29); rfl; rfl; rfl; exact hsz) | ((with_reducible refine (C2.out _).mono ?_); rintro e wB ⟨rfl, rfl⟩) | ((with_reducible refine (Ch.out _).mono ?_); rintro e wH ⟨rfl, hlH⟩; replace hE := Later.whole hlH hE; replace h1 := Later.whole hlH h1; replace hB := hB.trans hlH))
            go_roundg (m + 1)
            case measure => go_light; rw [hkg.out]; omega
            case rel => go_light; exact ⟨m, 255 - m + 1, n, _, by omega, rfl, rfl, hnx.out, by omega, by omega, by omega, rfl, rfl, hE, h1, hB⟩
          · rw [if_pos hb2] at hnx
            have hbn : bitN Pt m = 1 := (bitQ_true _ _).1 hb2
            rw [hbn] at C2
            have Ch := fun w => CN.out (E) (shaN T) hEs hHs w
            replace Ch := Lib.hid Ch
            replace C2 := Lib.hid C2
            replace hnx : Hid (stC shaN key ⟨th, va, pr⟩ (255 - m + 1) = some (NT (E) (shaN T), n)) := Lib.hid hnx
            go_wp2_with (first | ((with_reducible apply wl_loadW (ty := 29) h1 Try.underlying29); rfl; rfl; rfl; exact hsz) | ((with_reducible refine (C2.out _).mono ?_); rintro e wB ⟨rfl, rfl⟩) | ((with_reducible refine (Ch.out _).mono ?_); rintro e wH ⟨rfl, hlH⟩; replace hE := Later.whole hlH hE; replace h1 := Later.whole hlH h1; replace hB := hB.trans hlH))
            go_roundg (m + 1)
            case measure => go_light; rw [hkg.out]; omega
            case rel => go_light; exact ⟨m, 255 - m + 1, n, _, by omega, rfl, rfl, hnx.out, by omega, by omega, by omega, rfl, rfl, hE, h1, hB⟩
        · rw [hb1] at hnx
          rw [if_pos rfl] at hnx
          rw [(bitQ_true _ _).1 hb1] at C1
          replace C1 := Lib.hid C1
          by_cases hn : n = 32
          · rw [if_pos hn] at hnx
            have hno : RES = false := by
              rw [hT.out, hnone.out _ hnx 256 (by omega)]
            generalize hRR : pr.extract 32 n = RR at *
            obtain rfl : RR = ByteArray.empty := ByteArray.ext (Array.eq_empty_of_size_eq_zero (by show RR.size = 0; omega))
            replace hno := Lib.hid hno
            clear hn
            go_wp2_with (((with_reducible refine (C1.out _).mono ?_); rintro e wB ⟨rfl, rfl⟩))
            go_returns
            go_light
            exact ⟨by rw [hno.out]; rfl, hB⟩
          · rw [if_neg hn] at hnx
            obtain ⟨q, hq⟩ : ∃ q, n = q + 64 := ⟨n - 64, by omega⟩
            subst hq
            rw [show q + 64 - 32 = q + 32 by omega] at hnx hrs
            have hOs : (pr.extract (q + 32) (q + 64)).size = 32 := by rw [ByteArray.size_extract]; omega
            have e1 := hxx.out (q + 64) q (q + 32) hn2 (by omega)
            have e2 := hxx.out (q + 64) 0 q hn2 (by omega)
            rw [show 32 + q = q + 32 by omega, show 32 + (q + 32) = q + 64 by omega] at e1
            rw [show 32 + q = q + 32 by omega, show 32 + 0 = 32 from rfl] at e2
            generalize hRR : pr.extract 32 (q + 64) = RR at *
            have r1 : (RR.toList == ([] : List UInt8)) = false := by
              rw [beq_eq_false_iff_ne]
              intro z
              have := (nilL RR).1 z
              rw [this] at hrs
              have : q + 32 = 0 := hrs.symm
              omega
            have g1 : ((q + 32 : Nat) : Int) - 32 = (q : Int) := by omega
            replace hRR := Lib.hid hRR
            go_upto_region 18 with (((with_reducible refine (C1.out _).mono ?_); rintro e wB ⟨rfl, rfl⟩))
            generalize pr.extract (q + 32) (q + 64) = O at *
            cases hb2 : bitQ Pt m
            · rw [if_neg (by rw [hb2]; decide)] at hnx
              have hbn : bitN Pt m = 0 := bitQ_no hb2
              rw [hbn] at C2
              have Ch := fun w => CN.out (shaN T) (O) hHs hOs w
              replace Ch := Lib.hid Ch
              replace C2 := Lib.hid C2
              replace hnx : Hid (stC shaN key ⟨th, va, pr⟩ (255 - m + 1) = some (NT (shaN T) (O), (q + 32))) := Lib.hid hnx
              go_wp2_with (first | ((with_reducible apply wl_loadW (ty := 29) h1 Try.underlying29); rfl; rfl; rfl; exact hsz) | ((with_reducible refine (C2.out _).mono ?_); rintro e wB ⟨rfl, rfl⟩) | ((with_reducible refine (Ch.out _).mono ?_); rintro e wH ⟨rfl, hlH⟩; replace hE := Later.whole hlH hE; replace h1 := Later.whole hlH h1; replace hB := hB.trans hlH))
              go_roundg (m + 1)
              case measure => go_light; rw [hkg.out]; omega
              case rel => go_light; exact ⟨m, 255 - m + 1, (q + 32), _, by omega, rfl, rfl, hnx.out, by omega, by omega, by omega, by simp, rfl, hE, h1, hB⟩
            · rw [if_pos hb2] at hnx
              have hbn : bitN Pt m = 1 := (bitQ_true _ _).1 hb2
              rw [hbn] at C2
              have Ch := fun w => CN.out (O) (shaN T) hOs hHs w
              replace Ch := Lib.hid Ch
              replace C2 := Lib.hid C2
              replace hnx : Hid (stC shaN key ⟨th, va, pr⟩ (255 - m + 1) = some (NT (O) (shaN T), (q + 32))) := Lib.hid hnx
              go_wp2_with (first | ((with_reducible apply wl_loadW (ty := 29) h1 Try.underlying29); rfl; rfl; rfl; exact hsz) | ((with_reducible refine (C2.out _).mono ?_); rintro e wB ⟨rfl, rfl⟩) | ((with_reducible refine (Ch.out _).mono ?_); rintro e wH ⟨rfl, hlH⟩; replace hE := Later.whole hlH hE; replace h1 := Later.whole hlH h1; replace hB := hB.trans hlH))
              go_roundg (m + 1)
              case measure => go_light; rw [hkg.out]; omega
              case rel => go_light; exact ⟨m, 255 - m + 1, (q + 32), _, by omega, rfl, rfl, hnx.out, by omega, by omega, by omega, by simp, rfl, hE, h1, hB⟩
end Go.Proofs.Ytknjbkbbhgjnlaa
