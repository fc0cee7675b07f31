/- The reference of layer 5: Holds. Conditions: keys of less than 256 bytes, values and proofs of at most 2^30. -/
import Derived.Test.YtknjbkbbhgjnlaaSmt9
import Derived.WalkSpells
namespace Go.Proofs.Ytknjbkbbhgjnlaa
open Go.RowKit
set_option linter.unusedVariables false
set_option linter.unusedSimpArgs false
set_option maxHeartbeats 1000000 in
set_option maxRecDepth 100000 in
theorem holds_bad (want key va pr : ByteArray) (th : Bool) (hb : pr.size < 32 ∨ pr.size % 32 ≠ 0) (w : World) :
    Calls Try.prog 26 #[.agg (sarr (downL (emp shaN) 256)), .string want, .agg #[.string key, .string va], .bool th, .string pr] w fun e w' => e = .returned (.bool false) ∧ Later w w' := by
  generalize sarr (downL (emp shaN) 256) = EE at *
  have hB1 : Below w.heap.size w ((w.alloc (.cells EE 41)).alloc (.cells #[.string key, .string va] 33)) := by go_grown
  by_cases h32 : pr.size < 32
  · clear hb
    go_enter Try.func26, Try.ntmps26
    go_wp2_with (fail)
    go_returns
    go_light
    exact ⟨rfl, hB1⟩
  · have h5 : ¬ pr.size % 32 = 0 := hb.resolve_left h32
    have h7 : ((pr.size : Int) % 32 == 0) = false := by rw [beq_eq_false_iff_ne]; omega
    have h8 : ((pr.size : Int) % 32 != 0) = true := by rw [bne_iff_ne]; omega
    clear hb
    go_enter Try.func26, Try.ntmps26
    go_wp2_with (fail)
    go_returns
    go_light
    exact ⟨rfl, hB1⟩
set_option maxHeartbeats 4000000 in
set_option maxRecDepth 100000 in
theorem holds_ok (want key va pr : ByteArray) (th : Bool) (hk : key.size < 256) (hv : va.size ≤ 1073741824) (hp : pr.size ≤ 1073741824) (y4 : 32 ≤ pr.size) (y5 : pr.size % 32 = 0) (w : World) :
    Calls Try.prog 26 #[.agg (sarr (downL (emp shaN) 256)), .string want, .agg #[.string key, .string va], .bool th, .string pr] w fun e w' => e = .returned (.bool (vfy want key th va pr)) ∧ Later w w' := by
  have hT : vfy want key th va pr = match stC shaN key ⟨th, va, pr⟩ 256 with
    | some (T, n) => decide (n = 32) && decide (shaN T = want)
    | none => false := by unfold vfy; rw [if_neg (by omega)]; rfl
  have CO := fun w => own05_calls key va hk hv w
  have CP := fun w => h05_calls (⟨#[75]⟩ ++ key) (by rw [ByteArray.size_append]; show 1 + key.size ≤ _; omega) w
  have hh := fun s h w => h05_calls s h w
  have hst := stC_succ shaN key ⟨th, va, pr⟩
  have hnone := fun k h => @stC_none shaN key ⟨th, va, pr⟩ k h
  have hs0 : stC shaN key ⟨th, va, pr⟩ 0 = some (An.low key ⟨th, va, pr⟩, pr.size) := rfl
  have hlo : shaN (An.low key ⟨th, va, pr⟩) = if th = true then ownN (key, va) else emp shaN 0 := by cases th <;> rfl
  have hPP : shaN (⟨#[75]⟩ ++ key) = pathN key := rfl
  have hPs : (pathN key).size = 32 := shaN_len _
  have hes := emp_len
  have hhs := shaN_len
  rw [hPP] at CP
  generalize vfy want key th va pr = RES at *
  simp only [hPP] at hst
  generalize pathN key = Pt at *
  generalize ownN (key, va) = OW at *
  generalize An.low key ⟨th, va, pr⟩ = low at *
  clear hPP hv
  have hE := (Whole.new w 41 (sarr (downL (emp shaN) 256))).alloc (.cells #[.string key, .string va] 33)
  have hQ := Whole.new (w.alloc (.cells (sarr (downL (emp shaN) 256)) 41)) 33 #[.string key, .string va]
  rw [show (w.alloc (.cells (sarr (downL (emp shaN) 256)) 41)).heap.size = w.heap.size + 1 by simp] at hQ
  have hB : Later w ((w.alloc (.cells (sarr (downL (emp shaN) 256)) 41)).alloc (.cells #[.string key, .string va] 33)) := ((Later.refl w).alloc _).alloc _
  have h6 : ((pr.size : Int) % 32 != 0) = false := by rw [bne_eq_false_iff_eq]; omega
  replace hT := Lib.hid hT
  replace CO := Lib.hid CO
  replace CP := Lib.hid CP
  replace hh := Lib.hid hh
  replace hst := Lib.hid hst
  replace hnone := Lib.hid hnone
  replace hs0 := Lib.hid hs0
  replace hlo := Lib.hid hlo
  replace hes := Lib.hid hes
  replace hhs := Lib.hid hhs
  replace hPs := Lib.hid hPs
  go_enter Try.func26, Try.ntmps26
  go_upto_region 1 with (fail)
  generalize (w.alloc (.cells (sarr (downL (emp shaN) 256)) 41)).alloc (.cells #[.string key, .string va] 33) = W1 at *
  have hE256 := sarr_cell hE (i := 256) (by rw [downL_length _ (by decide)]; decide)
  rw [downL_getD _ (by decide) (by decide) (by decide), show 256 - 256 = 0 from rfl] at hE256
  have hq0 := hQ.cell 0
  go_upto_if 27 with (fail)
  go_cut [11] (fun xx wc2 => xx = .string (shaN low) ∧ Later W1 wc2)
  case first =>
    have hlo' := hlo.out
    have hL := Later.refl W1
    rcases th with _ | _
    · rw [if_neg (by decide)] at hlo'
      replace hlo' := Lib.hid hlo'
      go_wp2_with (fail)
      go_meet
      exact ⟨by rw [hlo'.out], hL⟩
    · rw [if_pos rfl] at hlo'
      replace hlo' := Lib.hid hlo'
      go_wp2_with (first | (first | ((with_reducible apply wl_loadW (ty := 33) hQ Try.underlying33); rfl; rfl; rfl; kernel_rfl) | ((with_reducible apply wl_loadW (ty := 33) (hQ.alloc _) Try.underlying33); rfl; rfl; rfl; kernel_rfl) | ((with_reducible apply wl_loadW (ty := 33) ((hQ.alloc _).alloc _) Try.underlying33); rfl; rfl; rfl; kernel_rfl)) | ((with_reducible refine (CO.out _).mono ?_); rintro e wL ⟨rfl, hlL⟩; replace hL := hL.trans hlL))
      go_meet
      exact ⟨by rw [hlo'.out], hL⟩
  case rest =>
    obtain ⟨rfl, hL⟩ := hcut
    clear hE256 hlo CO
    replace hE := Later.whole hL hE
    replace hB := hB.trans hL
    replace hq0 := Later.cell hL hq0
    clear hL hQ
    go_wp2_with (((with_reducible refine (CP.out _).mono ?_); rintro e wP ⟨rfl, hlP⟩; replace hE := Later.whole hlP hE; replace hB := hB.trans hlP))
    clear hq0
    go_loopg [11, 13, 14] 257 (fun kg x rr i wr => ∃ (m k n : Nat) (T : ByteArray), m + k = 256 ∧ kg = m + 1 ∧ i = .int .i64 ((m : Int) - 1) ∧ stC shaN key ⟨th, va, pr⟩ k = some (T, n) ∧ 32 ≤ n ∧ n ≤ pr.size ∧ n % 32 = 0 ∧ rr = .int .i64 n ∧ x = .string (shaN T) ∧ Whole wr w.heap.size 41 (sarr (downL (emp shaN) 256)) ∧ Later w wr)
    case atStart => exact ⟨256, 0, pr.size, low, rfl, rfl, rfl, hs0.out, y4, Nat.le_refl _, y5, rfl, rfl, hE, hB⟩
    case round =>
      clear hE hB
      obtain ⟨m, k', n, T, hmk, hkg, rfl, hTm, hn1, hn2, hn3, rfl, rfl, hE, hB⟩ := hrel
      replace hkg := Lib.hid hkg
      replace hTm := Lib.hid hTm
      cases m with
      | zero =>
        obtain rfl : k' = 256 := by omega
        have hT' := hT.out
        rw [hTm.out] at hT'
        simp only at hT'
        by_cases hn : n = 32
        · rw [decide_eq_true hn, Bool.true_and] at hT'
          replace hT' := Lib.hid hT'
          have r1 : ((n : Int) == 32) = true := by rw [beq_iff_eq]; omega
          generalize shaN T = HT at *
          clear hn
          go_wp2_with (fail)
          go_returns
          go_light
          exact ⟨ret_bool (by rw [hT'.out]; first | rfl | exact beqL _ _), hB⟩
        · rw [decide_eq_false hn, Bool.false_and] at hT'
          replace hT' := Lib.hid hT'
          have r1 : ((n : Int) == 32) = false := by rw [beq_eq_false_iff_ne]; omega
          go_wp2_with (fail)
          go_returns
          go_light
          exact ⟨ret_bool (by rw [hT'.out]), hB⟩
      | succ m =>
        obtain rfl : k' = 255 - m := by omega
        have hm : m < 256 := by omega
        have ce := sarr_cell hE (i := m + 1) (by rw [downL_length _ (by omega)]; omega)
        rw [downL_getD _ (by omega) (by omega) (by omega), show 256 - (m + 1) = 255 - m by omega] at ce
        have hnx := hst.out (255 - m) T n hTm.out
        try simp only at hnx
        rw [show 255 - (255 - m) = m by omega] at hnx
        have hEs := hes.out (255 - m)
        have hHs := hhs.out T
        have C1 := fun w => bit05_calls pr m (by omega) (by omega) w
        have C2 := fun w => bit05_calls Pt m (by rw [hPs.out]; omega) (by rw [hPs.out]; decide) w
        generalize emp shaN (255 - m) = E at *
        rw [show (((m + 1 : Nat) : Int) - 1) = (m : Int) by omega]
        clear hmk
        have x1 : IntKind.i64.wrap ((m : Int) + 1) = m + 1 := by simp [IntKind.wrap, IntKind.signed, IntKind.bits]; omega
        have x2 : (0 : Int) ≤ (m : Int) + 1 := by omega
        have x3 : (m : Int) + 1 < 257 := by omega
        have x4 : ((m : Int) + 1).toNat = m + 1 := by omega
        have x5 : (0 : Int) ≤ (m : Int) := by omega
        cases hb1 : bitQ pr m
        · rw [hb1] at hnx
          rw [if_neg (by decide)] at hnx
          rw [bitQ_no hb1] at C1
          replace C1 := Lib.hid C1
          go_upto_region 17 with (((with_reducible refine (C1.out _).mono ?_); rintro e wB ⟨rfl, rfl⟩))
          cases hb2 : bitQ Pt m
          · rw [if_neg (by rw [hb2]; decide)] at hnx
            have hbn : bitN Pt m = 0 := bitQ_no hb2
            rw [hbn] at C2
            have Ch := fun w => hh.out ((⟨#[78]⟩ ++ (shaN T)) ++ (E)) (by rw [ByteArray.size_append, ByteArray.size_append, hHs, hEs]; decide) w
            replace Ch := Lib.hid Ch
            replace C2 := Lib.hid C2
            replace hnx : Hid (stC shaN key ⟨th, va, pr⟩ (255 - m + 1) = some ((⟨#[78]⟩ ++ (shaN T)) ++ (E), n)) := Lib.hid hnx
            go_wp2_with (first | ((with_reducible refine (C2.out _).mono ?_); rintro e wB ⟨rfl, rfl⟩) | ((with_reducible refine (Ch.out _).mono ?_); rintro e wH ⟨rfl, hlH⟩; replace hE := Later.whole hlH hE; replace hB := hB.trans hlH))
            go_roundg (m + 1)
            case measure => go_light; rw [hkg.out]; omega
            case rel => go_light; exact ⟨m, 255 - m + 1, n, _, by omega, rfl, rfl, hnx.out, by omega, by omega, by omega, rfl, rfl, hE, hB⟩
          · rw [if_pos hb2] at hnx
            have hbn : bitN Pt m = 1 := (bitQ_true _ _).1 hb2
            rw [hbn] at C2
            have Ch := fun w => hh.out ((⟨#[78]⟩ ++ (E)) ++ (shaN T)) (by rw [ByteArray.size_append, ByteArray.size_append, hEs, hHs]; decide) w
            replace Ch := Lib.hid Ch
            replace C2 := Lib.hid C2
            replace hnx : Hid (stC shaN key ⟨th, va, pr⟩ (255 - m + 1) = some ((⟨#[78]⟩ ++ (E)) ++ (shaN T), n)) := Lib.hid hnx
            go_wp2_with (first | ((with_reducible refine (C2.out _).mono ?_); rintro e wB ⟨rfl, rfl⟩) | ((with_reducible refine (Ch.out _).mono ?_); rintro e wH ⟨rfl, hlH⟩; replace hE := Later.whole hlH hE; replace hB := hB.trans hlH))
            go_roundg (m + 1)
            case measure => go_light; rw [hkg.out]; omega
            case rel => go_light; exact ⟨m, 255 - m + 1, n, _, by omega, rfl, rfl, hnx.out, by omega, by omega, by omega, rfl, rfl, hE, hB⟩
        · rw [hb1] at hnx
          rw [if_pos rfl] at hnx
          rw [(bitQ_true _ _).1 hb1] at C1
          replace C1 := Lib.hid C1
          by_cases hn : n = 32
          · rw [if_pos hn] at hnx
            have hno : RES = false := by
              rw [hT.out, hnone.out _ hnx 256 (by omega)]
            have r1 : ((n : Int) == 32) = true := by rw [beq_iff_eq]; omega
            replace hno := Lib.hid hno
            clear hn
            go_wp2_with (((with_reducible refine (C1.out _).mono ?_); rintro e wB ⟨rfl, rfl⟩))
            go_returns
            go_light
            exact ⟨by rw [hno.out]; rfl, hB⟩
          · rw [if_neg hn] at hnx
            have r1 : ((n : Int) == 32) = false := by rw [beq_eq_false_iff_ne]; omega
            obtain ⟨q, hq⟩ : ∃ q, n = q + 64 := ⟨n - 64, by omega⟩
            subst hq
            rw [show q + 64 - 32 = q + 32 by omega] at hnx
            have hOs : (pr.extract (q + 32) (q + 64)).size = 32 := by rw [ByteArray.size_extract]; omega
            have g1 : (0 : Int) ≤ (q : Int) + 64 - 32 := by omega
            have g2 : (q : Int) + 64 - 32 ≤ (q : Int) + 64 := by omega
            have g3 : (q : Int) + 64 ≤ (pr.size : Int) := by omega
            have g4 : (0 : Int) ≤ (q : Int) + 64 := by omega
            go_upto_region 17 with (((with_reducible refine (C1.out _).mono ?_); rintro e wB ⟨rfl, rfl⟩))
            rw [show q + 64 - 32 = q + 32 by omega, show ((q : Int) + 64 - 32) = ((q + 32 : Nat) : Int) by omega]
            generalize pr.extract (q + 32) (q + 64) = O at *
            cases hb2 : bitQ Pt m
            · rw [if_neg (by rw [hb2]; decide)] at hnx
              have hbn : bitN Pt m = 0 := bitQ_no hb2
              rw [hbn] at C2
              have Ch := fun w => hh.out ((⟨#[78]⟩ ++ (shaN T)) ++ (O)) (by rw [ByteArray.size_append, ByteArray.size_append, hHs, hOs]; decide) w
              replace Ch := Lib.hid Ch
              replace C2 := Lib.hid C2
              replace hnx : Hid (stC shaN key ⟨th, va, pr⟩ (255 - m + 1) = some ((⟨#[78]⟩ ++ (shaN T)) ++ (O), (q + 32))) := Lib.hid hnx
              go_wp2_with (first | ((with_reducible refine (C2.out _).mono ?_); rintro e wB ⟨rfl, rfl⟩) | ((with_reducible refine (Ch.out _).mono ?_); rintro e wH ⟨rfl, hlH⟩; replace hE := Later.whole hlH hE; replace hB := hB.trans hlH))
              go_roundg (m + 1)
              case measure => go_light; rw [hkg.out]; omega
              case rel => go_light; exact ⟨m, 255 - m + 1, (q + 32), _, by omega, rfl, rfl, hnx.out, by omega, by omega, by omega, by simp, rfl, hE, hB⟩
            · rw [if_pos hb2] at hnx
              have hbn : bitN Pt m = 1 := (bitQ_true _ _).1 hb2
              rw [hbn] at C2
              have Ch := fun w => hh.out ((⟨#[78]⟩ ++ (O)) ++ (shaN T)) (by rw [ByteArray.size_append, ByteArray.size_append, hOs, hHs]; decide) w
              replace Ch := Lib.hid Ch
              replace C2 := Lib.hid C2
              replace hnx : Hid (stC shaN key ⟨th, va, pr⟩ (255 - m + 1) = some ((⟨#[78]⟩ ++ (O)) ++ (shaN T), (q + 32))) := Lib.hid hnx
              go_wp2_with (first | ((with_reducible refine (C2.out _).mono ?_); rintro e wB ⟨rfl, rfl⟩) | ((with_reducible refine (Ch.out _).mono ?_); rintro e wH ⟨rfl, hlH⟩; replace hE := Later.whole hlH hE; replace hB := hB.trans hlH))
              go_roundg (m + 1)
              case measure => go_light; rw [hkg.out]; omega
              case rel => go_light; exact ⟨m, 255 - m + 1, (q + 32), _, by omega, rfl, rfl, hnx.out, by omega, by omega, by omega, by simp, rfl, hE, hB⟩
theorem holds_calls (want key va pr : ByteArray) (th : Bool) (hk : key.size < 256) (hv : va.size ≤ 1073741824) (hp : pr.size ≤ 1073741824) (w : World) :
    Calls Try.prog 26 #[.agg (sarr (downL (emp shaN) 256)), .string want, .agg #[.string key, .string va], .bool th, .string pr] w fun e w' => e = .returned (.bool (vfy want key th va pr)) ∧ Later w w' := by
  by_cases h : pr.size < 32 ∨ pr.size % 32 ≠ 0
  · rw [show vfy want key th va pr = false by unfold vfy; rw [if_pos h]]
    exact holds_bad want key va pr th h w
  · exact holds_ok want key va pr th hk hv hp (by omega) (by omega) w
theorem verify_calls (want key va pr : ByteArray) (th : Bool) (hk : key.size < 256) (hv : va.size ≤ 1073741824) (hp : pr.size ≤ 1073741824) (w : World) :
    Calls Try.prog 25 #[.agg (arr .u32 (K64 ++ H8.L)), .string want, .string key, .string va, .bool th, .string pr] w fun e w' => e = .returned (.bool (vfy want key th va pr)) ∧ Later w w' := by
  by_cases h : pr.size < 32 ∨ pr.size % 32 ≠ 0
  · rw [show vfy want key th va pr = false by unfold vfy; rw [if_pos h]]
    exact verify_bad want key va pr th h w
  · exact verify_ok want key va pr th hk hv hp (by omega) (by omega) w
end Go.Proofs.Ytknjbkbbhgjnlaa
