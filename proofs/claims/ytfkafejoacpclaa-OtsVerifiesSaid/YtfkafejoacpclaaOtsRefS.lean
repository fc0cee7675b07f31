/- Signatures: the reference's. Conditions: seeds of at most 2^20 bytes, messages of at most 2^30. -/
import Derived.Test.YtfkafejoacpclaaOtsRef
namespace Go.Proofs.Ytfkafejoacpclaa
open Go.RowKit
set_option linter.unusedVariables false
set_option linter.unusedSimpArgs false
set_option maxHeartbeats 8000000 in
set_option maxRecDepth 100000 in
theorem refSign_calls (seed : ByteArray) (hs : seed.size ≤ 1048576) (q : Nat) (hq : q < 8) (msg : ByteArray) (hm : msg.size ≤ 1073741824) (w : World) :
    Calls Try.prog 39 #[.string seed, .int .i64 q, .string msg] w fun e w' => e = .returned (.string (sigN seed q msg)) ∧ Below w.heap.size w w' := by
  have NQ := fun w => rnum_calls (q : Int) w
  have DC := fun w => refDigits_calls q (by omega) msg hm w
  have VC := fun (i d : Nat) (hd : d ≤ 15) (w : World) => refValue_calls seed hs q i d (by omega) w
  have ND := fun (h k : Nat) (w : World) (hh : h ≤ 3) (hk : (k + 1) * 2 ^ h ≤ 1000) => refNode_calls seed hs h k w hh hk
  have hnz := nodeN_size seed
  rw [sigN_cat]
  have hdl : (dgsN q msg).length = 67 := dgsL_length _
  have hd15 : ∀ x ∈ dgsN q msg, x ≤ 15 := dgsL_le (bytesN_lt _)
  have hsV0 := sigV_zero seed q (dgsN q msg)
  have hsV := sigV_succ seed q (dgsN q msg)
  have hsz0 := sigV_size seed q (dgsN q msg)
  have hwz := fun i => wkN_32 seed q i 0
  have hget : ∀ k, k < 67 → (dgsN q msg).getD k 0 ≤ 15 := fun k hk => by
    rw [List.getD_eq_getElem?_getD, List.getElem?_eq_getElem (show k < (dgsN q msg).length by omega)]
    exact hd15 _ (List.getElem_mem _)
  have hz54 : (arr .i64 (dgsN q msg)).size = Try.zeroCells54.size := by rw [arr_size, hdl]; kernel_rfl
  have ho54 : (arr .i64 (dgsN q msg)).toList.all (·.oneCell') = true := by unfold arr; simp [List.all_eq_true, Value.oneCell']
  generalize sigV seed q (dgsN q msg) = SV at *
  generalize dgsN q msg = D at *
  generalize nodeN seed = NN at *
  generalize begN seed q = BN at *
  generalize numW (q : Int) = nq at *
  replace NQ := Lib.hid NQ
  replace DC := Lib.hid DC
  replace VC := Lib.hid VC
  replace ND := Lib.hid ND
  replace hnz := Lib.hid hnz
  replace hsV0 := Lib.hid hsV0
  replace hsV := Lib.hid hsV
  replace hsz0 := Lib.hid hsz0
  replace hwz := Lib.hid hwz
  replace hget := Lib.hid hget
  replace hdl := Lib.hid hdl
  clear hd15
  have hB : Later w w := Later.refl w
  go_enter Try.func39, Try.ntmps39
  go_wp2_with (first | ((with_reducible refine (NQ.out _).mono ?_); rintro e w2 ⟨rfl, hb2⟩; replace hB := Later.trans hB hb2) | ((with_reducible refine (DC.out _).mono ?_); rintro e w3 ⟨rfl, hb3⟩; replace hB := Later.trans hB hb3; have hZ := Whole.new w3 54 Try.zeroCells54; have hG3 := hB.size; replace hB := hB.alloc (.cells Try.zeroCells54 54)) | ((with_reducible apply wl_storeW (ty := 54) hZ); rfl; rfl; rfl; kernel_rfl; exact hz54; exact ho54; intro wS hT hgS hzS; replace hB := below_only' hB hgS hG3; clear hgS hzS hZ))
  clear hb2 hb3
  rw [← hsV0.out]
  generalize hG : w3.heap.size = G at *
  have hl0 : Later wS wS := Later.refl wS
  go_loopg [7, 9] 68 (fun kg s x wr => ∃ k : Nat, x = .int .i64 k ∧ k ≤ 67 ∧ kg = 68 - k ∧ s = .string (SV k) ∧ Later wS wr)
  case atStart => exact ⟨0, rfl, by omega, rfl, by first | rfl | rw [hsV0.out], hl0⟩
  case round =>
    clear hl0
    obtain ⟨k, rfl, hk, hkg, rfl, hl⟩ := hrel
    replace hkg := Lib.hid hkg
    by_cases hlt : k < 67
    · have hg15 := hget.out k hlt
      have VK := fun w => VC.out k (D.getD k 0) hg15 w
      have hsvk := hsV.out k
      have hszk := hsz0.out k
      have hw32 := hwz.out k (D.getD k 0)
      have ec := arr_cell (Later.whole hl hT) (i := k) (by have := hdl.out; omega)
      have qk : ((k : Int) < 67) = True := eq_true (by omega)
      generalize wkN q k 0 (BN k) (D.getD k 0) = X at *
      generalize D.getD k 0 = dk at *
      generalize hY : SV (k + 1) = Y at *
      replace hY := Lib.hid hY
      generalize SV k = S at *
      have nolen : (9223372036854775807 < S.size + X.size) = False := eq_false (by omega)
      replace VK := Lib.hid VK
      replace hszk := Lib.hid hszk
      replace hw32 := Lib.hid hw32
      replace hsvk := Lib.hid hsvk
      go_wp2_with ((with_reducible refine (VK.out _).mono ?_); rintro e w5 ⟨rfl, hb5⟩)
      have hln := Later.trans hl hb5
      go_roundg (67 - k)
      case measure => go_light; rw [hkg.out]; omega
      case rel => go_light; exact ⟨k + 1, by go_num, by omega, by omega, by rw [hY.out, hsvk.out], hln⟩
    · obtain rfl : k = 67 := by omega
      have hS := hsz0.out 67
      generalize hSe : SV 67 = S at *
      replace hSe := Lib.hid hSe
      have hsib : ∀ h, (sibCat S NN q h).size = 2148 + 32 * h := by
        intro h
        induction h with
        | zero => exact hS
        | succ h ih => rw [sibCat, ByteArray.size_append, ih, hnz.out]; omega
      have hc0 : sibCat S NN q 0 = S := rfl
      have hcs : ∀ h, sibCat S NN q (h + 1) = sibCat S NN q h ++ NN h (sibN (q / 2 ^ h)) := fun _ => rfl
      generalize hSCe : sibCat S NN q = SC at *
      replace hSCe := Lib.hid hSCe
      replace hsib := Lib.hid hsib
      replace hcs := Lib.hid hcs
      replace hc0 := Lib.hid hc0
      clear hS
      go_wp2_with (fail)
      go_loopg [7, 10, 11, 12] 4 (fun kg s a x o wr => ∃ h : Nat, x = .int .i64 h ∧ h ≤ 3 ∧ kg = 4 - h ∧ s = .string (SC h) ∧ a = .int .i64 (q / 2 ^ h : Nat) ∧ Later wS wr)
      case atStart => exact ⟨0, rfl, by omega, rfl, by rw [hc0.out], by simp, hl⟩
      case round =>
        clear hl
        obtain ⟨h, rfl, hh, hkg2, rfl, rfl, hl⟩ := hrel
        replace hkg2 := Lib.hid hkg2
        by_cases hlt2 : h < 3
        · have hqa : q / 2 ^ h < 8 := Nat.lt_of_le_of_lt (Nat.div_le_self q (2 ^ h)) hq
          have hqs : q / 2 ^ (h + 1) = q / 2 ^ h / 2 := by rw [Nat.pow_succ, Nat.div_div_eq_div_mul]
          have hcs1 := hcs.out h
          have hsz1 := hsib.out h
          have hzn := hnz.out h (sibN (q / 2 ^ h))
          have hs9 : sibN (q / 2 ^ h) ≤ 8 := by unfold sibN; split <;> omega
          have hsn : sibN (q / 2 ^ h) = if q / 2 ^ h % 2 = 1 then q / 2 ^ h - 1 else q / 2 ^ h + 1 := rfl
          have NK := fun w => ND.out h (sibN (q / 2 ^ h)) w (by omega) (by
            have e1 : 2 ^ h ≤ 2 ^ 3 := Nat.pow_le_pow_right (by decide) hh
            have e2 : (sibN (q / 2 ^ h) + 1) * 2 ^ h ≤ 9 * 2 ^ 3 := Nat.mul_le_mul (by omega) e1
            omega)
          generalize NN h (sibN (q / 2 ^ h)) = NX at *
          generalize hat2 : q / 2 ^ (h + 1) = at2 at *
          replace hat2 := Lib.hid hat2
          generalize q / 2 ^ h = at1 at *
          generalize sibN at1 = sx at *
          generalize hS2 : SC (h + 1) = S2 at *
          replace hS2 := Lib.hid hS2
          generalize SC h = S1 at *
          have y1 : (at1 : Int) / 2 = (at2 : Int) := by omega
          have y2 : (at1 : Int).tdiv 2 = (at2 : Int) := by rw [Int.tdiv_eq_ediv_of_nonneg (Int.natCast_nonneg _)]; omega
          have nolen : (9223372036854775807 < S1.size + NX.size) = False := eq_false (by omega)
          have qh : ((h : Int) < 3) = True := eq_true (by omega)
          replace NK := Lib.hid NK
          replace hcs1 := Lib.hid hcs1
          replace hsz1 := Lib.hid hsz1
          replace hzn := Lib.hid hzn
          clear hqs
          by_cases hp : at1 % 2 = 1
          · rw [if_pos hp] at hsn
            have p1 : (at1 : Int).tmod 2 = 1 := by rw [Int.tmod_eq_emod_of_nonneg (Int.natCast_nonneg _)]; omega
            have p2 : (at1 : Int) % 2 = 1 := by omega
            have p3 : IntKind.i64.wrap ((at1 : Int) - 1) = (sx : Int) := by simp [IntKind.wrap, IntKind.signed, IntKind.bits]; omega
            have p4 : (at1 : Int) - 1 = (sx : Int) := by omega
            clear hsn hp hs9
            go_wp2_with ((with_reducible refine (NK.out _).mono ?_); rintro e w5 ⟨rfl, hb5⟩)
            have hln := Later.trans hl hb5
            go_roundg (3 - h)
            case measure => go_light; rw [hkg2.out]; omega
            case rel => go_light; exact ⟨h + 1, by go_num, by omega, by omega, by rw [hS2.out, hcs1.out], by rw [hat2.out], hln⟩
          · rw [if_neg hp] at hsn
            have p1 : (at1 : Int).tmod 2 = 0 := by rw [Int.tmod_eq_emod_of_nonneg (Int.natCast_nonneg _)]; omega
            have p2 : (at1 : Int) % 2 = 0 := by omega
            have p3 : IntKind.i64.wrap ((at1 : Int) + 1) = (sx : Int) := by simp [IntKind.wrap, IntKind.signed, IntKind.bits]; omega
            have p4 : (at1 : Int) + 1 = (sx : Int) := by omega
            clear hsn hp hs9
            go_wp2_with ((with_reducible refine (NK.out _).mono ?_); rintro e w5 ⟨rfl, hb5⟩)
            have hln := Later.trans hl hb5
            go_roundg (3 - h)
            case measure => go_light; rw [hkg2.out]; omega
            case rel => go_light; exact ⟨h + 1, by go_num, by omega, by omega, by rw [hS2.out, hcs1.out], by rw [hat2.out], hln⟩
        · obtain rfl : h = 3 := by omega
          go_wp2_with (fail)
          go_returns
          go_light
          have e3 : sibCat (SV 67) NN q 3 = SC 3 := by rw [hSe.out, hSCe.out]
          try rw [e3]
          exact ⟨by first | rfl | kernel_rfl, Later.trans (hB : Later w wS) hl⟩
end Go.Proofs.Ytfkafejoacpclaa
