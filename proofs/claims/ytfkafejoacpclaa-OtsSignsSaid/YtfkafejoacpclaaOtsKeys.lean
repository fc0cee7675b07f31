/- The law OtsKeys, walked. No conditions. -/
import Derived.Test.YtfkafejoacpclaaOtsPlain
import Derived.Test.YtfkafejoacpclaaOtsDig
namespace Go.Proofs.Ytfkafejoacpclaa
open Go.RowKit
set_option linter.unusedVariables false
set_option linter.unusedSimpArgs false
theorem two_str {W : World} {g : Nat} {T : TypeId} {x0 x1 : ByteArray} (h : Whole W g T #[.string x0, .string x1]) {n : Nat} (h0 : x0.size ≤ n) (h1 : x1.size ≤ n) {c : Nat} (hc : c < 2) : ∃ x : ByteArray, x.size ≤ n ∧ W.cell? ⟨g, c, none⟩ = some (.string x) := by
  match c, hc with
  | 0, _ => exact ⟨x0, h0, h.cell 0⟩
  | 1, _ => exact ⟨x1, h1, h.cell 1⟩
theorem two_u8 {W : World} {g : Nat} {T : TypeId} {x0 x1 : Nat} (h : Whole W g T #[.int .u8 x0, .int .u8 x1]) (h0 : x0 < 256) (h1 : x1 < 256) {c : Nat} (hc : c < 2) : ∃ x : Nat, x < 256 ∧ W.cell? ⟨g, c, none⟩ = some (.int .u8 x) := by
  match c, hc with
  | 0, _ => exact ⟨x0, h0, h.cell 0⟩
  | 1, _ => exact ⟨x1, h1, h.cell 1⟩
theorem verify_own (seed msg : ByteArray) (hm : msg.size ≤ 1073741824) (q : Nat) (hq : q < 8) (w : World) :
    Calls Try.prog 38 #[.agg (arr .u32 (K64 ++ H8.L)), .string (nodeN seed 3 0), .string msg, .string (sigN seed q msg)] w fun e w' => e = .returned (.tuple #[.int .i64 q, .bool true]) ∧ Below w.heap.size w w' := by
  have h := verify_ok (nodeN seed 3 0) msg (sigN seed q msg) hm (sigN_size _ _ _) q (sigN_num _ _ hq _) hq w
  rw [sig_holds seed q hq msg, if_pos rfl, decide_eq_true rfl] at h
  exact h
set_option maxHeartbeats 8000000 in
set_option maxRecDepth 100000 in
theorem otsKeys_calls (seed m0 m1 : ByteArray) (x0 x1 : Nat) (hx0 : x0 < 256) (hx1 : x1 < 256) (w : World) :
    Calls Try.prog 9 #[.string seed, .agg #[.string m0, .string m1], .agg #[.int .u8 x0, .int .u8 x1]] w fun e w' => e = .returned (.bool true) ∧ Below w.heap.size w w' := by
  have AW := fun w => awake03_calls w
  have M := fun w => make_calls w
  have hsz : (Try.prog.info? 29).map (·.size) = some (arr .u32 (K64 ++ H8.L)).size := by kernel_rfl
  have htz : (arr .u32 (K64 ++ H8.L)).size = Try.zeroCells29.size := by kernel_rfl
  have ho1 : (arr .u32 (K64 ++ H8.L)).toList.all (·.oneCell') = true := by kernel_rfl
  replace AW := Lib.hid AW
  obtain ⟨W0, hW0⟩ : ∃ W0, (w.alloc (.cells #[.string m0, .string m1] 40)).alloc (.cells #[.int .u8 x0, .int .u8 x1] 58) = W0 := ⟨_, rfl⟩
  have hA4 : Whole W0 w.heap.size 40 #[.string m0, .string m1] := by rw [← hW0]; exact (Whole.new w _ _).alloc _
  have hA5 : Whole W0 (w.heap.size + 1) 58 #[.int .u8 x0, .int .u8 x1] := by rw [← hW0]; exact Whole.new1 w _ _ _
  have hB0 : Later w W0 := by rw [← hW0]; exact ((Later.refl w).alloc _).alloc _
  have e0 := hA4.cell 0
  have e1 := hA4.cell 1
  have hB : Later W0 W0 := Later.refl W0
  have hq5 := fun (W : World) (hb : Later W0 W) (c : Nat) (hc : c < 2) => two_u8 (hb.whole hA5) hx0 hx1 hc
  replace hq5 := Lib.hid hq5
  by_cases hs1 : seed.size ≤ 30
  · have qs1 : ((30 : Int) < seed.size) = False := eq_false (by omega)
    by_cases hs2 : m0.size ≤ 30
    · have qs2 : ((30 : Int) < m0.size) = False := eq_false (by omega)
      by_cases hs3 : m1.size ≤ 30
      · have qs3 : ((30 : Int) < m1.size) = False := eq_false (by omega)
        have hm4 := fun (W : World) (hb : Later W0 W) (c : Nat) (hc : c < 2) => two_str (hb.whole hA4) hs2 hs3 hc
        have PB := fun w => public_calls seed (by omega) w
        have SC := fun (q : Nat) (hq : q < 8) (m : ByteArray) (hm : m.size ≤ 30) w => sign_calls seed (by omega) q hq m (by omega) w
        have VC := fun (q : Nat) (hq : q < 8) (m : ByteArray) (hm : m.size ≤ 30) w => verify_own seed m (by omega) q hq w
        have hpz : (nodeN seed 3 0).size = 32 := nodeN_size seed 3 0
        have hgz := fun (q : Nat) (m : ByteArray) => sigN_size seed q m
        generalize nodeN seed 3 0 = PK at *
        generalize sigN seed = SG at *
        generalize arr .u32 (K64 ++ H8.L) = tb at *
        replace M := Lib.hid M
        replace PB := Lib.hid PB
        replace SC := Lib.hid SC
        replace VC := Lib.hid VC
        replace hm4 := Lib.hid hm4
        replace hgz := Lib.hid hgz
        clear hA4 hA5 hx0 hx1
        go_enter Try.func9, Try.ntmps9
        go_upto_region 1 with (fail)
        try rw [hW0]
        clear hW0
        go_wp2_with (first | ((with_reducible refine (AW.out _).mono ?_); rintro e w4 ⟨rfl, hb4⟩; replace hB := Later.trans hB hb4; replace e0 := Later.cell hb4 e0; replace e1 := Later.cell hb4 e1) | ((with_reducible refine (M.out _).mono ?_); rintro e w6 ⟨rfl, hb6⟩; replace hB := Later.trans hB hb6; have hZ := Whole.new w6 29 Try.zeroCells29; have hG6 := hB.size; replace hB := hB.alloc (.cells Try.zeroCells29 29)) | ((with_reducible apply wl_storeW (ty := 29) hZ); rfl; rfl; rfl; kernel_rfl; exact htz; exact ho1; intro wS hT hgS hzS; replace hB := below_only' hB hgS hG6; clear hgS hzS hZ) | ((with_reducible refine (PB.out _).mono ?_); rintro e w8 ⟨rfl, hb8⟩; replace hB := Later.trans hB hb8; replace hT := Later.whole hb8 hT) | ((with_reducible apply wl_loadW (ty := 29) hT Try.underlying29); rfl; rfl; rfl; exact hsz))
        generalize hG : w6.heap.size = G at *
        generalize hG0 : w.heap.size = G0 at *
        have hbase : Later w8 w8 := Later.refl w8
        go_loopg [9, 10, 11, 12, 13, 14] 3 (fun kg x a b c d e wr => ∃ k : Nat, x = .int .i64 k ∧ k ≤ 2 ∧ kg = 3 - k ∧ Later w8 wr)
        case atStart => exact ⟨0, rfl, by omega, rfl, hbase⟩
        case round =>
          clear hbase
          obtain ⟨k, rfl, hk, hkg, hl⟩ := hrel
          replace hkg := Lib.hid hkg
          by_cases hlt : k < 2
          · obtain ⟨y, hy, ec⟩ := hq5.out _ (hB.trans hl) k hlt
            obtain ⟨mm, hmm, em⟩ := hm4.out _ (hB.trans hl) k hlt
            obtain ⟨r, hr⟩ : ∃ r, y % 8 = r := ⟨_, rfl⟩
            have hr8 : r < 8 := by omega
            have t1 : (y : Int).tmod 8 = (r : Int) := by rw [Int.tmod_eq_emod_of_nonneg (Int.natCast_nonneg _)]; omega
            have t2 : (y : Int) % 8 = (r : Int) := by omega
            have SS := fun w => SC.out r hr8 mm hmm w
            have VV := fun w => VC.out r hr8 mm hmm w
            have hgs := hgz.out r mm
            have q22 : ((SG r mm).size : Int) = 2244 := by omega
            have wr1 : IntKind.i64.wrap (r : Int) = r := by simp [IntKind.wrap, IntKind.signed, IntKind.bits]; omega
            have wr2 : IntKind.u8.wrap (r : Int) = r := by simp [IntKind.wrap, IntKind.signed, IntKind.bits]; omega
            generalize SG r mm = sg at *
            replace SS := Lib.hid SS
            replace VV := Lib.hid VV
            clear hr
            go_upto_region 9 with (fail)
            refine wp_region_grow 12 85 (by kernel_rfl) (by kernel_rfl) rfl (fun w7 hl7 => ?_)
            simp only [List.take_succ_cons, List.take_zero, List.drop_succ_cons, List.drop_zero]
            generalize ha : Act.mk _ _ = a0
            have k0 : a0.eval (.tmp 0) = .string seed := by subst ha; rfl
            have k4 : a0.eval (.tmp 4) = .pointer (some ⟨G0, 0, none⟩) := by subst ha; rfl
            have k7 : a0.eval (.tmp 7) = .pointer (some ⟨G, 0, none⟩) := by subst ha; rfl
            have k9 : a0.eval (.tmp 9) = .int .i64 k := by subst ha; rfl
            have k10 : a0.eval (.tmp 10) = .int .i64 r := by subst ha; rfl
            have ks : a0.tmps.size = 85 := by subst ha; rfl
            have ha0 := ha.symm
            clear ha
            refine wpG_loadW ((hl.trans hl7).whole hT) Try.underlying29 rfl (hsz) (fun a w hk => (hk 7 rfl : a.eval (.tmp 7) = a0.eval (.tmp 7)).trans k7) ?_
            refine wpG_move (fun a w hk => (hk 0 rfl : a.eval (.tmp 0) = a0.eval (.tmp 0)).trans k0) ?_
            refine wpG_move (fun a w hk => (hk 10 rfl : a.eval (.tmp 10) = a0.eval (.tmp 10)).trans k10) ?_
            refine wpG_move (fun a w hk => (hk 9 rfl : a.eval (.tmp 9) = a0.eval (.tmp 9)).trans k9) ?_
            apply wpG_value'
            · rfl
            · (intro a wx hlx hk K hK; have e4 : a.eval (.tmp 4) = _ := (hk 4 rfl : a.eval (.tmp 4) = a0.eval (.tmp 4)).trans k4; have e52 : a.eval (.tmp 52) = _ := hk 52 rfl; simp only [execOp, e4, e52]; clear e4 e52 hk; go_simp; exact hK)
            refine wpG_load1 (hl7.cell em) Try.underlying9 rfl (fun a w hk => hk 53 rfl) ?_
            refine wpG_call _ _ Try.func37 (by kernel_rfl) (by kernel_rfl) (fun W _ => SS.out W) (fun a w hk => by have e49 : a.eval (.tmp 49) = _ := hk 49 rfl; have e50 : a.eval (.tmp 50) = _ := hk 50 rfl; have e51 : a.eval (.tmp 51) = _ := hk 51 rfl; have e54 : a.eval (.tmp 54) = _ := hk 54 rfl; simp [e49, e50, e51, e54]) ?_
            refine wpG_move (fun a w hk => hk 55 rfl) ?_
            apply wpG_value'
            · rfl
            · (intro a wx hlx hk K hK; have e48 : a.eval (.tmp 48) = _ := hk 48 rfl; simp only [execOp, e48]; clear e48 hk; go_simp; exact hK)
            apply wpG_value'
            · rfl
            · (intro a wx hlx hk K hK; have e48 : a.eval (.tmp 48) = _ := hk 48 rfl; simp only [execOp, e48]; clear e48 hk; go_simp; exact hK)
            refine wpG_assign (fun a w hk => hk 56 rfl) ?_
            refine wpG_assign (fun a w hk => hk 57 rfl) ?_
            refine wpG_nil (fun w7' hl7' => ?_)
            refine fin_is ?_
            refine fin_is ?_
            refine fin_is ?_
            refine fin_is ?_
            refine fin_is ?_
            refine fin_is ?_
            refine fin_is ?_
            refine fin_is ?_
            refine fin_is ?_
            refine fin_is ?_
            refine fin_is ?_
            refine fin_is ?_
            refine fin_nil ?_
            subst ha0
            clear k7 k0 k10 k9 k4 ks
            simp only [Act.put, List.setIfInBounds_toArray, List.set_cons_succ, List.set_cons_zero]
            have em7 := (hl7.trans hl7').cell em
            have hl8 := hl.trans (hl7.trans hl7')
            clear hl7 hl7' hl em ec SS
            go_upto_region 12 with (fail)
            refine wp_region_grow 12 85 (by kernel_rfl) (by kernel_rfl) rfl (fun w9 hl9 => ?_)
            simp only [List.take_succ_cons, List.take_zero, List.drop_succ_cons, List.drop_zero]
            generalize ha : Act.mk _ _ = a0
            have k4 : a0.eval (.tmp 4) = .pointer (some ⟨G0, 0, none⟩) := by subst ha; rfl
            have k7 : a0.eval (.tmp 7) = .pointer (some ⟨G, 0, none⟩) := by subst ha; rfl
            have k8 : a0.eval (.tmp 8) = .string PK := by subst ha; rfl
            have k9 : a0.eval (.tmp 9) = .int .i64 k := by subst ha; rfl
            have k11 : a0.eval (.tmp 11) = .string sg := by subst ha; rfl
            have ks : a0.tmps.size = 85 := by subst ha; rfl
            have ha0 := ha.symm
            clear ha
            refine wpG_loadW ((hl8.trans hl9).whole hT) Try.underlying29 rfl (hsz) (fun a w hk => (hk 7 rfl : a.eval (.tmp 7) = a0.eval (.tmp 7)).trans k7) ?_
            refine wpG_move (fun a w hk => (hk 8 rfl : a.eval (.tmp 8) = a0.eval (.tmp 8)).trans k8) ?_
            refine wpG_move (fun a w hk => (hk 9 rfl : a.eval (.tmp 9) = a0.eval (.tmp 9)).trans k9) ?_
            apply wpG_value'
            · rfl
            · (intro a wx hlx hk K hK; have e4 : a.eval (.tmp 4) = _ := (hk 4 rfl : a.eval (.tmp 4) = a0.eval (.tmp 4)).trans k4; have e68 : a.eval (.tmp 68) = _ := hk 68 rfl; simp only [execOp, e4, e68]; clear e4 e68 hk; go_simp; exact hK)
            refine wpG_load1 (hl9.cell em7) Try.underlying9 rfl (fun a w hk => hk 69 rfl) ?_
            refine wpG_move (fun a w hk => (hk 11 rfl : a.eval (.tmp 11) = a0.eval (.tmp 11)).trans k11) ?_
            refine wpG_call _ _ Try.func38 (by kernel_rfl) (by kernel_rfl) (fun W _ => VV.out W) (fun a w hk => by have e66 : a.eval (.tmp 66) = _ := hk 66 rfl; have e67 : a.eval (.tmp 67) = _ := hk 67 rfl; have e70 : a.eval (.tmp 70) = _ := hk 70 rfl; have e71 : a.eval (.tmp 71) = _ := hk 71 rfl; simp [e66, e67, e70, e71]) ?_
            refine wpG_move (fun a w hk => hk 72 rfl) ?_
            apply wpG_value'
            · rfl
            · (intro a wx hlx hk K hK; have e65 : a.eval (.tmp 65) = _ := hk 65 rfl; simp only [execOp, e65]; clear e65 hk; go_simp; exact hK)
            apply wpG_value'
            · rfl
            · (intro a wx hlx hk K hK; have e65 : a.eval (.tmp 65) = _ := hk 65 rfl; simp only [execOp, e65]; clear e65 hk; go_simp; exact hK)
            refine wpG_assign (fun a w hk => hk 73 rfl) ?_
            refine wpG_assign (fun a w hk => hk 74 rfl) ?_
            refine wpG_nil (fun w9' hl9' => ?_)
            refine fin_is ?_
            refine fin_is ?_
            refine fin_is ?_
            refine fin_is ?_
            refine fin_is ?_
            refine fin_is ?_
            refine fin_is ?_
            refine fin_is ?_
            refine fin_is ?_
            refine fin_is ?_
            refine fin_is ?_
            refine fin_is ?_
            refine fin_nil ?_
            subst ha0
            clear k7 k8 k9 k4 k11 ks
            simp only [Act.put, List.setIfInBounds_toArray, List.set_cons_succ, List.set_cons_zero]
            have hln := hl8.trans (hl9.trans hl9')
            clear hl8 hl9 hl9' em7 VV
            go_wp2_with (fail)
            go_roundg (2 - k)
            case measure => go_light; rw [hkg.out]; omega
            case rel => go_light; exact ⟨k + 1, by go_num, by omega, by omega, hln⟩
          · have qpz : (PK.size : Int) = 32 := by omega
            go_wp2_with (fail)
            go_returns
            go_light
            exact ⟨by first | rfl | simp [hpz], hB0.trans (hB.trans hl)⟩
      · have qs3 : ((30 : Int) < m1.size) = True := eq_true (by omega)
        go_enter Try.func9, Try.ntmps9
        go_upto_region 1 with (fail)
        try rw [hW0]
        clear hW0
        go_wp2_with (first | ((with_reducible refine (AW.out _).mono ?_); rintro e w4 ⟨rfl, hb4⟩; replace hB := Later.trans hB hb4; replace e0 := Later.cell hb4 e0; replace e1 := Later.cell hb4 e1))
        go_returns
        go_light
        exact ⟨rfl, hB0.trans hB⟩
    · have qs2 : ((30 : Int) < m0.size) = True := eq_true (by omega)
      go_enter Try.func9, Try.ntmps9
      go_upto_region 1 with (fail)
      try rw [hW0]
      clear hW0
      go_wp2_with (first | ((with_reducible refine (AW.out _).mono ?_); rintro e w4 ⟨rfl, hb4⟩; replace hB := Later.trans hB hb4; replace e0 := Later.cell hb4 e0; replace e1 := Later.cell hb4 e1))
      go_returns
      go_light
      exact ⟨rfl, hB0.trans hB⟩
  · have qs1 : ((30 : Int) < seed.size) = True := eq_true (by omega)
    go_enter Try.func9, Try.ntmps9
    go_upto_region 1 with (fail)
    try rw [hW0]
    clear hW0
    go_wp2_with (first | ((with_reducible refine (AW.out _).mono ?_); rintro e w4 ⟨rfl, hb4⟩; replace hB := Later.trans hB hb4; replace e0 := Later.cell hb4 e0; replace e1 := Later.cell hb4 e1))
    go_returns
    go_light
    exact ⟨rfl, hB0.trans hB⟩
end Go.Proofs.Ytfkafejoacpclaa
