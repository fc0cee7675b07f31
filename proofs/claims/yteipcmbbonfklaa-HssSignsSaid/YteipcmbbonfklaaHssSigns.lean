/- The law HssSigns, walked. No conditions. -/
import Derived.Test.YteipcmbbonfklaaHss3
namespace Go.Proofs.Yteipcmbbonfklaa
open Go.RowKit
set_option linter.unusedVariables false
set_option linter.unusedSimpArgs false
set_option maxHeartbeats 1000000 in
set_option maxRecDepth 100000 in
theorem rchild_calls (seed : ByteArray) (hs : seed.size ≤ 100) (k : Nat) (w : World) :
    Calls Try.prog 38 #[.string seed, .int .i64 k] w fun e w' => e = .returned (.string (childN seed k)) ∧ Below w.heap.size w w' := by
  have TC := fun w => rtext_calls seed w (by omega)
  have NC := fun w => rnum_calls (k : Int) w
  have tz := textW_size seed
  have nz := numW_size (k : Int)
  unfold childN
  generalize textW seed = tq at *
  generalize numW (k : Int) = nq at *
  have z1 : (tq ++ ⟨#[99]⟩ : ByteArray).size = tq.size + 1 := ByteArray.size_append
  have nolen1 : (9223372036854775807 < tq.size + 1) = False := eq_false (by omega)
  have nolen2 : (9223372036854775807 < tq.size + 1 + nq.size) = False := eq_false (by omega)
  replace TC := Lib.hid TC
  replace NC := Lib.hid NC
  replace tz := Lib.hid tz
  replace nz := Lib.hid nz
  clear z1
  have hB : Later w w := Later.refl w
  go_enter Try.func38, Try.ntmps38
  go_wp2_with (first | ((with_reducible refine (TC.out _).mono ?_); rintro e w2 ⟨rfl, hb2⟩; replace hB := Later.trans hB hb2) | ((with_reducible refine (NC.out _).mono ?_); rintro e w3 ⟨rfl, hb3⟩; replace hB := Later.trans hB hb3))
  go_returns
  go_light
  exact ⟨by first | rfl | simp, hB⟩
set_option maxHeartbeats 8000000 in
set_option maxRecDepth 100000 in
theorem hssSigns_calls (seed msg : ByteArray) (q : Int) (w : World) :
    Calls Try.prog 5 #[.string seed, .string msg, .int .i64 q] w fun e w' => e = .returned (.bool true) ∧ Below w.heap.size w w' := by
  have AW := fun w => awake10_calls w
  have M := fun w => make_calls w
  have hsz : (Try.prog.info? 31).map (·.size) = some (arr .u32 (K64 ++ H8.L)).size := by kernel_rfl
  have htz : (arr .u32 (K64 ++ H8.L)).size = Try.zeroCells31.size := by kernel_rfl
  have ho1 : (arr .u32 (K64 ++ H8.L)).toList.all (·.oneCell') = true := by kernel_rfl
  replace AW := Lib.hid AW
  have hB : Later w w := Later.refl w
  by_cases hs1 : seed.size ≤ 40
  · have qs1 : ((40 : Int) < seed.size) = False := eq_false (by omega)
    by_cases hs2 : msg.size ≤ 40
    · have qs2 : ((40 : Int) < msg.size) = False := eq_false (by omega)
      by_cases h1 : q < 0
      · have q1 : (q < 0) = True := eq_true h1
        have SB := fun w => hsign_bad q (.inl h1) seed msg w
        generalize arr .u32 (K64 ++ H8.L) = tb at *
        replace M := Lib.hid M
        replace SB := Lib.hid SB
        go_enter Try.func5, Try.ntmps5
        go_wp2_with (first | ((with_reducible refine (AW.out _).mono ?_); rintro e w4 ⟨rfl, hb4⟩; replace hB := Later.trans hB hb4) | ((with_reducible refine (M.out _).mono ?_); rintro e w6 ⟨rfl, hb6⟩; replace hB := Later.trans hB hb6; have hZ := Whole.new w6 31 Try.zeroCells31; have hG6 := hB.size; replace hB := hB.alloc (.cells Try.zeroCells31 31)) | ((with_reducible apply wl_storeW (ty := 31) hZ); rfl; rfl; rfl; kernel_rfl; exact htz; exact ho1; intro wS hT hgS hzS; replace hB := below_only' hB hgS hG6; clear hgS hzS hZ) | ((with_reducible apply wl_loadW (ty := 31) hT Try.underlying31); rfl; rfl; rfl; exact hsz) | ((with_reducible refine (SB.out _).mono ?_); rintro e w8 ⟨rfl, hb8⟩; replace hB := Later.trans hB hb8; replace hT := Later.whole hb8 hT; clear hb8))
        go_returns
        go_light
        exact ⟨rfl, hB⟩
      · have q1 : (q < 0) = False := eq_false h1
        by_cases h2 : 63 < q
        · have q2 : (63 < q) = True := eq_true h2
          have SB := fun w => hsign_bad q (.inr (by omega)) seed msg w
          generalize arr .u32 (K64 ++ H8.L) = tb at *
          replace M := Lib.hid M
          replace SB := Lib.hid SB
          go_enter Try.func5, Try.ntmps5
          go_wp2_with (first | ((with_reducible refine (AW.out _).mono ?_); rintro e w4 ⟨rfl, hb4⟩; replace hB := Later.trans hB hb4) | ((with_reducible refine (M.out _).mono ?_); rintro e w6 ⟨rfl, hb6⟩; replace hB := Later.trans hB hb6; have hZ := Whole.new w6 31 Try.zeroCells31; have hG6 := hB.size; replace hB := hB.alloc (.cells Try.zeroCells31 31)) | ((with_reducible apply wl_storeW (ty := 31) hZ); rfl; rfl; rfl; kernel_rfl; exact htz; exact ho1; intro wS hT hgS hzS; replace hB := below_only' hB hgS hG6; clear hgS hzS hZ) | ((with_reducible apply wl_loadW (ty := 31) hT Try.underlying31); rfl; rfl; rfl; exact hsz) | ((with_reducible refine (SB.out _).mono ?_); rintro e w8 ⟨rfl, hb8⟩; replace hB := Later.trans hB hb8; replace hT := Later.whole hb8 hT; clear hb8))
          go_returns
          go_light
          exact ⟨rfl, hB⟩
        · have q2 : (63 < q) = False := eq_false h2
          obtain ⟨n, rfl⟩ : ∃ n : Nat, q = n := ⟨q.toNat, by omega⟩
          have hcz := childN_size seed (n / 8)
          have SG := fun w => hsign_calls seed (by omega) n (by omega) msg (by omega) w
          have PB := fun w => hpublic_calls seed (by omega) w
          have PC := fun w => public_calls (childN seed (n / 8)) (by omega) w
          have VO := fun w => hss_own seed n (by omega) msg (by omega) w
          have RO := fun w => ref_own seed n (by omega) msg (by omega) w
          have CH := fun w => child_calls seed (by omega) n w
          have C8 := fun w => child_calls seed (by omega) (n / 8) w
          have RC := fun w => rchild_calls seed (by omega) n w
          have hx := hssN_two seed n msg
          have hz := hssN_size seed n msg
          have k1 : (n : Int) / 8 = ((n / 8 : Nat) : Int) := by omega
          have k2 : (n : Int).tdiv 8 = ((n / 8 : Nat) : Int) := by rw [Int.tdiv_eq_ediv_of_nonneg (Int.natCast_nonneg _)]; omega
          have k5 : IntKind.i64.wrap ((n / 8 : Nat) : Int) = ((n / 8 : Nat) : Int) := by simp [IntKind.wrap, IntKind.signed, IntKind.bits]; omega
          generalize hssN seed n msg = sg at *
          generalize nodeN (childN seed (n / 8)) 3 0 = pc at *
          generalize nodeN seed 3 0 = PK at *
          generalize childN seed (n / 8) = ch at *
          generalize childN seed n = cn at *
          generalize n / 8 = n8 at *
          generalize arr .u32 (K64 ++ H8.L) = tb at *
          replace M := Lib.hid M
          replace SG := Lib.hid SG
          replace PB := Lib.hid PB
          replace PC := Lib.hid PC
          replace VO := Lib.hid VO
          replace RO := Lib.hid RO
          replace CH := Lib.hid CH
          replace C8 := Lib.hid C8
          replace RC := Lib.hid RC
          replace hcz := Lib.hid hcz
          go_enter Try.func5, Try.ntmps5
          go_upto_region 10 with (first | ((with_reducible refine (AW.out _).mono ?_); rintro e w4 ⟨rfl, hb4⟩; replace hB := Later.trans hB hb4) | ((with_reducible refine (M.out _).mono ?_); rintro e w6 ⟨rfl, hb6⟩; replace hB := Later.trans hB hb6; have hZ := Whole.new w6 31 Try.zeroCells31; have hG6 := hB.size; replace hB := hB.alloc (.cells Try.zeroCells31 31)) | ((with_reducible apply wl_storeW (ty := 31) hZ); rfl; rfl; rfl; kernel_rfl; exact htz; exact ho1; intro wS hT hgS hzS; replace hB := below_only' hB hgS hG6; clear hgS hzS hZ) | ((with_reducible apply wl_loadW (ty := 31) hT Try.underlying31); rfl; rfl; rfl; exact hsz) | ((with_reducible refine (SG.out _).mono ?_); rintro e w8 ⟨rfl, hb8⟩; replace hB := Later.trans hB hb8; replace hT := Later.whole hb8 hT; clear hb8) | ((with_reducible refine (PB.out _).mono ?_); rintro e w8 ⟨rfl, hb8⟩; replace hB := Later.trans hB hb8; replace hT := Later.whole hb8 hT; clear hb8) | ((with_reducible refine (VO.out _).mono ?_); rintro e w8 ⟨rfl, hb8⟩; replace hB := Later.trans hB hb8; replace hT := Later.whole hb8 hT; clear hb8) | ((with_reducible refine (RO.out _).mono ?_); rintro e w8 ⟨rfl, hb8⟩; replace hB := Later.trans hB hb8; replace hT := Later.whole hb8 hT; clear hb8))
          generalize w6.heap.size = G at *
          refine wp_region_grow 39 105 (by kernel_rfl) (by kernel_rfl) rfl (fun w1 hl1 => ?_)
          simp only [List.take_succ_cons, List.take_zero, List.drop_succ_cons, List.drop_zero]
          generalize ha : Act.mk _ _ = a0
          have k0 : a0.eval (.tmp 0) = .string seed := by subst ha; rfl
          have k2 : a0.eval (.tmp 2) = .int .i64 n := by subst ha; rfl
          have k7 : a0.eval (.tmp 7) = .pointer (some ⟨G, 0, none⟩) := by subst ha; rfl
          have k8 : a0.eval (.tmp 8) = .string sg := by subst ha; rfl
          have k9 : a0.eval (.tmp 9) = .int .i64 0 := by subst ha; rfl
          have k11 : a0.eval (.tmp 11) = .int .i64 n := by subst ha; rfl
          have k12 : a0.eval (.tmp 12) = .bool true := by subst ha; rfl
          have k13 : a0.eval (.tmp 13) = .int .i64 n := by subst ha; rfl
          have k14 : a0.eval (.tmp 14) = .bool true := by subst ha; rfl
          have ks : a0.tmps.size = 105 := by subst ha; rfl
          have ha0 := ha.symm
          clear ha
          refine wpG_move (fun a w hk => (hk 9 rfl : a.eval (.tmp 9) = a0.eval (.tmp 9)).trans k9) ?_
          apply wpG_value'
          · rfl
          · (intro a wx hlx hk K hK; have e67 : a.eval (.tmp 67) = _ := hk 67 rfl; simp only [execOp, e67]; clear e67 hk; go_simp; exact hK)
          refine wpG_move (fun a w hk => hk 68 rfl) ?_
          refine wpG_guard (fun a w hl hk => by have e : a.eval (.tmp 69) = .bool true := hk 69 rfl; rw [wanted_of rfl rfl e]; rfl) ?_
          refine wpG_move (fun a w hk => (hk 12 rfl : a.eval (.tmp 12) = a0.eval (.tmp 12)).trans k12) ?_
          apply wpG_value'
          · rfl
          · (intro a wx hlx hk K hK; have e69 : a.eval (.tmp 69) = _ := hk 69 rfl; have e70 : a.eval (.tmp 70) = _ := hk 70 rfl; simp only [execOp, e69, e70]; clear e69 e70 hk; go_simp; exact hK)
          refine wpG_move (fun a w hk => hk 71 rfl) ?_
          refine wpG_guard (fun a w hl hk => by have e : a.eval (.tmp 72) = .bool true := hk 72 rfl; rw [wanted_of rfl rfl e]; rfl) ?_
          refine wpG_move (fun a w hk => (hk 14 rfl : a.eval (.tmp 14) = a0.eval (.tmp 14)).trans k14) ?_
          apply wpG_value'
          · rfl
          · (intro a wx hlx hk K hK; have e72 : a.eval (.tmp 72) = _ := hk 72 rfl; have e73 : a.eval (.tmp 73) = _ := hk 73 rfl; simp only [execOp, e72, e73]; clear e72 e73 hk; go_simp; exact hK)
          refine wpG_move (fun a w hk => hk 74 rfl) ?_
          refine wpG_guard (fun a w hl hk => by have e : a.eval (.tmp 75) = .bool true := hk 75 rfl; rw [wanted_of rfl rfl e]; rfl) ?_
          refine wpG_move (fun a w hk => (hk 11 rfl : a.eval (.tmp 11) = a0.eval (.tmp 11)).trans k11) ?_
          refine wpG_guard (fun a w hl hk => by have e : a.eval (.tmp 75) = .bool true := hk 75 rfl; rw [wanted_of rfl rfl e]; rfl) ?_
          refine wpG_move (fun a w hk => (hk 2 rfl : a.eval (.tmp 2) = a0.eval (.tmp 2)).trans k2) ?_
          refine wpG_guard (fun a w hl hk => by have e : a.eval (.tmp 75) = .bool true := hk 75 rfl; rw [wanted_of rfl rfl e]; rfl) ?_
          apply wpG_value'
          · rfl
          · (intro a wx hlx hk K hK; have e76 : a.eval (.tmp 76) = _ := hk 76 rfl; have e77 : a.eval (.tmp 77) = _ := hk 77 rfl; simp only [execOp, e76, e77]; clear e76 e77 hk; go_simp; exact hK)
          apply wpG_value'
          · rfl
          · (intro a wx hlx hk K hK; have e75 : a.eval (.tmp 75) = _ := hk 75 rfl; have e78 : a.eval (.tmp 78) = _ := hk 78 rfl; simp only [execOp, e75, e78]; clear e75 e78 hk; go_simp; exact hK)
          refine wpG_move (fun a w hk => hk 79 rfl) ?_
          refine wpG_guard (fun a w hl hk => by have e : a.eval (.tmp 80) = .bool true := hk 80 rfl; rw [wanted_of rfl rfl e]; rfl) ?_
          refine wpG_move (fun a w hk => (hk 13 rfl : a.eval (.tmp 13) = a0.eval (.tmp 13)).trans k13) ?_
          refine wpG_guard (fun a w hl hk => by have e : a.eval (.tmp 80) = .bool true := hk 80 rfl; rw [wanted_of rfl rfl e]; rfl) ?_
          refine wpG_move (fun a w hk => (hk 2 rfl : a.eval (.tmp 2) = a0.eval (.tmp 2)).trans k2) ?_
          refine wpG_guard (fun a w hl hk => by have e : a.eval (.tmp 80) = .bool true := hk 80 rfl; rw [wanted_of rfl rfl e]; rfl) ?_
          apply wpG_value'
          · rfl
          · (intro a wx hlx hk K hK; have e81 : a.eval (.tmp 81) = _ := hk 81 rfl; have e82 : a.eval (.tmp 82) = _ := hk 82 rfl; simp only [execOp, e81, e82]; clear e81 e82 hk; go_simp; exact hK)
          apply wpG_value'
          · rfl
          · (intro a wx hlx hk K hK; have e80 : a.eval (.tmp 80) = _ := hk 80 rfl; have e83 : a.eval (.tmp 83) = _ := hk 83 rfl; simp only [execOp, e80, e83]; clear e80 e83 hk; go_simp; exact hK)
          refine wpG_move (fun a w hk => hk 84 rfl) ?_
          refine wpG_guard (fun a w hl hk => by have e : a.eval (.tmp 85) = .bool true := hk 85 rfl; rw [wanted_of rfl rfl e]; rfl) ?_
          refine wpG_move (fun a w hk => (hk 0 rfl : a.eval (.tmp 0) = a0.eval (.tmp 0)).trans k0) ?_
          refine wpG_guard (fun a w hl hk => by have e : a.eval (.tmp 85) = .bool true := hk 85 rfl; rw [wanted_of rfl rfl e]; rfl) ?_
          refine wpG_move (fun a w hk => (hk 2 rfl : a.eval (.tmp 2) = a0.eval (.tmp 2)).trans k2) ?_
          refine wpG_guard (fun a w hl hk => by have e : a.eval (.tmp 85) = .bool true := hk 85 rfl; rw [wanted_of rfl rfl e]; rfl) ?_
          refine wpG_call _ _ Try.func37 (by kernel_rfl) (by kernel_rfl) (fun W _ => CH.out W) (fun a w hk => by have e86 : a.eval (.tmp 86) = _ := hk 86 rfl; have e87 : a.eval (.tmp 87) = _ := hk 87 rfl; simp [e86, e87]) ?_
          refine wpG_guard (fun a w hl hk => by have e : a.eval (.tmp 85) = .bool true := hk 85 rfl; rw [wanted_of rfl rfl e]; rfl) ?_
          refine wpG_move (fun a w hk => (hk 0 rfl : a.eval (.tmp 0) = a0.eval (.tmp 0)).trans k0) ?_
          refine wpG_guard (fun a w hl hk => by have e : a.eval (.tmp 85) = .bool true := hk 85 rfl; rw [wanted_of rfl rfl e]; rfl) ?_
          refine wpG_move (fun a w hk => (hk 2 rfl : a.eval (.tmp 2) = a0.eval (.tmp 2)).trans k2) ?_
          refine wpG_guard (fun a w hl hk => by have e : a.eval (.tmp 85) = .bool true := hk 85 rfl; rw [wanted_of rfl rfl e]; rfl) ?_
          refine wpG_call _ _ Try.func38 (by kernel_rfl) (by kernel_rfl) (fun W _ => RC.out W) (fun a w hk => by have e89 : a.eval (.tmp 89) = _ := hk 89 rfl; have e90 : a.eval (.tmp 90) = _ := hk 90 rfl; simp [e89, e90]) ?_
          refine wpG_guard (fun a w hl hk => by have e : a.eval (.tmp 85) = .bool true := hk 85 rfl; rw [wanted_of rfl rfl e]; rfl) ?_
          apply wpG_value'
          · rfl
          · (intro a wx hlx hk K hK; have e88 : a.eval (.tmp 88) = _ := hk 88 rfl; have e91 : a.eval (.tmp 91) = _ := hk 91 rfl; simp only [execOp, e88, e91]; clear e88 e91 hk; go_simp; exact hK)
          apply wpG_value'
          · rfl
          · (intro a wx hlx hk K hK; have e85 : a.eval (.tmp 85) = _ := hk 85 rfl; have e92 : a.eval (.tmp 92) = _ := hk 92 rfl; simp only [execOp, e85, e92]; clear e85 e92 hk; go_simp; exact hK)
          refine wpG_move (fun a w hk => hk 93 rfl) ?_
          refine wpG_guard (fun a w hl hk => by have e : a.eval (.tmp 94) = .bool true := hk 94 rfl; rw [wanted_of rfl rfl e]; rfl) ?_
          refine wpG_move (fun a w hk => (hk 8 rfl : a.eval (.tmp 8) = a0.eval (.tmp 8)).trans k8) ?_
          refine wpG_guard (fun a w hl hk => by have e : a.eval (.tmp 94) = .bool true := hk 94 rfl; rw [wanted_of rfl rfl e]; rfl) ?_
          apply wpG_value'
          · rfl
          · (intro a wx hlx hk K hK; have e95 : a.eval (.tmp 95) = _ := hk 95 rfl; simp only [execOp, resolve, List.map_toArray, List.map_cons, List.map_nil, Option.map_some, Option.map_none, e95]; clear e95 hk; go_simp; exact hK)
          refine wpG_guard (fun a w hl hk => by have e : a.eval (.tmp 94) = .bool true := hk 94 rfl; rw [wanted_of rfl rfl e]; rfl) ?_
          refine wpG_loadW (hl1.whole hT) Try.underlying31 rfl (hsz) (fun a w hk => (hk 7 rfl : a.eval (.tmp 7) = a0.eval (.tmp 7)).trans k7) ?_
          refine wpG_guard (fun a w hl hk => by have e : a.eval (.tmp 94) = .bool true := hk 94 rfl; rw [wanted_of rfl rfl e]; rfl) ?_
          refine wpG_move (fun a w hk => (hk 0 rfl : a.eval (.tmp 0) = a0.eval (.tmp 0)).trans k0) ?_
          refine wpG_guard (fun a w hl hk => by have e : a.eval (.tmp 94) = .bool true := hk 94 rfl; rw [wanted_of rfl rfl e]; rfl) ?_
          refine wpG_move (fun a w hk => (hk 2 rfl : a.eval (.tmp 2) = a0.eval (.tmp 2)).trans k2) ?_
          refine wpG_guard (fun a w hl hk => by have e : a.eval (.tmp 94) = .bool true := hk 94 rfl; rw [wanted_of rfl rfl e]; rfl) ?_
          apply wpG_value'
          · rfl
          · (intro a wx hlx hk K hK; have e99 : a.eval (.tmp 99) = _ := hk 99 rfl; simp only [execOp, e99]; clear e99 hk; go_simp; exact hK)
          refine wpG_guard (fun a w hl hk => by have e : a.eval (.tmp 94) = .bool true := hk 94 rfl; rw [wanted_of rfl rfl e]; rfl) ?_
          refine wpG_call _ _ Try.func37 (by kernel_rfl) (by kernel_rfl) (fun W _ => C8.out W) (fun a w hk => by have e98 : a.eval (.tmp 98) = _ := hk 98 rfl; have e100 : a.eval (.tmp 100) = _ := hk 100 rfl; simp [e98, e100]) ?_
          refine wpG_guard (fun a w hl hk => by have e : a.eval (.tmp 94) = .bool true := hk 94 rfl; rw [wanted_of rfl rfl e]; rfl) ?_
          refine wpG_call _ _ Try.func39 (by kernel_rfl) (by kernel_rfl) (fun W _ => PC.out W) (fun a w hk => by have e97 : a.eval (.tmp 97) = _ := hk 97 rfl; have e101 : a.eval (.tmp 101) = _ := hk 101 rfl; simp [e97, e101]) ?_
          refine wpG_guard (fun a w hl hk => by have e : a.eval (.tmp 94) = .bool true := hk 94 rfl; rw [wanted_of rfl rfl e]; rfl) ?_
          apply wpG_value'
          · rfl
          · (intro a wx hlx hk K hK; have e96 : a.eval (.tmp 96) = _ := hk 96 rfl; have e102 : a.eval (.tmp 102) = _ := hk 102 rfl; simp only [execOp, e96, e102]; clear e96 e102 hk; go_simp; exact hK)
          apply wpG_value'
          · rfl
          · (intro a wx hlx hk K hK; have e94 : a.eval (.tmp 94) = _ := hk 94 rfl; have e103 : a.eval (.tmp 103) = _ := hk 103 rfl; simp only [execOp, e94, e103]; clear e94 e103 hk; go_simp; exact hK)
          refine wpG_assign (fun a w hk => hk 104 rfl) ?_
          refine wpG_nil (fun w1' hl1' => ?_)
          refine fin_is ?_
          refine fin_is ?_
          refine fin_is ?_
          refine fin_is ?_
          refine fin_is ?_
          refine fin_is ?_
          refine fin_is ?_
          refine fin_is ?_
          refine fin_is ?_
          refine fin_is ?_
          refine fin_is ?_
          refine fin_is ?_
          refine fin_is ?_
          refine fin_is ?_
          refine fin_is ?_
          refine fin_is ?_
          refine fin_is ?_
          refine fin_is ?_
          refine fin_is ?_
          refine fin_is ?_
          refine fin_is ?_
          refine fin_is ?_
          refine fin_is ?_
          refine fin_is ?_
          refine fin_is ?_
          refine fin_is ?_
          refine fin_is ?_
          refine fin_is ?_
          refine fin_is ?_
          refine fin_is ?_
          refine fin_is ?_
          refine fin_is ?_
          refine fin_is ?_
          refine fin_is ?_
          refine fin_is ?_
          refine fin_is ?_
          refine fin_is ?_
          refine fin_is ?_
          refine fin_is ?_
          refine fin_nil ?_
          subst ha0
          simp only [Act.put, List.setIfInBounds_toArray, List.set_cons_succ, List.set_cons_zero]
          go_wp2_with (fail)
          go_returns
          go_light
          exact ⟨by first | rfl | simp, hB.trans (hl1.trans hl1')⟩
    · have qs2 : ((40 : Int) < msg.size) = True := eq_true (by omega)
      go_enter Try.func5, Try.ntmps5
      go_wp2_with (first | ((with_reducible refine (AW.out _).mono ?_); rintro e w4 ⟨rfl, hb4⟩; replace hB := Later.trans hB hb4))
      go_returns
      go_light
      exact ⟨rfl, hB⟩
  · have qs1 : ((40 : Int) < seed.size) = True := eq_true (by omega)
    go_enter Try.func5, Try.ntmps5
    go_wp2_with (first | ((with_reducible refine (AW.out _).mono ?_); rintro e w4 ⟨rfl, hb4⟩; replace hB := Later.trans hB hb4))
    go_returns
    go_light
    exact ⟨rfl, hB⟩
end Go.Proofs.Yteipcmbbonfklaa
