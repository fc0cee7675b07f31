/- The law ClashTrue, walked. No conditions. -/
import Derived.Test.YtknjbkbbhgjnlaaSmt18
import Derived.Test.YtknjbkbbhgjnlaaSmtTell
import Derived.Test.YtknjbkbbhgjnlaaClashA
namespace Go.Proofs.Ytknjbkbbhgjnlaa
open Go.RowKit
set_option linter.unusedVariables false
set_option linter.unusedSimpArgs false
set_option maxRecDepth 100000 in
theorem awake09t_calls (w : World) : Calls Try.prog 29 #[] w fun e w' => e = .returned (.bool true) ∧ Later w w' := by
  have C := fun w => path_calls two_hasher ⟨#[97]⟩ (by decide) w
  have hs : (weakS 2 (⟨#[75]⟩ ++ ⟨#[97]⟩)).size = 32 := weakS_size _ _
  generalize weakS 2 (⟨#[75]⟩ ++ ⟨#[97]⟩) = X at *
  replace C := Lib.hid C
  go_enter Try.func29, Try.ntmps29
  go_wp2_with (((with_reducible refine (C.out _).mono ?_); rintro e wN ⟨rfl, hbN⟩))
  go_returns
  go_light
  exact ⟨rfl, hbN⟩
/-- What was made holds under layer 9's root. -/
theorem rootC_own {l : List KV} {key : ByteArray} {th : Bool} {v : ByteArray} (hn : NK l) (hap : ∀ p ∈ l, pathN p.1 = pathN key → p.1 = key) (ht : Told l key th v) (hk : key.size ≤ 255) (hv : v.size ≤ 255) (h0 : th = false → v.size = 0) :
    rootC shaN key ⟨th, v, proveS key l⟩ = (rootS 256 l, true) := by
  obtain ⟨T, h1, h2⟩ := holds_own hn hap ht 256 (Nat.le_refl _)
  obtain ⟨n, h3, h4⟩ := proveS_size key l
  have hmay : An.may key ⟨th, v, proveS key l⟩ = true := by
    simp only [An.may, Bool.not_eq_true', Bool.or_eq_false_iff, decide_eq_false_iff_not, Bool.and_eq_false_iff, Bool.not_eq_false', Classical.not_not, Nat.not_lt]
    refine ⟨⟨⟨⟨hk, hv⟩, ?_⟩, by omega⟩, by omega⟩
    cases th
    · right; have := h0 rfl; omega
    · left; rfl
  have e1 : (pvS key l (256 - 256)).2.size = 0 := rfl
  have e2 : alongS key (256 - 256) l = l := rfl
  rw [e2] at h2
  rw [e1] at h1
  have ht2 : texts shaN key ⟨th, v, proveS key l⟩ = some (downL (txC shaN key ⟨th, v, proveS key l⟩) 256) := by
    unfold texts
    rw [if_pos hmay, h1]
    rfl
  unfold rootC
  rw [ht2]
  have hg : (downL (txC shaN key ⟨th, v, proveS key l⟩) 256).getD 0 ByteArray.empty = T := by
    rw [downL_getD _ (Nat.le_refl _) (by omega) (by omega)]
    exact txC_of h1
  show (shaN ((downL (txC shaN key ⟨th, v, proveS key l⟩) 256).getD 0 ByteArray.empty), true) = _
  rw [hg, h2]
set_option maxHeartbeats 8000000 in
set_option maxRecDepth 100000 in
theorem clashTrue_calls (A : Option Addr) (l : List KV) (cap : Nat) (key : ByteArray) (w : World) (hcap : l.length ≤ cap) (hl : l.length ≤ 9223372036854775807) (hr : PK.Rows w A l) :
    Calls Try.prog 7 #[.slice A l.length cap, .string key] w fun e w' => e = .returned (.bool true) ∧ Below w.heap.size w w' := by
  have AW := fun w => awake09t_calls w
  have F1 : ∀ W, PK.Rows W A l → Calls Try.prog 16 #[.slice A l.length cap, .int .i64 5] W (fun e w' => e = .returned (.bool (fewKV l 5)) ∧ Later W w') := fun W h => few05_calls A l cap 5 W hcap hl (by decide) h
  have hok1 : fewKV l 5 = true → l.length ≤ 5 ∧ ∀ q ∈ l, q.1.size ≤ 60 ∧ q.2.size ≤ 60 := fun h => fewKV_all h (by decide)
  replace AW := Lib.hid AW
  replace F1 := Lib.hid F1
  replace hr := Lib.hid hr
  have hB : Later w w := Later.refl w
  go_enter Try.func7, Try.ntmps7
  cases hf1 : fewKV l 5
  · rw [hf1] at F1
    clear hok1
    go_wp2_with (first | ((with_reducible refine (AW.out _).mono ?_); rintro e w4 ⟨rfl, hb4⟩; replace hB := Later.trans hB hb4) | ((with_reducible refine (F1.out _ (hr.out.below hB)).mono ?_); rintro e w5 ⟨rfl, hb5⟩; replace hB := Later.trans hB hb5))
    go_returns
    go_light
    exact ⟨rfl, hB⟩
  rw [hf1] at F1
  obtain ⟨hl5, hsm⟩ := hok1 hf1
  clear hok1 hf1
  by_cases hks : 60 < key.size
  · clear hsm
    go_wp2_with (first | ((with_reducible refine (AW.out _).mono ?_); rintro e w4 ⟨rfl, hb4⟩; replace hB := Later.trans hB hb4) | ((with_reducible refine (F1.out _ (hr.out.below hB)).mono ?_); rintro e w5 ⟨rfl, hb5⟩; replace hB := Later.trans hB hb5))
    go_returns
    go_light
    exact ⟨rfl, hB⟩
  have CA := fun W h => apart_calls A l cap key W hcap (by omega) (by omega) (fun p hp => by have := hsm p hp; omega) h
  replace CA := Lib.hid CA
  replace hsm := Lib.hid hsm
  go_upto_region 3 with (first | ((with_reducible refine (AW.out _).mono ?_); rintro e w4 ⟨rfl, hb4⟩; replace hB := Later.trans hB hb4) | ((with_reducible refine (F1.out _ (hr.out.below hB)).mono ?_); rintro e w5 ⟨rfl, hb5⟩; replace hB := Later.trans hB hb5))
  go_cut [28] (fun v wc => ∃ t : Bool, v = .bool (!t) ∧ (t = true → ApartL (key :: l.map (·.1))) ∧ Later w wc)
  case first =>
    go_wp2_with ((with_reducible refine (CA.out _ (hr.out.below hB)).mono ?_); rintro e wA ⟨t, rfl, hAp, hbA⟩; replace hB := Later.trans hB hbA)
    go_meet
    exact ⟨t, rfl, hAp, hB⟩
  case rest =>
    clear hB hb4 hb5 AW F1 CA
    obtain ⟨t, rfl, hAp, hB⟩ := hcut
    cases t
    · clear hAp
      go_wp2_with (fail)
      go_returns
      go_light
      exact ⟨rfl, hB⟩
    replace hAp := hAp rfl
    have hsm := hsm.out
    have M := fun w => make_calls w
    have hsz := tb_size
    have htz : (arr .u32 (K64 ++ H8.L)).size = Try.zeroCells29.size := by kernel_rfl
    have ho1 : (arr .u32 (K64 ++ H8.L)).toList.all (·.oneCell') = true := by kernel_rfl
    have hf1 : Fok (lastV l) := fok_small hsm
    have hmm := @run_makeMap Try.prog
    have KS := Maps.string_keyed (P := Try.prog) (k := 9) Try.underlying9
    have R1 : ∀ W b, MapW W b l.length (lastV l) → Calls Try.prog 19 #[.agg (arr .u32 (K64 ++ H8.L)), .map (some b)] W fun e w' => e = .returned (.string (rootS 256 (lastK l))) ∧ Later W w' := fun W b h => sRoot_calls b l.length (lastV l) (lastK l) (lastK_listed l) W h (by omega) hf1
    have PV : ∀ W b, MapW W b l.length (lastV l) → Calls Try.prog 28 #[.agg (arr .u32 (K64 ++ H8.L)), .map (some b), .string key] W fun e w' => e = .returned (.string (proveS key (lastK l))) ∧ Later W w' := fun W b h => sProve_calls key (by omega) b l.length (lastV l) (lastK l) (lastK_listed l) W h (by omega) hf1
    have hpz : (proveS key (lastK l)).size ≤ 1073741824 := by
      obtain ⟨n, h1, h2⟩ := proveS_size key (lastK l)
      omega
    have hts : (tellV (lastV l) key).size ≤ 60 := tellV_small hsm key
    have CR : ∀ W, Calls Try.prog 30 #[.func (.func 31) #[] #[], .string key, .agg #[.bool (lastV l key).isSome, .string (tellV (lastV l) key), .string (proveS key (lastK l))]] W fun e w' => e = .returned (.tuple #[.string (rootS 256 (lastK l)), .bool true]) ∧ Later W w' := by
      intro W
      have := root_calls full_hasher key ⟨(lastV l key).isSome, tellV (lastV l) key, proveS key (lastK l)⟩ (by omega) (by show (tellV (lastV l) key).size ≤ _; omega) (by show (proveS key (lastK l)).size ≤ _; omega) W
      rw [rootC_own (lastK_nk l) (apart_of hAp (by simp)) (told_of l key) (by omega) (by omega) (fun h => by
        unfold tellV
        cases hq : lastV l key with
        | none => rfl
        | some v => rw [hq] at h; cases h)] at this
      exact this
    have CP := fun W => path_calls full_hasher key (by omega) W
    have CS := fun W => shaSum_calls ((⟨#[75]⟩ : ByteArray) ++ key) (by rw [ByteArray.size_append]; show 1 + key.size ≤ _; omega) W
    generalize rootS 256 (lastK l) = RT at *
    generalize proveS key (lastK l) = PF at *
    generalize shaN ((⟨#[75]⟩ : ByteArray) ++ key) = XP at *
    generalize arr .u32 (K64 ++ H8.L) = tb at *
    clear hAp hf1
    replace hsm := Lib.hid hsm
    replace M := Lib.hid M
    replace R1 := Lib.hid R1
    replace PV := Lib.hid PV
    replace CR := Lib.hid CR
    replace CP := Lib.hid CP
    replace CS := Lib.hid CS
    go_upto_region 6 with (first | ((with_reducible refine (M.out _).mono ?_); rintro e w8 ⟨rfl, hb8⟩; replace hB := Later.trans hB hb8; have hZ := Whole.new w8 29 Try.zeroCells29; have hG8 := hB.size; replace hB := hB.alloc (.cells Try.zeroCells29 29)) | ((with_reducible apply wl_storeW (ty := 29) hZ); rfl; rfl; rfl; kernel_rfl; exact htz; exact ho1; intro wS hT hgS hzS; replace hB := below_only' hB hgS hG8))
    have hM0 := made0 wS
    have hlM : Later wS (wS.alloc (.map #[] 0)) := (Later.refl wS).alloc _
    replace hT := Later.whole hlM hT
    have hB1 := Later.trans hB hlM
    have hbw : w.heap.size ≤ wS.heap.size := hB.size
    have hGT : w8.heap.size < wS.heap.size := by have := hlM.size; have h9 := hgS.size; simp at h9; omega
    clear hb8 hgS hzS hZ htz ho1 hG8 M hB hlM
    go_upto_region 7 with (fail)
    generalize wS.alloc (.map #[] 0) = W1 at *
    generalize w8.heap.size = GT at *
    generalize wS.heap.size = b at *
    clear hmm
    have b3 : ((l.length : Int) ≤ cap) = True := eq_true (by omega)
    go_wp2_with (fail)
    go_loopg [7] (l.length + 1) (fun kg i wr => ∃ k : Nat, i = .int .i64 k ∧ k ≤ l.length ∧ kg = l.length + 1 - k ∧ Whole wr GT 29 tb ∧ MapW wr b k (lastV (l.take k)) ∧ Later w wr)
    case atStart => exact ⟨0, rfl, Nat.zero_le _, rfl, hT, hM0, hB1⟩
    case round =>
      clear hT hM0 hB1
      obtain ⟨k, rfl, hk, hkg, hT, hm, hB⟩ := hrel
      replace hkg := Lib.hid hkg
      by_cases hlt : k < l.length
      · obtain ⟨ad, rfl, hadlt, c0, c1⟩ := PK.pair_ (hr.out.below hB) hlt
        have hsx := hsm.out _ (List.getElem_mem hlt)
        have hnx := lastV_take hlt
        generalize l[k] = x at *
        obtain ⟨D, hown, hf⟩ := hm
        have hkey : keyOf Try.prog 9 (.string x.1) = some (keyL x.1) := WideMaps.keyOf_string_mk Try.underlying9 (by unfold maxLen; omega)
        have hval : plainElem (H := Unit) Try.prog 9 (.string x.2) = some (valD x.2, []) := plainElem_string Try.underlying9 (by unfold maxLen; omega)
        have hput := hf.put hown.isMap x.1 x.2
        rw [← hnx] at hput
        replace hput := Lib.hid hput
        have hkk : (k : Int) < l.length := by omega
        clear hnx hf
        go_upto_region 10 with (fail)
        refine wp_region_grow 11 83 (by kernel_rfl) (by kernel_rfl) rfl (fun w5 hl5 => ?_)
        simp only [List.take_succ_cons, List.take_zero, List.drop_succ_cons, List.drop_zero]
        generalize ha : Act.mk _ _ = a0
        have k0 : a0.eval (.tmp 0) = .slice (some ad) l.length cap := by subst ha; rfl
        have k6 : a0.eval (.tmp 6) = .map (some b) := by subst ha; rfl
        have k7 : a0.eval (.tmp 7) = .int .i64 k := by subst ha; rfl
        have ks : a0.tmps.size = 83 := by subst ha; rfl
        have ha0 := ha.symm
        clear ha
        refine wpG_move (fun a w hk => (hk 6 rfl : a.eval (.tmp 6) = a0.eval (.tmp 6)).trans k6) ?_
        refine wpG_move (fun a w hk => (hk 0 rfl : a.eval (.tmp 0) = a0.eval (.tmp 0)).trans k0) ?_
        refine wpG_move (fun a w hk => (hk 7 rfl : a.eval (.tmp 7) = a0.eval (.tmp 7)).trans k7) ?_
        apply wpG_value'
        · rfl
        · (intro a wx hlx hk K hK; have e38 : a.eval (.tmp 38) = _ := hk 38 rfl; have e39 : a.eval (.tmp 39) = _ := hk 39 rfl; simp only [execOp, e38, e39]; clear e38 e39 hk; go_simp; exact hK)
        apply wpG_value'
        · rfl
        · (intro a wx hlx hk K hK; have e40 : a.eval (.tmp 40) = _ := hk 40 rfl; simp only [execOp, e40]; clear e40 hk; go_simp; exact hK)
        refine wpG_load1 (hl5.cell c0) Try.underlying9 rfl (fun a w hk => hk 41 rfl) ?_
        refine wpG_move (fun a w hk => (hk 0 rfl : a.eval (.tmp 0) = a0.eval (.tmp 0)).trans k0) ?_
        refine wpG_move (fun a w hk => (hk 7 rfl : a.eval (.tmp 7) = a0.eval (.tmp 7)).trans k7) ?_
        apply wpG_value'
        · rfl
        · (intro a wx hlx hk K hK; have e43 : a.eval (.tmp 43) = _ := hk 43 rfl; have e44 : a.eval (.tmp 44) = _ := hk 44 rfl; simp only [execOp, e43, e44]; clear e43 e44 hk; go_simp; exact hK)
        apply wpG_value'
        · rfl
        · (intro a wx hlx hk K hK; have e45 : a.eval (.tmp 45) = _ := hk 45 rfl; simp only [execOp, e45]; clear e45 hk; go_simp; exact hK)
        refine wpG_load1 (hl5.cell c1) Try.underlying9 rfl (fun a w hk => hk 46 rfl) ?_
        refine wpG_nil (fun w5' hl5' => ?_)
        refine fin_is ?_
        refine fin_is ?_
        refine fin_is ?_
        refine fin_is ?_
        refine fin_is ?_
        refine fin_is ?_
        refine fin_is ?_
        refine fin_is ?_
        refine fin_is ?_
        refine fin_is ?_
        refine fin_is ?_
        refine fin_nil ?_
        have hlq := hl5.trans hl5'
        have hown5 := ownsMap_later hown hlq
        have hB5 := Later.trans hB hlq
        have hT5 := Later.whole hlq hT
        refine wpList_mapUpdate_own _ rfl _ _ _ 36 rfl 9 9 KS Try.underlying36 _ b k D (by simp [eval_put, put_size, put_none, ks, k6]) hown5 (by unfold maxLen; omega) (.string x.1) (.string x.2) (keyL x.1) (by simp [eval_put, put_size, put_none, ks]) (by simp [eval_put, put_size, put_none, ks]) hkey (valD x.2) [] hval (fun w6 hown6 hg6 => ?_)
        have hB6 : Later w w6 := below_only' hB5 hg6 hbw
        have hT6 := Whole.only hT5 hg6 (fun q => by have := Option.some.inj q; omega)
        subst ha0
        clear k0 k6 k7 ks hown5 hB5 hT5 hlq hl5 hl5' hown
        simp only [Act.put, List.setIfInBounds_toArray, List.set_cons_succ, List.set_cons_zero]
        go_wp2_with (fail)
        go_roundg (l.length - k)
        case measure => go_light; rw [hkg.out]; omega
        case rel => go_light; exact ⟨k + 1, by go_num, by omega, by omega, hT6, ⟨_, hown6, hput.out⟩, hB6⟩
      · obtain rfl : k = l.length := by omega
        rw [List.take_length] at hm
        have hlook := hm.lookOk key (by omega)
        generalize tellV (lastV l) key = vx at *
        generalize hth : (lastV l key).isSome = th at *
        clear hth
        go_upto_region 13 with (first | ((with_reducible apply wl_loadW (ty := 29) hT Try.underlying29); rfl; rfl; rfl; exact hsz) | ((with_reducible refine (PV.out _ _ hm).mono ?_); rintro e wQ ⟨rfl, hbQ⟩; replace hB := Later.trans hB hbQ; replace hT := Later.whole hbQ hT; replace hm := hm.later hbQ) | ((with_reducible refine (CR.out _).mono ?_); rintro e wC ⟨rfl, hbC⟩; replace hB := Later.trans hB hbC; replace hT := Later.whole hbC hT; replace hm := hm.later hbC))
        have hks1 : (9223372036854775807 < 1 + key.size) = False := eq_false (by omega)
        clear hlook
        refine wp_region_grow 17 83 (by kernel_rfl) (by kernel_rfl) rfl (fun w9 hl9 => ?_)
        simp only [List.take_succ_cons, List.take_zero, List.drop_succ_cons, List.drop_zero]
        generalize ha : Act.mk _ _ = a0
        have k1 : a0.eval (.tmp 1) = .string key := by subst ha; rfl
        have k5 : a0.eval (.tmp 5) = .pointer (some ⟨GT, 0, none⟩) := by subst ha; rfl
        have k6 : a0.eval (.tmp 6) = .map (some b) := by subst ha; rfl
        have k10 : a0.eval (.tmp 10) = .string RT := by subst ha; rfl
        have k11 : a0.eval (.tmp 11) = .bool true := by subst ha; rfl
        have ks : a0.tmps.size = 83 := by subst ha; rfl
        have ha0 := ha.symm
        clear ha
        refine wpG_move (fun a w hk => (hk 11 rfl : a.eval (.tmp 11) = a0.eval (.tmp 11)).trans k11) ?_
        refine wpG_move (fun a w hk => hk 66 rfl) ?_
        refine wpG_guard (fun a w hl hk => by have e : a.eval (.tmp 67) = .bool true := hk 67 rfl; rw [wanted_of rfl rfl e]; rfl) ?_
        refine wpG_move (fun a w hk => (hk 10 rfl : a.eval (.tmp 10) = a0.eval (.tmp 10)).trans k10) ?_
        refine wpG_guard (fun a w hl hk => by have e : a.eval (.tmp 67) = .bool true := hk 67 rfl; rw [wanted_of rfl rfl e]; rfl) ?_
        refine wpG_loadW (hl9.whole hT) Try.underlying29 rfl (hsz) (fun a w hk => (hk 5 rfl : a.eval (.tmp 5) = a0.eval (.tmp 5)).trans k5) ?_
        refine wpG_guard (fun a w hl hk => by have e : a.eval (.tmp 67) = .bool true := hk 67 rfl; rw [wanted_of rfl rfl e]; rfl) ?_
        refine wpG_move (fun a w hk => (hk 6 rfl : a.eval (.tmp 6) = a0.eval (.tmp 6)).trans k6) ?_
        refine wpG_guard (fun a w hl hk => by have e : a.eval (.tmp 67) = .bool true := hk 67 rfl; rw [wanted_of rfl rfl e]; rfl) ?_
        refine wpG_call _ _ Try.func19 (by kernel_rfl) (by kernel_rfl) (fun W hW => R1.out W b (hm.later (hl9.trans hW))) (fun a w hk => by have e69 : a.eval (.tmp 69) = _ := hk 69 rfl; have e70 : a.eval (.tmp 70) = _ := hk 70 rfl; simp [e69, e70]) ?_
        refine wpG_guard (fun a w hl hk => by have e : a.eval (.tmp 67) = .bool true := hk 67 rfl; rw [wanted_of rfl rfl e]; rfl) ?_
        apply wpG_value'
        · rfl
        · (intro a wx hlx hk K hK; have e68 : a.eval (.tmp 68) = _ := hk 68 rfl; have e71 : a.eval (.tmp 71) = _ := hk 71 rfl; simp only [execOp, e68, e71]; clear e68 e71 hk; go_simp; exact hK)
        apply wpG_value'
        · rfl
        · (intro a wx hlx hk K hK; have e67 : a.eval (.tmp 67) = _ := hk 67 rfl; have e72 : a.eval (.tmp 72) = _ := hk 72 rfl; simp only [execOp, e67, e72]; clear e67 e72 hk; go_simp; exact hK)
        refine wpG_move (fun a w hk => hk 73 rfl) ?_
        refine wpG_guard (fun a w hl hk => by have e : a.eval (.tmp 74) = .bool true := hk 74 rfl; rw [wanted_of rfl rfl e]; rfl) ?_
        refine wpG_move (fun a w hk => (hk 1 rfl : a.eval (.tmp 1) = a0.eval (.tmp 1)).trans k1) ?_
        refine wpG_guard (fun a w hl hk => by have e : a.eval (.tmp 74) = .bool true := hk 74 rfl; rw [wanted_of rfl rfl e]; rfl) ?_
        refine wpG_call _ _ Try.func32 (by kernel_rfl) (by kernel_rfl) (fun W _ => CP.out W) (fun a w hk => by have e75 : a.eval (.tmp 75) = _ := hk 75 rfl; simp [e75] <;> rfl) ?_
        refine wpG_guard (fun a w hl hk => by have e : a.eval (.tmp 74) = .bool true := hk 74 rfl; rw [wanted_of rfl rfl e]; rfl) ?_
        refine wpG_loadW (hl9.whole hT) Try.underlying29 rfl (hsz) (fun a w hk => (hk 5 rfl : a.eval (.tmp 5) = a0.eval (.tmp 5)).trans k5) ?_
        refine wpG_guard (fun a w hl hk => by have e : a.eval (.tmp 74) = .bool true := hk 74 rfl; rw [wanted_of rfl rfl e]; rfl) ?_
        refine wpG_move (fun a w hk => (hk 1 rfl : a.eval (.tmp 1) = a0.eval (.tmp 1)).trans k1) ?_
        refine wpG_guard (fun a w hl hk => by have e : a.eval (.tmp 74) = .bool true := hk 74 rfl; rw [wanted_of rfl rfl e]; rfl) ?_
        apply wpG_value'
        · rfl
        · (intro a wx hlx hk K hK; have e78 : a.eval (.tmp 78) = _ := hk 78 rfl; simp only [execOp, e78]; clear e78 hk; go_simp; exact hK)
        refine wpG_guard (fun a w hl hk => by have e : a.eval (.tmp 74) = .bool true := hk 74 rfl; rw [wanted_of rfl rfl e]; rfl) ?_
        refine wpG_call _ _ Try.func33 (by kernel_rfl) (by kernel_rfl) (fun W _ => CS.out W) (fun a w hk => by have e77 : a.eval (.tmp 77) = _ := hk 77 rfl; have e79 : a.eval (.tmp 79) = _ := hk 79 rfl; simp [e77, e79]) ?_
        refine wpG_guard (fun a w hl hk => by have e : a.eval (.tmp 74) = .bool true := hk 74 rfl; rw [wanted_of rfl rfl e]; rfl) ?_
        apply wpG_value'
        · rfl
        · (intro a wx hlx hk K hK; have e76 : a.eval (.tmp 76) = _ := hk 76 rfl; have e80 : a.eval (.tmp 80) = _ := hk 80 rfl; simp only [execOp, e76, e80]; clear e76 e80 hk; go_simp; exact hK)
        apply wpG_value'
        · rfl
        · (intro a wx hlx hk K hK; have e74 : a.eval (.tmp 74) = _ := hk 74 rfl; have e81 : a.eval (.tmp 81) = _ := hk 81 rfl; simp only [execOp, e74, e81]; clear e74 e81 hk; go_simp; exact hK)
        refine wpG_nil (fun w9' hl9' => ?_)
        refine fin_is ?_
        refine fin_is ?_
        refine fin_is ?_
        refine fin_is ?_
        refine fin_is ?_
        refine fin_is ?_
        refine fin_is ?_
        refine fin_is ?_
        refine fin_is ?_
        refine fin_is ?_
        refine fin_is ?_
        refine fin_is ?_
        refine fin_is ?_
        refine fin_is ?_
        refine fin_is ?_
        refine fin_is ?_
        refine fin_is ?_
        refine fin_nil ?_
        subst ha0
        clear k1 k5 k6 k10 k11 ks
        simp only [Act.put, List.setIfInBounds_toArray, List.set_cons_succ, List.set_cons_zero]
        go_wp2_with (fail)
        go_returns
        go_light
        exact ⟨by simp, Later.trans hB (hl9.trans hl9')⟩
end Go.Proofs.Ytknjbkbbhgjnlaa
