/- The law SmtProves, walked. No conditions. -/
import Derived.Test.YtknjbkbbhgjnlaaSmt22
namespace Go.Proofs.Ytknjbkbbhgjnlaa
open Go.RowKit
set_option linter.unusedVariables false
set_option linter.unusedSimpArgs false
theorem PK.block2 {W : World} {g : Nat} {T : TypeId} {p : KV} (h : Whole W g T (PairV p).toArray) : PK.Rows W (some ⟨g, 0, none⟩) [p] :=
  ⟨by simp, fun _ => ⟨_, rfl, h.lt, fun j x hj => by
    match j, hj with
    | 0, hj =>
      simp at hj
      subst hj
      refine ⟨PairV p, PK.K_mk _ _, fun i u hu => ?_⟩
      have ha : (⟨g, 0, none⟩ : Addr).add (0 * PK.sz + i) = ⟨g, i, none⟩ := by rw [Nat.zero_mul, Nat.zero_add]; unfold Addr.add; split <;> simp_all
      rw [ha, h.cell i]
      simpa using hu⟩⟩
theorem tell_step {f : ByteArray → Option ByteArray} {k v x : ByteArray} : (setF f k v x).isSome = (decide (k = x) || (f x).isSome) ∧ tellV (setF f k v) x = if k = x then v else tellV f x := by
  unfold setF tellV
  by_cases h : x = k
  · subst h; simp
  · have h' : ¬ k = x := fun e => h e.symm
    simp [h, h']
set_option maxHeartbeats 8000000 in
set_option maxRecDepth 100000 in
theorem smtProves_calls (A : Option Addr) (l : List KV) (cap : Nat) (p : KV) (w : World) (hcap : l.length ≤ cap) (hl : l.length ≤ 9223372036854775807) (hr : PK.Rows w A l) :
    Calls Try.prog 6 #[.slice A l.length cap, .agg (PairV p).toArray] w fun e w' => e = .returned (.bool true) ∧ Below w.heap.size w w' := by
  have AW := fun w => awake05_calls w
  have F1 : ∀ W, PK.Rows W A l → Calls Try.prog 16 #[.slice A l.length cap, .int .i64 8] W (fun e w' => e = .returned (.bool (fewKV l 8)) ∧ Later W w') := fun W h => few05_calls A l cap 8 W hcap hl (by decide) h
  have F2 : ∀ W (g : Nat), PK.Rows W (some ⟨g, 0, none⟩) [p] → Calls Try.prog 16 #[.slice (some ⟨g, 0, none⟩) 1 1, .int .i64 1] W (fun e w' => e = .returned (.bool (fewKV [p] 1)) ∧ Later W w') := fun W g h => few05_calls (some ⟨g, 0, none⟩) [p] 1 1 W (by simp) (by simp) (by decide) h
  have hok1 : fewKV l 8 = true → l.length ≤ 8 ∧ ∀ q ∈ l, q.1.size ≤ 60 ∧ q.2.size ≤ 60 := fun h => fewKV_all h (by decide)
  have hok2 : fewKV [p] 1 = true → p.1.size ≤ 60 ∧ p.2.size ≤ 60 := fun h => (fewKV_all h (by decide)).2 p (by simp)
  have hP := Whole.new w 33 (PairV p).toArray
  have hB : Later w (w.alloc (.cells (PairV p).toArray 33)) := (Later.refl w).alloc _
  replace AW := Lib.hid AW
  replace F1 := Lib.hid F1
  replace F2 := Lib.hid F2
  replace hr := Lib.hid hr
  go_enter Try.func6, Try.ntmps6
  go_upto_region 1 with (fail)
  generalize w.alloc (.cells (PairV p).toArray 33) = W0 at *
  cases hf1 : fewKV l 8
  · rw [hf1] at F1
    clear hok1 hok2
    go_wp2_with (first | ((with_reducible refine (AW.out _).mono ?_); rintro e w4 ⟨rfl, hb4⟩; replace hB := Later.trans hB hb4; replace hP := Later.whole hb4 hP) | ((with_reducible refine (F1.out _ (hr.out.below hB)).mono ?_); rintro e w5 ⟨rfl, hb5⟩; replace hB := Later.trans hB hb5; replace hP := Later.whole hb5 hP; have hB6 := Later.trans hB ((Later.refl w5).alloc (.cells (PairV p).toArray 33)); have hP6 := hP.alloc (.cells (PairV p).toArray 33); have hQ6 := PK.block2 (Whole.new w5 33 (PairV p).toArray)))
    go_returns
    go_light
    exact ⟨rfl, hB⟩
  cases hf2 : fewKV [p] 1
  · rw [hf1] at F1
    rw [hf2] at F2
    clear hok1 hok2
    go_wp2_with (first | ((with_reducible refine (AW.out _).mono ?_); rintro e w4 ⟨rfl, hb4⟩; replace hB := Later.trans hB hb4; replace hP := Later.whole hb4 hP) | ((with_reducible refine (F1.out _ (hr.out.below hB)).mono ?_); rintro e w5 ⟨rfl, hb5⟩; replace hB := Later.trans hB hb5; replace hP := Later.whole hb5 hP; have hB6 := Later.trans hB ((Later.refl w5).alloc (.cells (PairV p).toArray 33)); have hP6 := hP.alloc (.cells (PairV p).toArray 33); have hQ6 := PK.block2 (Whole.new w5 33 (PairV p).toArray)) | ((with_reducible refine (F2.out _ _ hQ6).mono ?_); rintro e w7 ⟨rfl, hb7⟩; replace hB := Later.trans hB6 hb7; replace hP := Later.whole hb7 hP6) | (first | ((with_reducible apply wl_loadW (ty := 33) hP Try.underlying33); rfl; rfl; rfl; kernel_rfl) | ((with_reducible apply wl_loadW (ty := 33) (hP.alloc _) Try.underlying33); rfl; rfl; rfl; kernel_rfl) | ((with_reducible apply wl_loadW (ty := 33) ((hP.alloc _).alloc _) Try.underlying33); rfl; rfl; rfl; kernel_rfl)))
    go_returns
    go_light
    exact ⟨rfl, hB⟩
  rw [hf1] at F1
  rw [hf2] at F2
  obtain ⟨hl5, hsm⟩ := hok1 hf1
  obtain ⟨hp1, hp2⟩ := hok2 hf2
  clear hok1 hok2 hf1 hf2
  go_upto_region 3 with (first | ((with_reducible refine (AW.out _).mono ?_); rintro e w4 ⟨rfl, hb4⟩; replace hB := Later.trans hB hb4; replace hP := Later.whole hb4 hP) | ((with_reducible refine (F1.out _ (hr.out.below hB)).mono ?_); rintro e w5 ⟨rfl, hb5⟩; replace hB := Later.trans hB hb5; replace hP := Later.whole hb5 hP; have hB6 := Later.trans hB ((Later.refl w5).alloc (.cells (PairV p).toArray 33)); have hP6 := hP.alloc (.cells (PairV p).toArray 33); have hQ6 := PK.block2 (Whole.new w5 33 (PairV p).toArray)) | ((with_reducible refine (F2.out _ _ hQ6).mono ?_); rintro e w7 ⟨rfl, hb7⟩; replace hB := Later.trans hB6 hb7; replace hP := Later.whole hb7 hP6) | (first | ((with_reducible apply wl_loadW (ty := 33) hP Try.underlying33); rfl; rfl; rfl; kernel_rfl) | ((with_reducible apply wl_loadW (ty := 33) (hP.alloc _) Try.underlying33); rfl; rfl; rfl; kernel_rfl) | ((with_reducible apply wl_loadW (ty := 33) ((hP.alloc _).alloc _) Try.underlying33); rfl; rfl; rfl; kernel_rfl)))
  clear AW F1 F2
  have CA := fun W h => apart_calls A l cap p.1 W hcap (by omega) (by omega) (fun p hp => by have := hsm p hp; omega) h
  have M := fun w => make_calls w
  have hsz := tb_size
  have htz : (arr .u32 (K64 ++ H8.L)).size = Try.zeroCells29.size := by kernel_rfl
  have ho1 : (arr .u32 (K64 ++ H8.L)).toList.all (·.oneCell') = true := by kernel_rfl
  have CE := fun w => empty05_calls w
  have hi7 := ee_info
  have hone := sarr_one (downL (emp shaN) 256)
  have hi9 : (Try.prog.info? 41).map (·.size) = some (sarr e257).size := by rw [sarr_size, e257_length]; kernel_rfl
  have hi8 : (sarr (downL (emp shaN) 256)).size = (sarr e257).size := by rw [ee_size, sarr_size, e257_length]
  have hz := zero257s
  have CL := fun W h => last_calls A l cap W hcap (by omega) h
  have hLn := lastK_len l
  have hLm := lastK_mem l
  have hLk := lastK_nk l
  have hsmL : ∀ q ∈ lastK l, q.1.size ≤ 60 ∧ q.2.size ≤ 60 := fun q hq => hsm q (hLm q hq)
  have CPA := fun (A3 : Option Addr) (c3 : Nat) W h1 h2 => paths05_calls A3 (lastK l) c3 W h1 (by omega) (fun q hq => by have := (hsm q (hLm q hq)).1; omega) h2
  have hokL : KVok (lastK l) := fun q hq => by have := hsm q (hLm q hq); omega
  have CR := fun (A3 P3 : Option Addr) (c3 p3 : Nat) W h1 h2 h3 h4 => root05_calls 256 (lastK l) A3 P3 c3 p3 W (Nat.le_refl _) (by omega) hokL h1 h2 h3 h4
  have CV := fun (A3 : Option Addr) (c3 : Nat) W h1 h2 => prove05_calls p.1 (lastK l) A3 c3 W (by omega) (by omega) hokL h1 h2
  have MD1 := fun W h => made_calls A l cap W hcap (by omega) (fun p hp => by have := hsm p hp; omega) h
  have hf1 : Fok (lastV l) := fok_small hsm
  have R1 : ∀ W b, MapW W b l.length (lastV l) → Calls Try.prog 19 #[.agg (arr .u32 (K64 ++ H8.L)), .map (some b)] W fun e w' => e = .returned (.string (rootS 256 (lastK l))) ∧ Later W w' := fun W b h => sRoot_calls b l.length (lastV l) (lastK l) (lastK_listed l) W h (by omega) hf1
  have PV : ∀ W b, MapW W b l.length (lastV l) → Calls Try.prog 28 #[.agg (arr .u32 (K64 ++ H8.L)), .map (some b), .string p.1] W fun e w' => e = .returned (.string (proveS p.1 (lastK l))) ∧ Later W w' := fun W b h => sProve_calls p.1 (by omega) b l.length (lastV l) (lastK l) (lastK_listed l) W h (by omega) hf1
  have hpz : (proveS p.1 (lastK l)).size ≤ 1073741824 := by
    obtain ⟨n, h1, h2⟩ := proveS_size p.1 (lastK l)
    omega
  have hts : (tellV (lastV (lastK l)) p.1).size ≤ 60 := tellV_small hsmL p.1
  have VY0 : ApartL (p.1 :: l.map (·.1)) → ∀ W, Calls Try.prog 25 #[.agg (arr .u32 (K64 ++ H8.L)), .string (rootS 256 (lastK l)), .string p.1, .string (tellV (lastV (lastK l)) p.1), .bool (lastV (lastK l) p.1).isSome, .string (proveS p.1 (lastK l))] W fun e w' => e = .returned (.bool true) ∧ Later W w' := by
    intro hAp W
    have := verify_calls (rootS 256 (lastK l)) p.1 (tellV (lastV (lastK l)) p.1) (proveS p.1 (lastK l)) (lastV (lastK l) p.1).isSome (by omega) (by omega) hpz W
    have ht := told_of (lastK l) p.1
    rw [lastK_same hLk] at ht
    rw [vfy_own hLk (apart_of hAp (by simp)) ht] at this
    exact this
  have V2 := fun W => verify_calls (rootS 256 (lastK l)) p.1 p.2 (proveS p.1 (lastK l)) true (by omega) (by omega) hpz W
  have H2 := fun W => holds_calls (rootS 256 (lastK l)) p.1 p.2 (proveS p.1 (lastK l)) true (by omega) (by omega) hpz W
  have hls : (lastK l).length ≤ 8 := Nat.le_trans hLn hl5
  generalize vfy (rootS 256 (lastK l)) p.1 true p.2 (proveS p.1 (lastK l)) = vf at *
  generalize rootS 256 (lastK l) = RT at *
  generalize proveS p.1 (lastK l) = PF at *
  generalize lastK l = ls at *
  generalize arr .u32 (K64 ++ H8.L) = tb at *
  generalize sarr (downL (emp shaN) 256) = EE at *
  replace CA := Lib.hid CA
  replace M := Lib.hid M
  replace CE := Lib.hid CE
  replace CL := Lib.hid CL
  replace CPA := Lib.hid CPA
  replace CR := Lib.hid CR
  replace CV := Lib.hid CV
  replace MD1 := Lib.hid MD1
  replace R1 := Lib.hid R1
  replace PV := Lib.hid PV
  replace VY0 := Lib.hid VY0
  replace V2 := Lib.hid V2
  replace H2 := Lib.hid H2
  clear hLm hokL hsm hLn hf1 hLk hsmL
  go_upto_region 6 with (first | ((with_reducible refine (M.out _).mono ?_); rintro e w8 ⟨rfl, hb8⟩; replace hB := Later.trans hB hb8; replace hP := Later.whole hb8 hP; have hZ := Whole.new w8 29 Try.zeroCells29; have hG8 := hB.size; have hL8 := hP.lt; replace hB := hB.alloc (.cells Try.zeroCells29 29); replace hP := hP.alloc (.cells Try.zeroCells29 29)) | ((with_reducible apply wl_storeW (ty := 29) hZ); rfl; rfl; rfl; kernel_rfl; exact htz; exact ho1; intro wS hT hgS hzS; replace hB := below_only' hB hgS hG8; replace hP := Whole.only hP hgS (fun q => by have := Option.some.inj q; omega)) | ((with_reducible refine (CE.out _).mono ?_); rintro e wE ⟨rfl, hbE⟩; replace hB := Later.trans hB hbE; replace hP := Later.whole hbE hP; replace hT := Later.whole hbE hT; have hE0 := Whole.new wE 41 (sarr e257); have hGE := hB.size; have hLE := hP.lt; have hTE := hT.lt; replace hB := Below.alloc hB hGE (.cells (sarr e257) 41); replace hP := hP.alloc (.cells (sarr e257) 41); replace hT := hT.alloc (.cells (sarr e257) 41)) | ((with_reducible apply wl_storeW (ty := 41) hE0); rfl; rfl; rfl; exact hi9; exact hi8; exact hone; intro wF hE hgF hzF; replace hB := below_only' hB hgF hGE; replace hP := Whole.only hP hgF (fun q => by have := Option.some.inj q; omega); replace hT := Whole.only hT hgF (fun q => by have := Option.some.inj q; omega)) | ((with_reducible refine (MD1.out _ (hr.out.below hB)).mono ?_); rintro e wD ⟨b, rfl, -, hm, hbD⟩; replace hB := Later.trans hB hbD; replace hP := Later.whole hbD hP; replace hT := Later.whole hbD hT; replace hE := Later.whole hbD hE))
  clear hbE hb8 hgS hzS hgF hzF hE0 hZ hz hi8 hi9 hone htz ho1 M CE hb4 hb5 hb7 hB6 hP6 hQ6 MD1 hbD
  have hgT : w.heap.size < w8.heap.size := hL8
  have hgE := hLE
  clear hG8 hL8 hGE hLE hTE
  generalize w8.heap.size = GT at *
  generalize wE.heap.size = GE at *
  have p0 := hP.cell 0
  go_cut [36] (fun v wc => ∃ t : Bool, v = .bool (!t) ∧ (t = true → ApartL (p.1 :: l.map (·.1))) ∧ Later wD wc)
  case first =>
    go_wp2_with ((with_reducible refine (CA.out _ (hr.out.below hB)).mono ?_); rintro e wA ⟨t, rfl, hAp, hbA⟩)
    go_meet
    exact ⟨t, rfl, hAp, hbA⟩
  case rest =>
    clear CA
    obtain ⟨t, rfl, hAp, hbA⟩ := hcut
    replace hB := Later.trans hB hbA
    cases t
    · clear hAp
      go_wp2_with (fail)
      go_returns
      go_light
      exact ⟨rfl, hB⟩
    have VY := VY0.out (hAp rfl)
    replace hP := Later.whole hbA hP
    replace hT := Later.whole hbA hT
    replace hE := Later.whole hbA hE
    replace hm := hm.later hbA
    replace p0 := Later.cell hbA p0
    replace VY := Lib.hid VY
    clear hAp VY0 hbA
    go_upto_region 9 with (((with_reducible refine (CL.out _ (hr.out.below hB)).mono ?_); rintro e wL ⟨⟨vL, rfl, hvL⟩, hbL⟩; replace hB := Later.trans hB hbL; replace hP := Later.whole hbL hP; replace hT := Later.whole hbL hT; replace hE := Later.whole hbL hE; replace hm := hm.later hbL; replace p0 := Later.cell hbL p0))
    obtain ⟨A3, c3, rfl, hc3, hR3⟩ := hvL.rows PK rfl (fun _ => rfl) PK.K_mk (by omega)
    clear hvL hbL CL
    go_upto_region 11 with (first | ((with_reducible apply wl_loadW (ty := 29) hT Try.underlying29); rfl; rfl; rfl; exact hsz) | ((with_reducible refine (R1.out _ _ hm).mono ?_); rintro e wR ⟨rfl, hbR⟩; replace hB := Later.trans hB hbR; replace hP := Later.whole hbR hP; replace hT := Later.whole hbR hT; replace hE := Later.whole hbR hE; replace hm := hm.later hbR; replace p0 := Later.cell hbR p0; replace hR3 := hR3.below hbR) | ((with_reducible refine (PV.out _ _ hm).mono ?_); rintro e wQ ⟨rfl, hbQ⟩; replace hB := Later.trans hB hbQ; replace hP := Later.whole hbQ hP; replace hT := Later.whole hbQ hT; replace hE := Later.whole hbQ hE; replace p0 := Later.cell hbQ p0; replace hR3 := hR3.below hbQ))
    clear hm hbR hbQ R1 PV
    refine wp_region_grow 16 112 (by kernel_rfl) (by kernel_rfl) rfl (fun w9 hl9 => ?_)
    simp only [List.take_succ_cons, List.take_zero, List.drop_succ_cons, List.drop_zero]
    generalize ha : Act.mk _ _ = a0
    have k3 : a0.eval (.tmp 3) = .pointer (some ⟨w.heap.size, 0, none⟩) := by subst ha; rfl
    have k6 : a0.eval (.tmp 6) = .pointer (some ⟨GE, 0, none⟩) := by subst ha; rfl
    have k8 : a0.eval (.tmp 8) = .slice A3 ls.length c3 := by subst ha; rfl
    have k9 : a0.eval (.tmp 9) = .string RT := by subst ha; rfl
    have k10 : a0.eval (.tmp 10) = .string PF := by subst ha; rfl
    have ks : a0.tmps.size = 112 := by subst ha; rfl
    have ha0 := ha.symm
    clear ha
    refine wpG_move (fun a w hk => (hk 9 rfl : a.eval (.tmp 9) = a0.eval (.tmp 9)).trans k9) ?_
    refine wpG_loadW (hl9.whole hE) Try.underlying41 rfl (hi7) (fun a w hk => (hk 6 rfl : a.eval (.tmp 6) = a0.eval (.tmp 6)).trans k6) ?_
    refine wpG_move (fun a w hk => (hk 8 rfl : a.eval (.tmp 8) = a0.eval (.tmp 8)).trans k8) ?_
    refine wpG_move (fun a w hk => (hk 8 rfl : a.eval (.tmp 8) = a0.eval (.tmp 8)).trans k8) ?_
    refine wpG_callF (TextRow 9 0 (ls.map fun q => pathN q.1)) (TextRow.later) Try.func23 (by kernel_rfl) (by kernel_rfl) (fun a wx hlx hk => by have e50 : a.eval (.tmp 50) = _ := hk 50 rfl; simp only [List.map_toArray, List.map_cons, List.map_nil, e50]; exact ((CPA.out A3 c3 wx hc3 (hR3.below (hl9.trans hlx))).mono fun e w' hh => by obtain ⟨⟨v, he, hv⟩, hb⟩ := hh; exact ⟨v, he, TextRow.base hv (Nat.zero_le _), hb⟩)) ?_
    refine wpG_callF (Is (.string RT)) (fun _ _ _ _ h => h) Try.func22 (by kernel_rfl) (by kernel_rfl) (fun a wx hlx hk => by have e1 : a.eval (.tmp 48) = _ := hk 48 rfl; have e2 : a.eval (.tmp 49) = _ := hk 49 rfl; have f1 : TextRow 9 0 (ls.map fun q => pathN q.1) (a.eval (.tmp 51)) wx := hk 51 rfl; obtain ⟨A6, c6, e6, hc6, hR6⟩ := TextRow.rows f1 (by rw [List.length_map]; omega); rw [List.length_map] at e6 hc6; simp only [List.map_toArray, List.map_cons, List.map_nil, e1, e2, e6]; exact (CR.out A3 A6 c3 c6 wx hc3 hc6 (hR3.below (hl9.trans hlx)) hR6).mono fun e w' h => ⟨_, h.1, rfl, h.2⟩) ?_
    apply wpG_value'
    · rfl
    · (intro a wx hlx hk K hK; have e47 : a.eval (.tmp 47) = _ := hk 47 rfl; have e52 : a.eval (.tmp 52) = _ := hk 52 rfl; simp only [execOp, e47, e52]; clear e47 e52 hk; go_simp; exact hK)
    refine wpG_move (fun a w hk => hk 53 rfl) ?_
    refine wpG_guard (fun a w hl hk => by have e : a.eval (.tmp 54) = .bool false := hk 54 rfl; rw [wanted_of rfl rfl e]; rfl) ?_
    refine wpG_move (fun a w hk => (hk 10 rfl : a.eval (.tmp 10) = a0.eval (.tmp 10)).trans k10) ?_
    refine wpG_guard (fun a w hl hk => by have e : a.eval (.tmp 54) = .bool false := hk 54 rfl; rw [wanted_of rfl rfl e]; rfl) ?_
    refine wpG_loadW (hl9.whole hE) Try.underlying41 rfl (hi7) (fun a w hk => (hk 6 rfl : a.eval (.tmp 6) = a0.eval (.tmp 6)).trans k6) ?_
    refine wpG_guard (fun a w hl hk => by have e : a.eval (.tmp 54) = .bool false := hk 54 rfl; rw [wanted_of rfl rfl e]; rfl) ?_
    refine wpG_move (fun a w hk => (hk 8 rfl : a.eval (.tmp 8) = a0.eval (.tmp 8)).trans k8) ?_
    refine wpG_guard (fun a w hl hk => by have e : a.eval (.tmp 54) = .bool false := hk 54 rfl; rw [wanted_of rfl rfl e]; rfl) ?_
    apply wpG_value'
    · rfl
    · (intro a wx hlx hk K hK; have e3 : a.eval (.tmp 3) = _ := (hk 3 rfl : a.eval (.tmp 3) = a0.eval (.tmp 3)).trans k3; simp only [execOp, e3]; clear e3 hk; go_simp; exact hK)
    refine wpG_guard (fun a w hl hk => by have e : a.eval (.tmp 54) = .bool false := hk 54 rfl; rw [wanted_of rfl rfl e]; rfl) ?_
    refine wpG_load1 (hl9.cell p0) Try.underlying9 rfl (fun a w hk => hk 58 rfl) ?_
    refine wpG_guard (fun a w hl hk => by have e : a.eval (.tmp 54) = .bool false := hk 54 rfl; rw [wanted_of rfl rfl e]; rfl) ?_
    refine wpG_call _ _ Try.func24 (by kernel_rfl) (by kernel_rfl) (fun W hW => CV.out A3 c3 W hc3 (hR3.below (hl9.trans hW))) (fun a w hk => by have e56 : a.eval (.tmp 56) = _ := hk 56 rfl; have e57 : a.eval (.tmp 57) = _ := hk 57 rfl; have e59 : a.eval (.tmp 59) = _ := hk 59 rfl; simp [e56, e57, e59]) ?_
    refine wpG_guard (fun a w hl hk => by have e : a.eval (.tmp 54) = .bool false := hk 54 rfl; rw [wanted_of rfl rfl e]; rfl) ?_
    apply wpG_value'
    · rfl
    · (intro a wx hlx hk K hK; have e55 : a.eval (.tmp 55) = _ := hk 55 rfl; have e60 : a.eval (.tmp 60) = _ := hk 60 rfl; simp only [execOp, e55, e60]; clear e55 e60 hk; go_simp; exact hK)
    apply wpG_value'
    · rfl
    · (intro a wx hlx hk K hK; have e54 : a.eval (.tmp 54) = _ := hk 54 rfl; have e61 : a.eval (.tmp 61) = _ := hk 61 rfl; simp only [execOp, e54, e61]; clear e54 e61 hk; go_simp; exact hK)
    refine wpG_nil (fun w9' hl9' => ?_)
    refine fin_is ?_
    refine fin_is ?_
    refine fin_is ?_
    refine fin_is ?_
    refine fin_some (fun v51 hv51 => ?_)
    refine fin_is ?_
    refine fin_is ?_
    refine fin_is ?_
    refine fin_is ?_
    refine fin_is ?_
    refine fin_is ?_
    refine fin_is ?_
    refine fin_is ?_
    refine fin_is ?_
    refine fin_is ?_
    refine fin_is ?_
    refine fin_nil ?_
    subst ha0
    clear k3 k6 k8 k9 k10 ks hv51
    simp only [Act.put, List.setIfInBounds_toArray, List.set_cons_succ, List.set_cons_zero]
    have hlq := hl9.trans hl9'
    replace hB := Later.trans hB hlq
    replace hP := Later.whole hlq hP
    replace hT := Later.whole hlq hT
    replace hE := Later.whole hlq hE
    replace hR3 := hR3.below hlq
    clear p0
    have p0 := hP.cell 0
    have p1 := hP.cell 1
    generalize w9' = W9 at *
    clear hl9 hl9' hlq CPA CR CV
    have b3 : ((ls.length : Int) ≤ c3) = True := eq_true (by omega)
    go_wp2_with (fail)
    go_loopg [11, 12, 13] (ls.length + 1) (fun kg th vv i wr => ∃ k : Nat, i = .int .i64 k ∧ k ≤ ls.length ∧ kg = ls.length + 1 - k ∧ th = .bool (lastV (ls.take k) p.1).isSome ∧ vv = .string (tellV (lastV (ls.take k)) p.1) ∧ Later W9 wr)
    case atStart => exact ⟨0, rfl, Nat.zero_le _, rfl, rfl, rfl, Later.refl _⟩
    case round =>
      obtain ⟨k, rfl, hk, hkg, rfl, rfl, hC⟩ := hrel
      replace hkg := Lib.hid hkg
      by_cases hlt : k < ls.length
      · obtain ⟨ad, rfl, hadlt, c0, c1⟩ := PK.pair_ (hR3.below hC) hlt
        have hnx := lastV_take hlt
        generalize ls[k] = x at *
        have hns : (lastV (ls.take (k + 1)) p.1).isSome = (decide (x.1 = p.1) || (lastV (ls.take k) p.1).isSome) := by rw [hnx]; exact tell_step.1
        have hnt : tellV (lastV (ls.take (k + 1))) p.1 = if x.1 = p.1 then x.2 else tellV (lastV (ls.take k)) p.1 := by rw [hnx]; exact tell_step.2
        replace hnx := Lib.hid hnx
        have d0 := Later.cell hC p0
        have hkk : (k : Int) < ls.length := by omega
        have hk0 : (0 : Int) ≤ k := by omega
        generalize (lastV (ls.take k) p.1).isSome = th at *
        generalize tellV (lastV (ls.take k)) p.1 = tv at *
        by_cases he : x.1 = p.1
        · rw [decide_eq_true he, Bool.true_or] at hns
          rw [if_pos he] at hnt
          replace hns := Lib.hid hns
          replace hnt := Lib.hid hnt
          rw [he] at c0
          clear he
          go_upto_region 17 with (fail)
          refine wp_region_grow 8 112 (by kernel_rfl) (by kernel_rfl) rfl (fun w7 hl7 => ?_)
          simp only [List.take_succ_cons, List.take_zero, List.drop_succ_cons, List.drop_zero]
          generalize ha : Act.mk _ _ = a0
          have k3 : a0.eval (.tmp 3) = .pointer (some ⟨w.heap.size, 0, none⟩) := by subst ha; rfl
          have k8 : a0.eval (.tmp 8) = .slice (some ad) ls.length c3 := by subst ha; rfl
          have k13 : a0.eval (.tmp 13) = .int .i64 k := by subst ha; rfl
          have ks : a0.tmps.size = 112 := by subst ha; rfl
          have ha0 := ha.symm
          clear ha
          refine wpG_move (fun a w hk => (hk 8 rfl : a.eval (.tmp 8) = a0.eval (.tmp 8)).trans k8) ?_
          refine wpG_move (fun a w hk => (hk 13 rfl : a.eval (.tmp 13) = a0.eval (.tmp 13)).trans k13) ?_
          apply wpG_value'
          · rfl
          · (intro a wx hlx hk K hK; have e69 : a.eval (.tmp 69) = _ := hk 69 rfl; have e70 : a.eval (.tmp 70) = _ := hk 70 rfl; simp only [execOp, e69, e70]; clear e69 e70 hk; go_simp; exact hK)
          apply wpG_value'
          · rfl
          · (intro a wx hlx hk K hK; have e71 : a.eval (.tmp 71) = _ := hk 71 rfl; simp only [execOp, e71]; clear e71 hk; go_simp; exact hK)
          refine wpG_load1 (hl7.cell c0) Try.underlying9 rfl (fun a w hk => hk 72 rfl) ?_
          apply wpG_value'
          · rfl
          · (intro a wx hlx hk K hK; have e3 : a.eval (.tmp 3) = _ := (hk 3 rfl : a.eval (.tmp 3) = a0.eval (.tmp 3)).trans k3; simp only [execOp, e3]; clear e3 hk; go_simp; exact hK)
          refine wpG_load1 (hl7.cell d0) Try.underlying9 rfl (fun a w hk => hk 74 rfl) ?_
          apply wpG_value'
          · rfl
          · (intro a wx hlx hk K hK; have e73 : a.eval (.tmp 73) = _ := hk 73 rfl; have e75 : a.eval (.tmp 75) = _ := hk 75 rfl; simp only [execOp, e73, e75]; clear e73 e75 hk; go_simp; exact hK)
          refine wpG_nil (fun w7' hl7' => ?_)
          refine fin_is ?_
          refine fin_is ?_
          refine fin_is ?_
          refine fin_is ?_
          refine fin_is ?_
          refine fin_is ?_
          refine fin_is ?_
          refine fin_is ?_
          refine fin_nil ?_
          subst ha0
          clear k3 k8 k13 ks
          simp only [Act.put, List.setIfInBounds_toArray, List.set_cons_succ, List.set_cons_zero]
          have c1' := Later.cell (hl7.trans hl7') c1
          go_wp2_with (fail)
          go_roundg (ls.length - k)
          case measure => go_light; rw [hkg.out]; omega
          case rel => go_light; exact ⟨k + 1, by go_num, by omega, by omega, by rw [hns.out], by rw [hnt.out], hC.trans (hl7.trans hl7')⟩
        · have n4 : (x.1.toList == p.1.toList) = false := by rw [beqL]; simpa using he
          rw [decide_eq_false he, Bool.false_or] at hns
          rw [if_neg he] at hnt
          have n1 : (x.1 = p.1) = False := eq_false he
          replace hns := Lib.hid hns
          replace hnt := Lib.hid hnt
          go_upto_region 17 with (fail)
          refine wp_region_grow 8 112 (by kernel_rfl) (by kernel_rfl) rfl (fun w7 hl7 => ?_)
          simp only [List.take_succ_cons, List.take_zero, List.drop_succ_cons, List.drop_zero]
          generalize ha : Act.mk _ _ = a0
          have k3 : a0.eval (.tmp 3) = .pointer (some ⟨w.heap.size, 0, none⟩) := by subst ha; rfl
          have k8 : a0.eval (.tmp 8) = .slice (some ad) ls.length c3 := by subst ha; rfl
          have k13 : a0.eval (.tmp 13) = .int .i64 k := by subst ha; rfl
          have ks : a0.tmps.size = 112 := by subst ha; rfl
          have ha0 := ha.symm
          clear ha
          refine wpG_move (fun a w hk => (hk 8 rfl : a.eval (.tmp 8) = a0.eval (.tmp 8)).trans k8) ?_
          refine wpG_move (fun a w hk => (hk 13 rfl : a.eval (.tmp 13) = a0.eval (.tmp 13)).trans k13) ?_
          apply wpG_value'
          · rfl
          · (intro a wx hlx hk K hK; have e69 : a.eval (.tmp 69) = _ := hk 69 rfl; have e70 : a.eval (.tmp 70) = _ := hk 70 rfl; simp only [execOp, e69, e70]; clear e69 e70 hk; go_simp; exact hK)
          apply wpG_value'
          · rfl
          · (intro a wx hlx hk K hK; have e71 : a.eval (.tmp 71) = _ := hk 71 rfl; simp only [execOp, e71]; clear e71 hk; go_simp; exact hK)
          refine wpG_load1 (hl7.cell c0) Try.underlying9 rfl (fun a w hk => hk 72 rfl) ?_
          apply wpG_value'
          · rfl
          · (intro a wx hlx hk K hK; have e3 : a.eval (.tmp 3) = _ := (hk 3 rfl : a.eval (.tmp 3) = a0.eval (.tmp 3)).trans k3; simp only [execOp, e3]; clear e3 hk; go_simp; exact hK)
          refine wpG_load1 (hl7.cell d0) Try.underlying9 rfl (fun a w hk => hk 74 rfl) ?_
          apply wpG_value'
          · rfl
          · (intro a wx hlx hk K hK; have e73 : a.eval (.tmp 73) = _ := hk 73 rfl; have e75 : a.eval (.tmp 75) = _ := hk 75 rfl; simp only [execOp, e73, e75]; clear e73 e75 hk; go_simp; exact hK)
          refine wpG_nil (fun w7' hl7' => ?_)
          refine fin_is ?_
          refine fin_is ?_
          refine fin_is ?_
          refine fin_is ?_
          refine fin_is ?_
          refine fin_is ?_
          refine fin_is ?_
          refine fin_is ?_
          refine fin_nil ?_
          subst ha0
          clear k3 k8 k13 ks
          simp only [Act.put, List.setIfInBounds_toArray, List.set_cons_succ, List.set_cons_zero]
          go_wp2_with (fail)
          go_roundg (ls.length - k)
          case measure => go_light; rw [hkg.out]; omega
          case rel => go_light; exact ⟨k + 1, by go_num, by omega, by omega, by rw [hns.out], by rw [hnt.out], hC.trans (hl7.trans hl7')⟩
      · obtain rfl : k = ls.length := by omega
        rw [List.take_length]
        replace hB := Later.trans hB hC
        replace hP := Later.whole hC hP
        replace hT := Later.whole hC hT
        replace hE := Later.whole hC hE
        replace p0 := Later.cell hC p0
        replace p1 := Later.cell hC p1
        generalize (lastV ls p.1).isSome = th at *
        generalize tellV (lastV ls) p.1 = tv at *
        clear hR3 hC
        go_upto_region 22 with (first | ((with_reducible apply wl_loadW (ty := 29) hT Try.underlying29); rfl; rfl; rfl; exact hsz) | ((with_reducible refine (VY.out _).mono ?_); rintro e wV ⟨rfl, hbV⟩; replace hB := Later.trans hB hbV; replace hP := Later.whole hbV hP; replace hT := Later.whole hbV hT; replace hE := Later.whole hbV hE; replace p0 := Later.cell hbV p0; replace p1 := Later.cell hbV p1))
        cases th
        · go_wp2_with (fail)
          go_returns
          go_light
          exact ⟨rfl, hB⟩
        · by_cases he : p.2 = tv
          · subst he
            go_wp2_with (fail)
            go_returns
            go_light
            exact ⟨rfl, hB⟩
          · have n1 : (p.2 = tv) = False := eq_false he
            have n4 : (p.2.toList == tv.toList) = false := by rw [beqL]; simpa using he
            have n6 : (p.2.toList != tv.toList) = true := by simp only [bne, n4, Bool.not_false]
            go_upto_region 23 with (fail)
            refine wp_region_grow 14 112 (by kernel_rfl) (by kernel_rfl) rfl (fun w7 hl7 => ?_)
            simp only [List.take_succ_cons, List.take_zero, List.drop_succ_cons, List.drop_zero]
            generalize ha : Act.mk _ _ = a0
            have k3 : a0.eval (.tmp 3) = .pointer (some ⟨w.heap.size, 0, none⟩) := by subst ha; rfl
            have k5 : a0.eval (.tmp 5) = .pointer (some ⟨GT, 0, none⟩) := by subst ha; rfl
            have k6 : a0.eval (.tmp 6) = .pointer (some ⟨GE, 0, none⟩) := by subst ha; rfl
            have k9 : a0.eval (.tmp 9) = .string RT := by subst ha; rfl
            have k10 : a0.eval (.tmp 10) = .string PF := by subst ha; rfl
            have ks : a0.tmps.size = 112 := by subst ha; rfl
            have ha0 := ha.symm
            clear ha
            refine wpG_loadW (hl7.whole hT) Try.underlying29 rfl (hsz) (fun a w hk => (hk 5 rfl : a.eval (.tmp 5) = a0.eval (.tmp 5)).trans k5) ?_
            refine wpG_move (fun a w hk => (hk 9 rfl : a.eval (.tmp 9) = a0.eval (.tmp 9)).trans k9) ?_
            apply wpG_value'
            · rfl
            · (intro a wx hlx hk K hK; have e3 : a.eval (.tmp 3) = _ := (hk 3 rfl : a.eval (.tmp 3) = a0.eval (.tmp 3)).trans k3; simp only [execOp, e3]; clear e3 hk; go_simp; exact hK)
            refine wpG_load1 (hl7.cell p0) Try.underlying9 rfl (fun a w hk => hk 100 rfl) ?_
            apply wpG_value'
            · rfl
            · (intro a wx hlx hk K hK; have e3 : a.eval (.tmp 3) = _ := (hk 3 rfl : a.eval (.tmp 3) = a0.eval (.tmp 3)).trans k3; simp only [execOp, e3]; clear e3 hk; go_simp; exact hK)
            refine wpG_load1 (hl7.cell p1) Try.underlying9 rfl (fun a w hk => hk 102 rfl) ?_
            refine wpG_move (fun a w hk => (hk 10 rfl : a.eval (.tmp 10) = a0.eval (.tmp 10)).trans k10) ?_
            refine wpG_call _ _ Try.func25 (by kernel_rfl) (by kernel_rfl) (fun W _ => V2.out W) (fun a w hk => by have e98 : a.eval (.tmp 98) = _ := hk 98 rfl; have e99 : a.eval (.tmp 99) = _ := hk 99 rfl; have e101 : a.eval (.tmp 101) = _ := hk 101 rfl; have e103 : a.eval (.tmp 103) = _ := hk 103 rfl; have e104 : a.eval (.tmp 104) = _ := hk 104 rfl; simp [e98, e99, e101, e103, e104] <;> first | rfl | exact ⟨rfl, rfl⟩ | exact ⟨rfl, rfl, rfl⟩) ?_
            refine wpG_loadW (hl7.whole hE) Try.underlying41 rfl (hi7) (fun a w hk => (hk 6 rfl : a.eval (.tmp 6) = a0.eval (.tmp 6)).trans k6) ?_
            refine wpG_move (fun a w hk => (hk 9 rfl : a.eval (.tmp 9) = a0.eval (.tmp 9)).trans k9) ?_
            refine wpG_loadW (hl7.whole hP) Try.underlying33 rfl (by first | kernel_rfl | assumption) (fun a w hk => (hk 3 rfl : a.eval (.tmp 3) = a0.eval (.tmp 3)).trans k3) ?_
            refine wpG_move (fun a w hk => (hk 10 rfl : a.eval (.tmp 10) = a0.eval (.tmp 10)).trans k10) ?_
            refine wpG_call _ _ Try.func26 (by kernel_rfl) (by kernel_rfl) (fun W _ => H2.out W) (fun a w hk => by have e106 : a.eval (.tmp 106) = _ := hk 106 rfl; have e107 : a.eval (.tmp 107) = _ := hk 107 rfl; have e108 : a.eval (.tmp 108) = _ := hk 108 rfl; have e109 : a.eval (.tmp 109) = _ := hk 109 rfl; simp [e106, e107, e108, e109] <;> first | rfl | exact ⟨rfl, rfl⟩ | exact ⟨rfl, rfl, rfl⟩) ?_
            apply wpG_value'
            · rfl
            · (intro a wx hlx hk K hK; have e105 : a.eval (.tmp 105) = _ := hk 105 rfl; have e110 : a.eval (.tmp 110) = _ := hk 110 rfl; simp only [execOp, e105, e110]; clear e105 e110 hk; go_simp; exact hK)
            refine wpG_nil (fun w7' hl7' => ?_)
            refine fin_is ?_
            refine fin_is ?_
            refine fin_is ?_
            refine fin_is ?_
            refine fin_is ?_
            refine fin_is ?_
            refine fin_is ?_
            refine fin_is ?_
            refine fin_is ?_
            refine fin_is ?_
            refine fin_is ?_
            refine fin_is ?_
            refine fin_is ?_
            refine fin_is ?_
            refine fin_nil ?_
            subst ha0
            clear k3 k5 k6 k9 k10 ks
            simp only [Act.put, List.setIfInBounds_toArray, List.set_cons_succ, List.set_cons_zero]
            go_wp2_with (fail)
            go_returns
            go_light
            exact ⟨by simp, Later.trans hB (hl7.trans hl7')⟩
end Go.Proofs.Ytknjbkbbhgjnlaa
