/- The law SmtVerifies, walked. No conditions. -/
import Derived.Test.YtknjbkbbhgjnlaaSmt12
import Derived.Test.YtknjbkbbhgjnlaaConvRow
namespace Go.Proofs.Ytknjbkbbhgjnlaa
open Go.RowKit
set_option linter.unusedVariables false
set_option linter.unusedSimpArgs false
theorem PK.block {W : World} {g : Nat} {T : TypeId} {p : KV} (h : Whole W g T (PairV p).toArray) : PK.Rows W (some ⟨g, 0, none⟩) [p] :=
  ⟨by simp, fun _ => ⟨_, rfl, h.lt, fun j x hj => by
    match j, hj with
    | 0, hj =>
      simp at hj
      subst hj
      refine ⟨PairV p, PK.K_mk _ _, fun i u hu => ?_⟩
      have ha : (⟨g, 0, none⟩ : Addr).add (0 * PK.sz + i) = ⟨g, i, none⟩ := by rw [Nat.zero_mul, Nat.zero_add]; unfold Addr.add; split <;> simp_all
      rw [ha, h.cell i]
      simpa using hu⟩⟩
set_option maxHeartbeats 8000000 in
set_option maxRecDepth 100000 in
theorem smtVerifies_calls (A : Option Addr) (l : List KV) (cap : Nat) (p : KV) (x0 x1 x2 : Nat) (hx0 : x0 < 65536) (hx1 : x1 < 65536) (hx2 : x2 < 65536) (w : World) (hcap : l.length ≤ cap) (hl : l.length ≤ 9223372036854775807) (hr : PK.Rows w A l) :
    Calls Try.prog 4 #[.slice A l.length cap, .agg (PairV p).toArray, .agg #[.int .u16 x0, .int .u16 x1, .int .u16 x2]] w fun e w' => e = .returned (.bool true) ∧ Below w.heap.size w w' := by
  have AW := fun w => awake05_calls w
  have F1 : ∀ W, PK.Rows W A l → Calls Try.prog 16 #[.slice A l.length cap, .int .i64 5] W (fun e w' => e = .returned (.bool (fewKV l 5)) ∧ Later W w') := fun W h => few05_calls A l cap 5 W hcap hl (by decide) h
  have F2 : ∀ W (g : Nat), PK.Rows W (some ⟨g, 0, none⟩) [p] → Calls Try.prog 16 #[.slice (some ⟨g, 0, none⟩) 1 1, .int .i64 1] W (fun e w' => e = .returned (.bool (fewKV [p] 1)) ∧ Later W w') := fun W g h => few05_calls (some ⟨g, 0, none⟩) [p] 1 1 W (by simp) (by simp) (by decide) h
  have hok1 : fewKV l 5 = true → l.length ≤ 5 ∧ ∀ q ∈ l, q.1.size ≤ 60 ∧ q.2.size ≤ 60 := fun h => fewKV_all h (by decide)
  have hok2 : fewKV [p] 1 = true → p.1.size ≤ 60 ∧ p.2.size ≤ 60 := fun h => (fewKV_all h (by decide)).2 p (by simp)
  replace AW := Lib.hid AW
  replace F1 := Lib.hid F1
  replace F2 := Lib.hid F2
  replace hr := Lib.hid hr
  obtain ⟨W0, hW0⟩ : ∃ W0, (w.alloc (.cells (PairV p).toArray 33)).alloc (.cells #[.int .u16 x0, .int .u16 x1, .int .u16 x2] 40) = W0 := ⟨_, rfl⟩
  have hP0 : Whole W0 w.heap.size 33 (PairV p).toArray := by rw [← hW0]; exact (Whole.new w _ _).alloc _
  have hA5 : Whole W0 (w.heap.size + 1) 40 #[.int .u16 x0, .int .u16 x1, .int .u16 x2] := by rw [← hW0]; exact Whole.new1 w _ _ _
  have hB0 : Later w W0 := by rw [← hW0]; exact ((Later.refl w).alloc _).alloc _
  have f0 := hA5.cell 0
  have f1 := hA5.cell 1
  have f2 := hA5.cell 2
  go_enter Try.func4, Try.ntmps4
  go_upto_region 1 with (fail)
  try rw [hW0]
  clear hW0 hA5
  have hB : Later W0 W0 := Later.refl W0
  have hP := hP0
  cases hf1 : fewKV l 5
  · rw [hf1] at F1
    clear hok1 hok2
    go_wp2_with (first | ((with_reducible refine (AW.out _).mono ?_); rintro e w4 ⟨rfl, hb4⟩; replace hB := Later.trans hB hb4; replace hP := Later.whole hb4 hP) | ((with_reducible refine (F1.out _ (hr.out.below (hB0.trans hB))).mono ?_); rintro e w5 ⟨rfl, hb5⟩; replace hB := Later.trans hB hb5; replace hP := Later.whole hb5 hP; have hB6 := Later.trans hB ((Later.refl w5).alloc (.cells (PairV p).toArray 33)); have hP6 := hP.alloc (.cells (PairV p).toArray 33); have hQ6 := PK.block (Whole.new w5 33 (PairV p).toArray)))
    go_returns
    go_light
    exact ⟨rfl, hB0.trans hB⟩
  cases hf2 : fewKV [p] 1
  · rw [hf1] at F1
    rw [hf2] at F2
    clear hok1 hok2
    go_wp2_with (first | ((with_reducible refine (AW.out _).mono ?_); rintro e w4 ⟨rfl, hb4⟩; replace hB := Later.trans hB hb4; replace hP := Later.whole hb4 hP) | ((with_reducible refine (F1.out _ (hr.out.below (hB0.trans hB))).mono ?_); rintro e w5 ⟨rfl, hb5⟩; replace hB := Later.trans hB hb5; replace hP := Later.whole hb5 hP; have hB6 := Later.trans hB ((Later.refl w5).alloc (.cells (PairV p).toArray 33)); have hP6 := hP.alloc (.cells (PairV p).toArray 33); have hQ6 := PK.block (Whole.new w5 33 (PairV p).toArray)) | ((with_reducible refine (F2.out _ _ hQ6).mono ?_); rintro e w7 ⟨rfl, hb7⟩; replace hB := Later.trans hB6 hb7; replace hP := Later.whole hb7 hP6) | (first | ((with_reducible apply wl_loadW (ty := 33) hP Try.underlying33); rfl; rfl; rfl; kernel_rfl) | ((with_reducible apply wl_loadW (ty := 33) (hP.alloc _) Try.underlying33); rfl; rfl; rfl; kernel_rfl) | ((with_reducible apply wl_loadW (ty := 33) ((hP.alloc _).alloc _) Try.underlying33); rfl; rfl; rfl; kernel_rfl)))
    go_returns
    go_light
    exact ⟨rfl, hB0.trans hB⟩
  rw [hf1] at F1
  rw [hf2] at F2
  obtain ⟨hl5, hsm⟩ := hok1 hf1
  obtain ⟨hp1, hp2⟩ := hok2 hf2
  clear hok1 hok2 hf1 hf2
  go_upto_region 3 with (first | ((with_reducible refine (AW.out _).mono ?_); rintro e w4 ⟨rfl, hb4⟩; replace hB := Later.trans hB hb4; replace hP := Later.whole hb4 hP) | ((with_reducible refine (F1.out _ (hr.out.below (hB0.trans hB))).mono ?_); rintro e w5 ⟨rfl, hb5⟩; replace hB := Later.trans hB hb5; replace hP := Later.whole hb5 hP; have hB6 := Later.trans hB ((Later.refl w5).alloc (.cells (PairV p).toArray 33)); have hP6 := hP.alloc (.cells (PairV p).toArray 33); have hQ6 := PK.block (Whole.new w5 33 (PairV p).toArray)) | ((with_reducible refine (F2.out _ _ hQ6).mono ?_); rintro e w7 ⟨rfl, hb7⟩; replace hB := Later.trans hB6 hb7; replace hP := Later.whole hb7 hP6) | (first | ((with_reducible apply wl_loadW (ty := 33) hP Try.underlying33); rfl; rfl; rfl; kernel_rfl) | ((with_reducible apply wl_loadW (ty := 33) (hP.alloc _) Try.underlying33); rfl; rfl; rfl; kernel_rfl) | ((with_reducible apply wl_loadW (ty := 33) ((hP.alloc _).alloc _) Try.underlying33); rfl; rfl; rfl; kernel_rfl)))
  clear AW F1 F2
  have M := fun w => make_calls w
  have hsz := tb_size
  have htz : (arr .u32 (K64 ++ H8.L)).size = Try.zeroCells29.size := by kernel_rfl
  have ho1 : (arr .u32 (K64 ++ H8.L)).toList.all (·.oneCell') = true := by kernel_rfl
  have CE := fun w => empty05_calls w
  have hi7 := ee_info
  have hone := sarr_one (downL (emp shaN) 256)
  have hi9 : (Try.prog.info? 41).map (·.size) = some (sarr e257).size := by rw [sarr_size, e257_length]; kernel_rfl
  have hi8 : (sarr (downL (emp shaN) 256)).size = (sarr e257).size := by rw [ee_size, sarr_size, e257_length]
  have hz := zero257s
  have CL := fun W h => last_calls A l cap W hcap (by omega) h
  have hLn := lastK_len l
  have hLm := lastK_mem l
  have CPA := fun (A3 : Option Addr) (c3 : Nat) W h1 h2 => paths05_calls A3 (lastK l) c3 W h1 (by omega) (fun q hq => by have := (hsm q (hLm q hq)).1; omega) h2
  have hokL : KVok (lastK l) := fun q hq => by have := hsm q (hLm q hq); omega
  have CR := fun (A3 P3 : Option Addr) (c3 p3 : Nat) W h1 h2 h3 h4 => root05_calls 256 (lastK l) A3 P3 c3 p3 W (Nat.le_refl _) (by omega) hokL h1 h2 h3 h4
  have CV := fun (A3 : Option Addr) (c3 : Nat) W h1 h2 => prove05_calls p.1 (lastK l) A3 c3 W (by omega) (by omega) hokL h1 h2
  have VV := fun th pr h w => verify_calls (rootS 256 (lastK l)) p.1 p.2 pr th (by omega) (by omega) h w
  have HH := fun th pr h w => holds_calls (rootS 256 (lastK l)) p.1 p.2 pr th (by omega) (by omega) h w
  obtain ⟨n0, hpz, hn0⟩ := proveS_size p.1 (lastK l)
  have hls : (lastK l).length ≤ 5 := Nat.le_trans hLn hl5
  generalize rootS 256 (lastK l) = RT at *
  generalize proveS p.1 (lastK l) = sg at *
  generalize lastK l = ls at *
  generalize arr .u32 (K64 ++ H8.L) = tb at *
  generalize sarr (downL (emp shaN) 256) = EE at *
  replace M := Lib.hid M
  replace CE := Lib.hid CE
  replace CL := Lib.hid CL
  replace CPA := Lib.hid CPA
  replace CR := Lib.hid CR
  replace CV := Lib.hid CV
  replace VV := Lib.hid VV
  replace HH := Lib.hid HH
  clear hLm hokL hsm hLn
  go_upto_region 6 with (first | ((with_reducible refine (M.out _).mono ?_); rintro e w8 ⟨rfl, hb8⟩; replace hB := Later.trans hB hb8; replace hP := Later.whole hb8 hP; have hZ := Whole.new w8 29 Try.zeroCells29; have hG8 := hB.size; have hL8 := hP.lt; replace hB := hB.alloc (.cells Try.zeroCells29 29); replace hP := hP.alloc (.cells Try.zeroCells29 29)) | ((with_reducible apply wl_storeW (ty := 29) hZ); rfl; rfl; rfl; kernel_rfl; exact htz; exact ho1; intro wS hT hgS hzS; replace hB := below_only' hB hgS hG8; replace hP := Whole.only hP hgS (fun q => by have := Option.some.inj q; omega)) | ((with_reducible refine (CE.out _).mono ?_); rintro e wE ⟨rfl, hbE⟩; replace hB := Later.trans hB hbE; replace hP := Later.whole hbE hP; replace hT := Later.whole hbE hT; have hE0 := Whole.new wE 41 (sarr e257); have hGE := hB.size; have hLE := hP.lt; have hTE := hT.lt; replace hB := Below.alloc hB hGE (.cells (sarr e257) 41); replace hP := hP.alloc (.cells (sarr e257) 41); replace hT := hT.alloc (.cells (sarr e257) 41)) | ((with_reducible apply wl_storeW (ty := 41) hE0); rfl; rfl; rfl; exact hi9; exact hi8; exact hone; intro wF hE hgF hzF; replace hB := below_only' hB hgF hGE; replace hP := Whole.only hP hgF (fun q => by have := Option.some.inj q; omega); replace hT := Whole.only hT hgF (fun q => by have := Option.some.inj q; omega)) | ((with_reducible refine (CL.out _ (hr.out.below (hB0.trans hB))).mono ?_); rintro e wL ⟨⟨vL, rfl, hvL⟩, hbL⟩; replace hB := Later.trans hB hbL; replace hP := Later.whole hbL hP; replace hT := Later.whole hbL hT; replace hE := Later.whole hbL hE))
  obtain ⟨A3, c3, rfl, hc3, hR3⟩ := hvL.rows PK rfl (fun _ => rfl) PK.K_mk (by omega)
  clear hvL hbL hbE hb8 hgS hzS hgF hzF hE0 hZ hz hi8 hi9 hone htz ho1 hG8 hL8 hGE hLE hTE M CE CL hb4 hb5 hb7 hB6 hP6 hQ6
  generalize hGT : w8.heap.size = GT at *
  generalize hGE : wE.heap.size = GE at *
  clear hGT hGE
  go_upto_region 6 with (fail)
  refine wp_region_grow 5 102 (by kernel_rfl) (by kernel_rfl) rfl (fun w9 hl9 => ?_)
  simp only [List.take_succ_cons, List.take_zero, List.drop_succ_cons, List.drop_zero]
  generalize ha : Act.mk _ _ = a0
  have k8 : a0.eval (.tmp 8) = .pointer (some ⟨GE, 0, none⟩) := by subst ha; rfl
  have k9 : a0.eval (.tmp 9) = .slice A3 ls.length c3 := by subst ha; rfl
  have ks : a0.tmps.size = 102 := by subst ha; rfl
  have ha0 := ha.symm
  clear ha
  refine wpG_loadW (hl9.whole hE) Try.underlying41 rfl (hi7) (fun a w hk => (hk 8 rfl : a.eval (.tmp 8) = a0.eval (.tmp 8)).trans k8) ?_
  refine wpG_move (fun a w hk => (hk 9 rfl : a.eval (.tmp 9) = a0.eval (.tmp 9)).trans k9) ?_
  refine wpG_move (fun a w hk => (hk 9 rfl : a.eval (.tmp 9) = a0.eval (.tmp 9)).trans k9) ?_
  refine wpG_callF (TextRow 9 0 (ls.map fun q => pathN q.1)) (TextRow.later) Try.func23 (by kernel_rfl) (by kernel_rfl) (fun a wx hlx hk => by have e34 : a.eval (.tmp 34) = _ := hk 34 rfl; simp only [List.map_toArray, List.map_cons, List.map_nil, e34]; exact ((CPA.out A3 c3 wx hc3 (hR3.below (hl9.trans hlx))).mono fun e w' hh => by obtain ⟨⟨v, he, hv⟩, hb⟩ := hh; exact ⟨v, he, TextRow.base hv (Nat.zero_le _), hb⟩)) ?_
  refine wpG_callF (Is (.string RT)) (fun _ _ _ _ h => h) Try.func22 (by kernel_rfl) (by kernel_rfl) (fun a wx hlx hk => by have e1 : a.eval (.tmp 32) = _ := hk 32 rfl; have e2 : a.eval (.tmp 33) = _ := hk 33 rfl; have f1 : TextRow 9 0 (ls.map fun q => pathN q.1) (a.eval (.tmp 35)) wx := hk 35 rfl; obtain ⟨A6, c6, e6, hc6, hR6⟩ := TextRow.rows f1 (by rw [List.length_map]; omega); rw [List.length_map] at e6 hc6; simp only [List.map_toArray, List.map_cons, List.map_nil, e1, e2, e6]; exact (CR.out A3 A6 c3 c6 wx hc3 hc6 (hR3.below (hl9.trans hlx)) hR6).mono fun e w' h => ⟨_, h.1, rfl, h.2⟩) ?_
  refine wpG_nil (fun w9' hl9' => ?_)
  refine fin_is ?_
  refine fin_is ?_
  refine fin_is ?_
  refine fin_some (fun v35 hv35 => ?_)
  refine fin_is ?_
  refine fin_nil ?_
  subst ha0
  clear k8 k9 ks hv35
  simp only [Act.put, List.setIfInBounds_toArray, List.set_cons_succ, List.set_cons_zero]
  have hlq := hl9.trans hl9'
  replace hB := Later.trans hB hlq
  replace hP := Later.whole hlq hP
  replace hT := Later.whole hlq hT
  replace hE := Later.whole hlq hE
  replace hR3 := hR3.below hlq
  have p0 := hP.cell 0
  generalize w9' = W9 at *
  clear hl9 hl9' hlq CPA CR
  obtain ⟨N, hN⟩ : ∃ N, sg.size = N := ⟨_, rfl⟩
  have hN32 : 32 ≤ N := by omega
  have hNb : N ≤ 8224 := by omega
  have kb := fun W => Lib.run_convert_string_bytes (P := Try.prog) W 9 46 5 sg Try.underlying9 Try.underlying46 Try.underlying5
  rw [hN] at kb
  have hcl : (bytesN sg).length = N := by rw [bytesN_length, hN]
  have hc256 : ∀ k, (bytesN sg).getD k 0 < 256 := fun k => by
    rw [List.getD_eq_getElem?_getD]
    cases hx : (bytesN sg)[k]? with
    | none => decide
    | some x => exact bytesN_lt _ x (List.mem_of_getElem? hx)
  have hbc : ∀ (W : World) (j : Nat), j < N → (Lib.bytesWorld W 5 sg).cell? ⟨W.heap.size, j, none⟩ = some (.int .u8 (((bytesN sg).getD j 0 : Nat) : Int)) := fun W j hj => by
    rw [Lib.bytesWorld_cell W 5 _ j (by omega)]
    unfold bytesN
    rw [List.getD_eq_getElem?_getD, List.getD_eq_getElem?_getD, List.getElem?_map]
    rw [List.getElem?_eq_getElem (show j < sg.data.toList.length by simpa [hN] using hj)]
    rfl
  have hbf : ∀ (W : World) (j : Nat), j < N → (Lib.bytesWorld W 5 sg).frozen? ⟨W.heap.size, j, none⟩ = false := fun W j hj => bytes_fresh W _ _ j (by omega)
  have hbl : ∀ (W : World), Later W (Lib.bytesWorld W 5 sg) := fun W => Lib.bytesWorld_below W _ _
  generalize bytesN sg = L at *
  clear hpz hN
  replace hc256 := Lib.hid hc256
  replace hbc := Lib.hid hbc
  replace hbf := Lib.hid hbf
  replace hbl := Lib.hid hbl
  replace hcl := Lib.hid hcl
  replace hR3 := Lib.hid hR3
  obtain ⟨i, hi⟩ : ∃ i, x0 % N = i := ⟨_, rfl⟩
  have hi2 : i < N := by rw [← hi]; exact Nat.mod_lt _ (by omega)
  have u1 : (x0 : Int).tmod N = (i : Int) := by rw [Int.tmod_eq_emod_of_nonneg (Int.natCast_nonneg _), ← hi]; rfl
  have u2 : (x0 : Int) % N = (i : Int) := by rw [← hi]; rfl
  have u3 : IntKind.i64.wrap (x0 : Int) = x0 := by simp [IntKind.wrap, IntKind.signed, IntKind.bits]; omega
  have u4 : IntKind.i64.wrap (i : Int) = i := by simp [IntKind.wrap, IntKind.signed, IntKind.bits]; omega
  have u5 : ((N : Int) = 0) = False := eq_false (by omega)
  have u6 : (N = 0) = False := eq_false (by omega)
  clear hi
  go_upto_region 8 with (first | ((with_reducible apply wl_loadW (ty := 41) hE Try.underlying41); rfl; rfl; rfl; exact hi7) | ((with_reducible refine (CV.out A3 c3 _ hc3 hR3.out).mono ?_); rintro e w10 ⟨rfl, hb10⟩))
  have hL := hbl.out w10
  have hc := hbc.out w10
  have hf := hbf.out w10
  have hB10 := Later.trans hB hb10
  have f0' := hL.cell (Later.cell hB10 f0)
  have f1' := hL.cell (Later.cell hB10 f1)
  replace hT := Later.whole hb10 hT
  replace hE := Later.whole hb10 hE
  replace hP := Later.whole hb10 hP
  clear p0 hb10 kb CV hR3 hB
  generalize Lib.bytesWorld w10 5 sg = W5 at *
  generalize hG10 : w10.heap.size = G at *
  generalize grownCap w10 N 0 5 = cp2 at *
  have hz256 := hc256.out i
  obtain ⟨z, hz⟩ : ∃ z, L.getD i 0 = z := ⟨_, rfl⟩
  rw [hz] at hz256
  have hci := hc i hi2
  rw [hz] at hci
  have hfi := hf i hi2
  obtain ⟨y, hy⟩ : ∃ y, x1 % 256 = y := ⟨_, rfl⟩
  have v1 : IntKind.u8.wrap (x1 : Int) = (y : Int) := by simp [IntKind.wrap, IntKind.signed, IntKind.bits]; omega
  have hy256 : y < 256 := by omega
  have v2 := u8_xor_nat z y hz256 hy256
  have hb256 : z ^^^ y < 256 := Nat.xor_lt_two_pow (n := 8) hz256 hy256
  generalize z ^^^ y = b at *
  have d1 : ((i : Int) < N) = True := eq_true (by omega)
  have d2 : (i < N) = True := eq_true (by omega)
  clear hy
  replace hz := Lib.hid hz
  replace hc := Lib.hid hc
  replace hf := Lib.hid hf
  obtain ⟨i9, p1, p2, p3, p4⟩ := info_parts (P := Try.prog) (e := 5) (z := .int .u8 0) (size := 1) (bytes := 1) (by kernel_rfl)
  replace p1 := Lib.hid p1
  replace p2 := Lib.hid p2
  refine wp_region_grow 14 102 (by kernel_rfl) (by kernel_rfl) rfl (fun w7 hl7 => ?_)
  simp only [List.take_succ_cons, List.take_zero, List.drop_succ_cons, List.drop_zero]
  generalize ha : Act.mk _ _ = a0
  have k5 : a0.eval (.tmp 5) = .pointer (some ⟨w.heap.size + 1, 0, none⟩) := by subst ha; rfl
  have k11 : a0.eval (.tmp 11) = .slice (some ⟨G, 0, none⟩) N cp2 := by subst ha; rfl
  have ks : a0.tmps.size = 102 := by subst ha; rfl
  have ha0 := ha.symm
  clear ha
  refine wpG_move (fun a w hk => (hk 11 rfl : a.eval (.tmp 11) = a0.eval (.tmp 11)).trans k11) ?_
  apply wpG_value'
  · rfl
  · (intro a wx hlx hk K hK; have e5 : a.eval (.tmp 5) = _ := (hk 5 rfl : a.eval (.tmp 5) = a0.eval (.tmp 5)).trans k5; simp only [execOp, e5]; clear e5 hk; go_simp; exact hK)
  refine wpG_load1 (hl7.cell f0') Try.underlying39 rfl (fun a w hk => hk 44 rfl) ?_
  apply wpG_value'
  · rfl
  · (intro a wx hlx hk K hK; have e45 : a.eval (.tmp 45) = _ := hk 45 rfl; simp only [execOp, e45]; clear e45 hk; go_simp; exact hK)
  refine wpG_move (fun a w hk => (hk 11 rfl : a.eval (.tmp 11) = a0.eval (.tmp 11)).trans k11) ?_
  apply wpG_value'
  · rfl
  · (intro a wx hlx hk K hK; have e47 : a.eval (.tmp 47) = _ := hk 47 rfl; simp only [execOp, resolve, List.map_toArray, List.map_cons, List.map_nil, Option.map_some, Option.map_none, e47]; clear e47 hk; go_simp; exact hK)
  apply wpG_value'
  · rfl
  · (intro a wx hlx hk K hK; have e46 : a.eval (.tmp 46) = _ := hk 46 rfl; have e48 : a.eval (.tmp 48) = _ := hk 48 rfl; simp only [execOp, e46, e48]; clear e46 e48 hk; go_simp; exact hK)
  apply wpG_value'
  · rfl
  · (intro a wx hlx hk K hK; have e43 : a.eval (.tmp 43) = _ := hk 43 rfl; have e49 : a.eval (.tmp 49) = _ := hk 49 rfl; simp only [execOp, e43, e49]; clear e43 e49 hk; go_simp; exact hK)
  refine wpG_load1 (hl7.cell hci) Try.underlying5 rfl (fun a w hk => hk 50 rfl) ?_
  apply wpG_value'
  · rfl
  · (intro a wx hlx hk K hK; have e5 : a.eval (.tmp 5) = _ := (hk 5 rfl : a.eval (.tmp 5) = a0.eval (.tmp 5)).trans k5; simp only [execOp, e5]; clear e5 hk; go_simp; exact hK)
  refine wpG_load1 (hl7.cell f1') Try.underlying39 rfl (fun a w hk => hk 52 rfl) ?_
  apply wpG_value'
  · rfl
  · (intro a wx hlx hk K hK; have e53 : a.eval (.tmp 53) = _ := hk 53 rfl; simp only [execOp, e53]; clear e53 hk; go_simp; exact hK)
  apply wpG_value'
  · rfl
  · (intro a wx hlx hk K hK; have e51 : a.eval (.tmp 51) = _ := hk 51 rfl; have e54 : a.eval (.tmp 54) = _ := hk 54 rfl; simp only [execOp, e51, e54]; clear e51 e54 hk; go_simp; exact hK)
  apply wpG_value'
  · rfl
  · (intro a wx hlx hk K hK; have e43 : a.eval (.tmp 43) = _ := hk 43 rfl; have e49 : a.eval (.tmp 49) = _ := hk 49 rfl; simp only [execOp, e43, e49]; clear e43 e49 hk; go_simp; exact hK)
  refine wpG_nil (fun w7' hl7' => ?_)
  refine fin_is ?_
  refine fin_is ?_
  refine fin_is ?_
  refine fin_is ?_
  refine fin_is ?_
  refine fin_is ?_
  refine fin_is ?_
  refine fin_is ?_
  refine fin_is ?_
  refine fin_is ?_
  refine fin_is ?_
  refine fin_is ?_
  refine fin_is ?_
  refine fin_is ?_
  refine fin_nil ?_
  have hl := hl7.trans hl7'
  clear hl7 hl7'
  refine wl_store1 (p := ⟨G, i, none⟩) (v := .int .u8 b) (hl.cell hci) ((Below.frozen hl (World.block_lt_of_cell? W5 _ hci)).trans hfi) p1.out p3 (by simp [eval_put, put_size, ks]) (by simp [eval_put, put_size, ks]) rfl rfl ?_
  subst ha0
  clear k5 k11 ks
  simp only [Act.put, List.setIfInBounds_toArray, List.set_cons_succ, List.set_cons_zero]
  have hl2 : Later w10 (w7'.setCell ⟨G, i, none⟩ (.int .u8 b)) := Below.setCell (hL.trans hl) (Nat.le_of_eq hG10) _
  replace hT := Later.whole hl2 hT
  replace hE := Later.whole hl2 hE
  replace hP := Later.whole hl2 hP
  have f2' : (w7'.setCell ⟨G, i, none⟩ (.int .u8 b)).cell? ⟨w.heap.size + 1, 2, none⟩ = some (.int .u16 x2) := Later.cell hl2 (Later.cell hB10 f2)
  have hcc : ∀ j, j < N → (w7'.setCell ⟨G, i, none⟩ (.int .u8 b)).cell? ⟨G, j, none⟩ = some (.int .u8 (((L.set i b).getD j 0 : Nat) : Int)) := fun j hj => by
    by_cases e : j = i
    · subst e
      have h1 := hl.cell hci
      rw [World.cell?_setCell_same _ _ _ h1, List.getD_eq_getElem?_getD, List.getElem?_set_self (by rw [hcl.out]; exact hj)]
      rfl
    · rw [World.cell?_setCell_other _ _ _ _ (fun h => e (by injection h; omega)), hl.cell (hc.out j hj), List.getD_eq_getElem?_getD, List.getD_eq_getElem?_getD, List.getElem?_set_ne (Ne.symm e)]
  have hcv : (convert 46 9 (.slice (some ⟨G, 0, none⟩) N cp2)).run Try.prog (w7'.setCell ⟨G, i, none⟩ (.int .u8 b)) = .ok (.string (outB (L.set i b))) (w7'.setCell ⟨G, i, none⟩ (.int .u8 b)) := conv_row (by rw [List.length_set]; exact hcl.out) hcc
  have hsz1 : (outB (L.set i b)).size = N := by rw [outB_size, List.length_set, hcl.out]
  generalize w7'.setCell ⟨G, i, none⟩ (.int .u8 b) = W8 at *
  generalize outB (L.set i b) = sb at *
  have hB := Later.trans hB10 hl2
  clear hcc hL hl hl2 hci hfi hc hf hz hcl hc256 hbc hbf hbl f0 f1 f2 f0' f1' hG10 v1 v2 d1 d2 u1 u2 u3 u4 u5 u6 p1 p2 p3 p4 hB10
  obtain ⟨r5, hr5⟩ : ∃ r, x2 % 5 = r := ⟨_, rfl⟩
  have hr5b : r5 < 5 := by omega
  have s1 : (x2 : Int).tmod 5 = (r5 : Int) := by rw [Int.tmod_eq_emod_of_nonneg (Int.natCast_nonneg _)]; omega
  have s2 : (x2 : Int) % 5 = (r5 : Int) := by omega
  have s3 : IntKind.u16.wrap (r5 : Int) = r5 := by simp [IntKind.wrap, IntKind.signed, IntKind.bits]; omega
  clear hr5
  obtain ⟨Z, hZ⟩ : ∃ Z, Z = List.replicate 32 (0 : Nat) := ⟨_, rfl⟩
  have hZl : Z.length = 32 := by rw [hZ]; simp
  have hmk : ∀ w : World, (Instr.makeSlice 46 (.int .i64 32) (.int .i64 32)).run Try.prog w = .ok (.slice (some ⟨w.heap.size, 0, none⟩) 32 32) (w.alloc (.cells (arr .u8 Z) 5)) := fun w => by
    have : arr .u8 Z = Array.replicate 32 (.int .u8 0) := by rw [hZ]; unfold arr; rw [List.map_replicate, List.toArray_replicate]; rfl
    rw [this]
    exact run_make1 (b := 1) Try.underlying46 (by kernel_rfl) rfl 32 (by decide) (by decide) w
  have hcz : (convert 46 9 (.slice (some ⟨W8.heap.size, 0, none⟩) 32 32)).run Try.prog (W8.alloc (.cells (arr .u8 Z) 5)) = .ok (.string (outB Z)) (W8.alloc (.cells (arr .u8 Z) 5)) := conv_row hZl (fun j hj => arr_cell (Whole.new W8 5 (arr .u8 Z)) (by omega))
  have hOz : (outB Z).size = 32 := by rw [outB_size, hZl]
  clear hZ hZl
  generalize outB Z = OZ at *
  have c1 : (0 : Int) ≤ (N : Int) - 1 := by omega
  have c2 : (N : Int) - 1 ≤ N := by omega
  have c3' : (0 : Int) ≤ (N : Int) - 32 := by omega
  have c4 : (N : Int) - 32 ≤ N := by omega
  have f2a := f2'
  have f2b : (W8.alloc (.cells (arr .u8 Z) 5)).cell? ⟨w.heap.size + 1, 2, none⟩ = some (.int .u16 x2) := Later.cell ((Later.refl W8).alloc (.cells (arr .u8 Z) 5)) f2'
  have hr : r5 = 0 ∨ r5 = 1 ∨ r5 = 2 ∨ r5 = 3 ∨ r5 = 4 := by omega
  go_upto_region 11 with (fail)
  have hy2 : x2 % 2 = 0 ∨ x2 % 2 = 1 := by omega
  rcases hr with rfl | rfl | rfl | rfl | rfl
  · have hS : (sb).size ≤ 1073741824 := by omega
    go_upto_region 17 with (fail)
    clear f2b hcz
    clear hmk hsz1 hOz
    generalize sb = s at *
    have hP' : Whole _ w.heap.size 33 #[.string p.1, .string p.2] := hP
    have pc0 := hP'.cell 0
    have pc1 := hP'.cell 1
    rcases hy2 with hy2 | hy2
    · have t1 : (x2 : Int).tmod 2 = 0 := by rw [Int.tmod_eq_emod_of_nonneg (Int.natCast_nonneg _)]; omega
      have t2 : (x2 : Int) % 2 = 0 := by omega
      have VV2 := fun w => VV.out true s hS w
      have HH2 := fun w => HH.out true s hS w
      generalize vfy RT p.1 true p.2 s = vr at *
      replace VV2 := Lib.hid VV2
      replace HH2 := Lib.hid HH2
      clear hy2
      go_upto_region 18 with (fail)
      refine wp_region_grow 16 102 (by kernel_rfl) (by kernel_rfl) rfl (fun w6 hl6 => ?_)
      simp only [List.take_succ_cons, List.take_zero, List.drop_succ_cons, List.drop_zero]
      generalize ha : Act.mk _ _ = a0
      have k4 : a0.eval (.tmp 4) = .pointer (some ⟨w.heap.size, 0, none⟩) := by subst ha; rfl
      have k7 : a0.eval (.tmp 7) = .pointer (some ⟨GT, 0, none⟩) := by subst ha; rfl
      have k8 : a0.eval (.tmp 8) = .pointer (some ⟨GE, 0, none⟩) := by subst ha; rfl
      have k10 : a0.eval (.tmp 10) = .string RT := by subst ha; rfl
      have k12 : a0.eval (.tmp 12) = .string s := by subst ha; rfl
      have k13 : a0.eval (.tmp 13) = .bool true := by subst ha; rfl
      have ks : a0.tmps.size = 102 := by subst ha; rfl
      have ha0 := ha.symm
      clear ha
      refine wpG_loadW (hl6.whole hT) Try.underlying29 rfl (hsz) (fun a w hk => (hk 7 rfl : a.eval (.tmp 7) = a0.eval (.tmp 7)).trans k7) ?_
      refine wpG_move (fun a w hk => (hk 10 rfl : a.eval (.tmp 10) = a0.eval (.tmp 10)).trans k10) ?_
      apply wpG_value'
      · rfl
      · (intro a wx hlx hk K hK; have e4 : a.eval (.tmp 4) = _ := (hk 4 rfl : a.eval (.tmp 4) = a0.eval (.tmp 4)).trans k4; simp only [execOp, e4]; clear e4 hk; go_simp; exact hK)
      refine wpG_load1 (hl6.cell pc0) Try.underlying9 rfl (fun a w hk => hk 88 rfl) ?_
      apply wpG_value'
      · rfl
      · (intro a wx hlx hk K hK; have e4 : a.eval (.tmp 4) = _ := (hk 4 rfl : a.eval (.tmp 4) = a0.eval (.tmp 4)).trans k4; simp only [execOp, e4]; clear e4 hk; go_simp; exact hK)
      refine wpG_load1 (hl6.cell pc1) Try.underlying9 rfl (fun a w hk => hk 90 rfl) ?_
      refine wpG_move (fun a w hk => (hk 13 rfl : a.eval (.tmp 13) = a0.eval (.tmp 13)).trans k13) ?_
      refine wpG_move (fun a w hk => (hk 12 rfl : a.eval (.tmp 12) = a0.eval (.tmp 12)).trans k12) ?_
      refine wpG_call _ _ Try.func25 (by kernel_rfl) (by kernel_rfl) (fun W _ => VV2.out W) (fun a w hk => by have e86 : a.eval (.tmp 86) = _ := hk 86 rfl; have e87 : a.eval (.tmp 87) = _ := hk 87 rfl; have e89 : a.eval (.tmp 89) = _ := hk 89 rfl; have e91 : a.eval (.tmp 91) = _ := hk 91 rfl; have e92 : a.eval (.tmp 92) = _ := hk 92 rfl; have e93 : a.eval (.tmp 93) = _ := hk 93 rfl; simp [e86, e87, e89, e91, e92, e93]) ?_
      refine wpG_loadW (hl6.whole hE) Try.underlying41 rfl (hi7) (fun a w hk => (hk 8 rfl : a.eval (.tmp 8) = a0.eval (.tmp 8)).trans k8) ?_
      refine wpG_move (fun a w hk => (hk 10 rfl : a.eval (.tmp 10) = a0.eval (.tmp 10)).trans k10) ?_
      refine wpG_loadW (hl6.whole hP') Try.underlying33 rfl (by first | kernel_rfl | assumption) (fun a w hk => (hk 4 rfl : a.eval (.tmp 4) = a0.eval (.tmp 4)).trans k4) ?_
      refine wpG_move (fun a w hk => (hk 13 rfl : a.eval (.tmp 13) = a0.eval (.tmp 13)).trans k13) ?_
      refine wpG_move (fun a w hk => (hk 12 rfl : a.eval (.tmp 12) = a0.eval (.tmp 12)).trans k12) ?_
      refine wpG_call _ _ Try.func26 (by kernel_rfl) (by kernel_rfl) (fun W _ => HH2.out W) (fun a w hk => by have e95 : a.eval (.tmp 95) = _ := hk 95 rfl; have e96 : a.eval (.tmp 96) = _ := hk 96 rfl; have e97 : a.eval (.tmp 97) = _ := hk 97 rfl; have e98 : a.eval (.tmp 98) = _ := hk 98 rfl; have e99 : a.eval (.tmp 99) = _ := hk 99 rfl; simp [e95, e96, e97, e98, e99]) ?_
      apply wpG_value'
      · rfl
      · (intro a wx hlx hk K hK; have e94 : a.eval (.tmp 94) = _ := hk 94 rfl; have e100 : a.eval (.tmp 100) = _ := hk 100 rfl; simp only [execOp, e94, e100]; clear e94 e100 hk; go_simp; exact hK)
      refine wpG_nil (fun w6' hl6' => ?_)
      refine fin_is ?_
      refine fin_is ?_
      refine fin_is ?_
      refine fin_is ?_
      refine fin_is ?_
      refine fin_is ?_
      refine fin_is ?_
      refine fin_is ?_
      refine fin_is ?_
      refine fin_is ?_
      refine fin_is ?_
      refine fin_is ?_
      refine fin_is ?_
      refine fin_is ?_
      refine fin_is ?_
      refine fin_is ?_
      refine fin_nil ?_
      subst ha0
      clear k4 k7 k8 k10 k12 k13 ks
      simp only [Act.put, List.setIfInBounds_toArray, List.set_cons_succ, List.set_cons_zero]
      go_wp2_with (fail)
      go_returns
      go_light
      exact ⟨ret_bool (by first | rfl | simp), Later.trans hB0 (Later.trans hB (hl6.trans hl6'))⟩
    · have t1 : (x2 : Int).tmod 2 = 1 := by rw [Int.tmod_eq_emod_of_nonneg (Int.natCast_nonneg _)]; omega
      have t2 : (x2 : Int) % 2 = 1 := by omega
      have VV2 := fun w => VV.out false s hS w
      have HH2 := fun w => HH.out false s hS w
      generalize vfy RT p.1 false p.2 s = vr at *
      replace VV2 := Lib.hid VV2
      replace HH2 := Lib.hid HH2
      clear hy2
      go_upto_region 18 with (fail)
      refine wp_region_grow 16 102 (by kernel_rfl) (by kernel_rfl) rfl (fun w6 hl6 => ?_)
      simp only [List.take_succ_cons, List.take_zero, List.drop_succ_cons, List.drop_zero]
      generalize ha : Act.mk _ _ = a0
      have k4 : a0.eval (.tmp 4) = .pointer (some ⟨w.heap.size, 0, none⟩) := by subst ha; rfl
      have k7 : a0.eval (.tmp 7) = .pointer (some ⟨GT, 0, none⟩) := by subst ha; rfl
      have k8 : a0.eval (.tmp 8) = .pointer (some ⟨GE, 0, none⟩) := by subst ha; rfl
      have k10 : a0.eval (.tmp 10) = .string RT := by subst ha; rfl
      have k12 : a0.eval (.tmp 12) = .string s := by subst ha; rfl
      have k13 : a0.eval (.tmp 13) = .bool false := by subst ha; rfl
      have ks : a0.tmps.size = 102 := by subst ha; rfl
      have ha0 := ha.symm
      clear ha
      refine wpG_loadW (hl6.whole hT) Try.underlying29 rfl (hsz) (fun a w hk => (hk 7 rfl : a.eval (.tmp 7) = a0.eval (.tmp 7)).trans k7) ?_
      refine wpG_move (fun a w hk => (hk 10 rfl : a.eval (.tmp 10) = a0.eval (.tmp 10)).trans k10) ?_
      apply wpG_value'
      · rfl
      · (intro a wx hlx hk K hK; have e4 : a.eval (.tmp 4) = _ := (hk 4 rfl : a.eval (.tmp 4) = a0.eval (.tmp 4)).trans k4; simp only [execOp, e4]; clear e4 hk; go_simp; exact hK)
      refine wpG_load1 (hl6.cell pc0) Try.underlying9 rfl (fun a w hk => hk 88 rfl) ?_
      apply wpG_value'
      · rfl
      · (intro a wx hlx hk K hK; have e4 : a.eval (.tmp 4) = _ := (hk 4 rfl : a.eval (.tmp 4) = a0.eval (.tmp 4)).trans k4; simp only [execOp, e4]; clear e4 hk; go_simp; exact hK)
      refine wpG_load1 (hl6.cell pc1) Try.underlying9 rfl (fun a w hk => hk 90 rfl) ?_
      refine wpG_move (fun a w hk => (hk 13 rfl : a.eval (.tmp 13) = a0.eval (.tmp 13)).trans k13) ?_
      refine wpG_move (fun a w hk => (hk 12 rfl : a.eval (.tmp 12) = a0.eval (.tmp 12)).trans k12) ?_
      refine wpG_call _ _ Try.func25 (by kernel_rfl) (by kernel_rfl) (fun W _ => VV2.out W) (fun a w hk => by have e86 : a.eval (.tmp 86) = _ := hk 86 rfl; have e87 : a.eval (.tmp 87) = _ := hk 87 rfl; have e89 : a.eval (.tmp 89) = _ := hk 89 rfl; have e91 : a.eval (.tmp 91) = _ := hk 91 rfl; have e92 : a.eval (.tmp 92) = _ := hk 92 rfl; have e93 : a.eval (.tmp 93) = _ := hk 93 rfl; simp [e86, e87, e89, e91, e92, e93]) ?_
      refine wpG_loadW (hl6.whole hE) Try.underlying41 rfl (hi7) (fun a w hk => (hk 8 rfl : a.eval (.tmp 8) = a0.eval (.tmp 8)).trans k8) ?_
      refine wpG_move (fun a w hk => (hk 10 rfl : a.eval (.tmp 10) = a0.eval (.tmp 10)).trans k10) ?_
      refine wpG_loadW (hl6.whole hP') Try.underlying33 rfl (by first | kernel_rfl | assumption) (fun a w hk => (hk 4 rfl : a.eval (.tmp 4) = a0.eval (.tmp 4)).trans k4) ?_
      refine wpG_move (fun a w hk => (hk 13 rfl : a.eval (.tmp 13) = a0.eval (.tmp 13)).trans k13) ?_
      refine wpG_move (fun a w hk => (hk 12 rfl : a.eval (.tmp 12) = a0.eval (.tmp 12)).trans k12) ?_
      refine wpG_call _ _ Try.func26 (by kernel_rfl) (by kernel_rfl) (fun W _ => HH2.out W) (fun a w hk => by have e95 : a.eval (.tmp 95) = _ := hk 95 rfl; have e96 : a.eval (.tmp 96) = _ := hk 96 rfl; have e97 : a.eval (.tmp 97) = _ := hk 97 rfl; have e98 : a.eval (.tmp 98) = _ := hk 98 rfl; have e99 : a.eval (.tmp 99) = _ := hk 99 rfl; simp [e95, e96, e97, e98, e99]) ?_
      apply wpG_value'
      · rfl
      · (intro a wx hlx hk K hK; have e94 : a.eval (.tmp 94) = _ := hk 94 rfl; have e100 : a.eval (.tmp 100) = _ := hk 100 rfl; simp only [execOp, e94, e100]; clear e94 e100 hk; go_simp; exact hK)
      refine wpG_nil (fun w6' hl6' => ?_)
      refine fin_is ?_
      refine fin_is ?_
      refine fin_is ?_
      refine fin_is ?_
      refine fin_is ?_
      refine fin_is ?_
      refine fin_is ?_
      refine fin_is ?_
      refine fin_is ?_
      refine fin_is ?_
      refine fin_is ?_
      refine fin_is ?_
      refine fin_is ?_
      refine fin_is ?_
      refine fin_is ?_
      refine fin_is ?_
      refine fin_nil ?_
      subst ha0
      clear k4 k7 k8 k10 k12 k13 ks
      simp only [Act.put, List.setIfInBounds_toArray, List.set_cons_succ, List.set_cons_zero]
      go_wp2_with (fail)
      go_returns
      go_light
      exact ⟨ret_bool (by first | rfl | simp), Later.trans hB0 (Later.trans hB (hl6.trans hl6'))⟩
  · have hS : (sb ++ OZ).size ≤ 1073741824 := by rw [ByteArray.size_append]; omega
    replace hT := hT.alloc (.cells (arr .u8 Z) 5)
    replace hE := hE.alloc (.cells (arr .u8 Z) 5)
    replace hP := hP.alloc (.cells (arr .u8 Z) 5)
    replace hB : Later W0 (W8.alloc (.cells (arr .u8 Z) 5)) := Below.alloc hB hB.size _
    go_upto_region 17 with (fail)
    clear f2' f2a hcz
    generalize W8.alloc (.cells (arr .u8 Z) 5) = W10 at *
    clear hmk hsz1 hOz
    generalize sb ++ OZ = s at *
    have hP' : Whole _ w.heap.size 33 #[.string p.1, .string p.2] := hP
    have pc0 := hP'.cell 0
    have pc1 := hP'.cell 1
    rcases hy2 with hy2 | hy2
    · have t1 : (x2 : Int).tmod 2 = 0 := by rw [Int.tmod_eq_emod_of_nonneg (Int.natCast_nonneg _)]; omega
      have t2 : (x2 : Int) % 2 = 0 := by omega
      have VV2 := fun w => VV.out true s hS w
      have HH2 := fun w => HH.out true s hS w
      generalize vfy RT p.1 true p.2 s = vr at *
      replace VV2 := Lib.hid VV2
      replace HH2 := Lib.hid HH2
      clear hy2
      go_upto_region 18 with (fail)
      refine wp_region_grow 16 102 (by kernel_rfl) (by kernel_rfl) rfl (fun w6 hl6 => ?_)
      simp only [List.take_succ_cons, List.take_zero, List.drop_succ_cons, List.drop_zero]
      generalize ha : Act.mk _ _ = a0
      have k4 : a0.eval (.tmp 4) = .pointer (some ⟨w.heap.size, 0, none⟩) := by subst ha; rfl
      have k7 : a0.eval (.tmp 7) = .pointer (some ⟨GT, 0, none⟩) := by subst ha; rfl
      have k8 : a0.eval (.tmp 8) = .pointer (some ⟨GE, 0, none⟩) := by subst ha; rfl
      have k10 : a0.eval (.tmp 10) = .string RT := by subst ha; rfl
      have k12 : a0.eval (.tmp 12) = .string s := by subst ha; rfl
      have k13 : a0.eval (.tmp 13) = .bool true := by subst ha; rfl
      have ks : a0.tmps.size = 102 := by subst ha; rfl
      have ha0 := ha.symm
      clear ha
      refine wpG_loadW (hl6.whole hT) Try.underlying29 rfl (hsz) (fun a w hk => (hk 7 rfl : a.eval (.tmp 7) = a0.eval (.tmp 7)).trans k7) ?_
      refine wpG_move (fun a w hk => (hk 10 rfl : a.eval (.tmp 10) = a0.eval (.tmp 10)).trans k10) ?_
      apply wpG_value'
      · rfl
      · (intro a wx hlx hk K hK; have e4 : a.eval (.tmp 4) = _ := (hk 4 rfl : a.eval (.tmp 4) = a0.eval (.tmp 4)).trans k4; simp only [execOp, e4]; clear e4 hk; go_simp; exact hK)
      refine wpG_load1 (hl6.cell pc0) Try.underlying9 rfl (fun a w hk => hk 88 rfl) ?_
      apply wpG_value'
      · rfl
      · (intro a wx hlx hk K hK; have e4 : a.eval (.tmp 4) = _ := (hk 4 rfl : a.eval (.tmp 4) = a0.eval (.tmp 4)).trans k4; simp only [execOp, e4]; clear e4 hk; go_simp; exact hK)
      refine wpG_load1 (hl6.cell pc1) Try.underlying9 rfl (fun a w hk => hk 90 rfl) ?_
      refine wpG_move (fun a w hk => (hk 13 rfl : a.eval (.tmp 13) = a0.eval (.tmp 13)).trans k13) ?_
      refine wpG_move (fun a w hk => (hk 12 rfl : a.eval (.tmp 12) = a0.eval (.tmp 12)).trans k12) ?_
      refine wpG_call _ _ Try.func25 (by kernel_rfl) (by kernel_rfl) (fun W _ => VV2.out W) (fun a w hk => by have e86 : a.eval (.tmp 86) = _ := hk 86 rfl; have e87 : a.eval (.tmp 87) = _ := hk 87 rfl; have e89 : a.eval (.tmp 89) = _ := hk 89 rfl; have e91 : a.eval (.tmp 91) = _ := hk 91 rfl; have e92 : a.eval (.tmp 92) = _ := hk 92 rfl; have e93 : a.eval (.tmp 93) = _ := hk 93 rfl; simp [e86, e87, e89, e91, e92, e93]) ?_
      refine wpG_loadW (hl6.whole hE) Try.underlying41 rfl (hi7) (fun a w hk => (hk 8 rfl : a.eval (.tmp 8) = a0.eval (.tmp 8)).trans k8) ?_
      refine wpG_move (fun a w hk => (hk 10 rfl : a.eval (.tmp 10) = a0.eval (.tmp 10)).trans k10) ?_
      refine wpG_loadW (hl6.whole hP') Try.underlying33 rfl (by first | kernel_rfl | assumption) (fun a w hk => (hk 4 rfl : a.eval (.tmp 4) = a0.eval (.tmp 4)).trans k4) ?_
      refine wpG_move (fun a w hk => (hk 13 rfl : a.eval (.tmp 13) = a0.eval (.tmp 13)).trans k13) ?_
      refine wpG_move (fun a w hk => (hk 12 rfl : a.eval (.tmp 12) = a0.eval (.tmp 12)).trans k12) ?_
      refine wpG_call _ _ Try.func26 (by kernel_rfl) (by kernel_rfl) (fun W _ => HH2.out W) (fun a w hk => by have e95 : a.eval (.tmp 95) = _ := hk 95 rfl; have e96 : a.eval (.tmp 96) = _ := hk 96 rfl; have e97 : a.eval (.tmp 97) = _ := hk 97 rfl; have e98 : a.eval (.tmp 98) = _ := hk 98 rfl; have e99 : a.eval (.tmp 99) = _ := hk 99 rfl; simp [e95, e96, e97, e98, e99]) ?_
      apply wpG_value'
      · rfl
      · (intro a wx hlx hk K hK; have e94 : a.eval (.tmp 94) = _ := hk 94 rfl; have e100 : a.eval (.tmp 100) = _ := hk 100 rfl; simp only [execOp, e94, e100]; clear e94 e100 hk; go_simp; exact hK)
      refine wpG_nil (fun w6' hl6' => ?_)
      refine fin_is ?_
      refine fin_is ?_
      refine fin_is ?_
      refine fin_is ?_
      refine fin_is ?_
      refine fin_is ?_
      refine fin_is ?_
      refine fin_is ?_
      refine fin_is ?_
      refine fin_is ?_
      refine fin_is ?_
      refine fin_is ?_
      refine fin_is ?_
      refine fin_is ?_
      refine fin_is ?_
      refine fin_is ?_
      refine fin_nil ?_
      subst ha0
      clear k4 k7 k8 k10 k12 k13 ks
      simp only [Act.put, List.setIfInBounds_toArray, List.set_cons_succ, List.set_cons_zero]
      go_wp2_with (fail)
      go_returns
      go_light
      exact ⟨ret_bool (by first | rfl | simp), Later.trans hB0 (Later.trans hB (hl6.trans hl6'))⟩
    · have t1 : (x2 : Int).tmod 2 = 1 := by rw [Int.tmod_eq_emod_of_nonneg (Int.natCast_nonneg _)]; omega
      have t2 : (x2 : Int) % 2 = 1 := by omega
      have VV2 := fun w => VV.out false s hS w
      have HH2 := fun w => HH.out false s hS w
      generalize vfy RT p.1 false p.2 s = vr at *
      replace VV2 := Lib.hid VV2
      replace HH2 := Lib.hid HH2
      clear hy2
      go_upto_region 18 with (fail)
      refine wp_region_grow 16 102 (by kernel_rfl) (by kernel_rfl) rfl (fun w6 hl6 => ?_)
      simp only [List.take_succ_cons, List.take_zero, List.drop_succ_cons, List.drop_zero]
      generalize ha : Act.mk _ _ = a0
      have k4 : a0.eval (.tmp 4) = .pointer (some ⟨w.heap.size, 0, none⟩) := by subst ha; rfl
      have k7 : a0.eval (.tmp 7) = .pointer (some ⟨GT, 0, none⟩) := by subst ha; rfl
      have k8 : a0.eval (.tmp 8) = .pointer (some ⟨GE, 0, none⟩) := by subst ha; rfl
      have k10 : a0.eval (.tmp 10) = .string RT := by subst ha; rfl
      have k12 : a0.eval (.tmp 12) = .string s := by subst ha; rfl
      have k13 : a0.eval (.tmp 13) = .bool false := by subst ha; rfl
      have ks : a0.tmps.size = 102 := by subst ha; rfl
      have ha0 := ha.symm
      clear ha
      refine wpG_loadW (hl6.whole hT) Try.underlying29 rfl (hsz) (fun a w hk => (hk 7 rfl : a.eval (.tmp 7) = a0.eval (.tmp 7)).trans k7) ?_
      refine wpG_move (fun a w hk => (hk 10 rfl : a.eval (.tmp 10) = a0.eval (.tmp 10)).trans k10) ?_
      apply wpG_value'
      · rfl
      · (intro a wx hlx hk K hK; have e4 : a.eval (.tmp 4) = _ := (hk 4 rfl : a.eval (.tmp 4) = a0.eval (.tmp 4)).trans k4; simp only [execOp, e4]; clear e4 hk; go_simp; exact hK)
      refine wpG_load1 (hl6.cell pc0) Try.underlying9 rfl (fun a w hk => hk 88 rfl) ?_
      apply wpG_value'
      · rfl
      · (intro a wx hlx hk K hK; have e4 : a.eval (.tmp 4) = _ := (hk 4 rfl : a.eval (.tmp 4) = a0.eval (.tmp 4)).trans k4; simp only [execOp, e4]; clear e4 hk; go_simp; exact hK)
      refine wpG_load1 (hl6.cell pc1) Try.underlying9 rfl (fun a w hk => hk 90 rfl) ?_
      refine wpG_move (fun a w hk => (hk 13 rfl : a.eval (.tmp 13) = a0.eval (.tmp 13)).trans k13) ?_
      refine wpG_move (fun a w hk => (hk 12 rfl : a.eval (.tmp 12) = a0.eval (.tmp 12)).trans k12) ?_
      refine wpG_call _ _ Try.func25 (by kernel_rfl) (by kernel_rfl) (fun W _ => VV2.out W) (fun a w hk => by have e86 : a.eval (.tmp 86) = _ := hk 86 rfl; have e87 : a.eval (.tmp 87) = _ := hk 87 rfl; have e89 : a.eval (.tmp 89) = _ := hk 89 rfl; have e91 : a.eval (.tmp 91) = _ := hk 91 rfl; have e92 : a.eval (.tmp 92) = _ := hk 92 rfl; have e93 : a.eval (.tmp 93) = _ := hk 93 rfl; simp [e86, e87, e89, e91, e92, e93]) ?_
      refine wpG_loadW (hl6.whole hE) Try.underlying41 rfl (hi7) (fun a w hk => (hk 8 rfl : a.eval (.tmp 8) = a0.eval (.tmp 8)).trans k8) ?_
      refine wpG_move (fun a w hk => (hk 10 rfl : a.eval (.tmp 10) = a0.eval (.tmp 10)).trans k10) ?_
      refine wpG_loadW (hl6.whole hP') Try.underlying33 rfl (by first | kernel_rfl | assumption) (fun a w hk => (hk 4 rfl : a.eval (.tmp 4) = a0.eval (.tmp 4)).trans k4) ?_
      refine wpG_move (fun a w hk => (hk 13 rfl : a.eval (.tmp 13) = a0.eval (.tmp 13)).trans k13) ?_
      refine wpG_move (fun a w hk => (hk 12 rfl : a.eval (.tmp 12) = a0.eval (.tmp 12)).trans k12) ?_
      refine wpG_call _ _ Try.func26 (by kernel_rfl) (by kernel_rfl) (fun W _ => HH2.out W) (fun a w hk => by have e95 : a.eval (.tmp 95) = _ := hk 95 rfl; have e96 : a.eval (.tmp 96) = _ := hk 96 rfl; have e97 : a.eval (.tmp 97) = _ := hk 97 rfl; have e98 : a.eval (.tmp 98) = _ := hk 98 rfl; have e99 : a.eval (.tmp 99) = _ := hk 99 rfl; simp [e95, e96, e97, e98, e99]) ?_
      apply wpG_value'
      · rfl
      · (intro a wx hlx hk K hK; have e94 : a.eval (.tmp 94) = _ := hk 94 rfl; have e100 : a.eval (.tmp 100) = _ := hk 100 rfl; simp only [execOp, e94, e100]; clear e94 e100 hk; go_simp; exact hK)
      refine wpG_nil (fun w6' hl6' => ?_)
      refine fin_is ?_
      refine fin_is ?_
      refine fin_is ?_
      refine fin_is ?_
      refine fin_is ?_
      refine fin_is ?_
      refine fin_is ?_
      refine fin_is ?_
      refine fin_is ?_
      refine fin_is ?_
      refine fin_is ?_
      refine fin_is ?_
      refine fin_is ?_
      refine fin_is ?_
      refine fin_is ?_
      refine fin_is ?_
      refine fin_nil ?_
      subst ha0
      clear k4 k7 k8 k10 k12 k13 ks
      simp only [Act.put, List.setIfInBounds_toArray, List.set_cons_succ, List.set_cons_zero]
      go_wp2_with (fail)
      go_returns
      go_light
      exact ⟨ret_bool (by first | rfl | simp), Later.trans hB0 (Later.trans hB (hl6.trans hl6'))⟩
  · have hS : (sb.extract 0 (N - 1)).size ≤ 1073741824 := by rw [ByteArray.size_extract]; omega
    go_upto_region 17 with (fail)
    clear f2b hcz
    clear hmk hsz1 hOz
    generalize sb.extract 0 (N - 1) = s at *
    have hP' : Whole _ w.heap.size 33 #[.string p.1, .string p.2] := hP
    have pc0 := hP'.cell 0
    have pc1 := hP'.cell 1
    rcases hy2 with hy2 | hy2
    · have t1 : (x2 : Int).tmod 2 = 0 := by rw [Int.tmod_eq_emod_of_nonneg (Int.natCast_nonneg _)]; omega
      have t2 : (x2 : Int) % 2 = 0 := by omega
      have VV2 := fun w => VV.out true s hS w
      have HH2 := fun w => HH.out true s hS w
      generalize vfy RT p.1 true p.2 s = vr at *
      replace VV2 := Lib.hid VV2
      replace HH2 := Lib.hid HH2
      clear hy2
      go_upto_region 18 with (fail)
      refine wp_region_grow 16 102 (by kernel_rfl) (by kernel_rfl) rfl (fun w6 hl6 => ?_)
      simp only [List.take_succ_cons, List.take_zero, List.drop_succ_cons, List.drop_zero]
      generalize ha : Act.mk _ _ = a0
      have k4 : a0.eval (.tmp 4) = .pointer (some ⟨w.heap.size, 0, none⟩) := by subst ha; rfl
      have k7 : a0.eval (.tmp 7) = .pointer (some ⟨GT, 0, none⟩) := by subst ha; rfl
      have k8 : a0.eval (.tmp 8) = .pointer (some ⟨GE, 0, none⟩) := by subst ha; rfl
      have k10 : a0.eval (.tmp 10) = .string RT := by subst ha; rfl
      have k12 : a0.eval (.tmp 12) = .string s := by subst ha; rfl
      have k13 : a0.eval (.tmp 13) = .bool true := by subst ha; rfl
      have ks : a0.tmps.size = 102 := by subst ha; rfl
      have ha0 := ha.symm
      clear ha
      refine wpG_loadW (hl6.whole hT) Try.underlying29 rfl (hsz) (fun a w hk => (hk 7 rfl : a.eval (.tmp 7) = a0.eval (.tmp 7)).trans k7) ?_
      refine wpG_move (fun a w hk => (hk 10 rfl : a.eval (.tmp 10) = a0.eval (.tmp 10)).trans k10) ?_
      apply wpG_value'
      · rfl
      · (intro a wx hlx hk K hK; have e4 : a.eval (.tmp 4) = _ := (hk 4 rfl : a.eval (.tmp 4) = a0.eval (.tmp 4)).trans k4; simp only [execOp, e4]; clear e4 hk; go_simp; exact hK)
      refine wpG_load1 (hl6.cell pc0) Try.underlying9 rfl (fun a w hk => hk 88 rfl) ?_
      apply wpG_value'
      · rfl
      · (intro a wx hlx hk K hK; have e4 : a.eval (.tmp 4) = _ := (hk 4 rfl : a.eval (.tmp 4) = a0.eval (.tmp 4)).trans k4; simp only [execOp, e4]; clear e4 hk; go_simp; exact hK)
      refine wpG_load1 (hl6.cell pc1) Try.underlying9 rfl (fun a w hk => hk 90 rfl) ?_
      refine wpG_move (fun a w hk => (hk 13 rfl : a.eval (.tmp 13) = a0.eval (.tmp 13)).trans k13) ?_
      refine wpG_move (fun a w hk => (hk 12 rfl : a.eval (.tmp 12) = a0.eval (.tmp 12)).trans k12) ?_
      refine wpG_call _ _ Try.func25 (by kernel_rfl) (by kernel_rfl) (fun W _ => VV2.out W) (fun a w hk => by have e86 : a.eval (.tmp 86) = _ := hk 86 rfl; have e87 : a.eval (.tmp 87) = _ := hk 87 rfl; have e89 : a.eval (.tmp 89) = _ := hk 89 rfl; have e91 : a.eval (.tmp 91) = _ := hk 91 rfl; have e92 : a.eval (.tmp 92) = _ := hk 92 rfl; have e93 : a.eval (.tmp 93) = _ := hk 93 rfl; simp [e86, e87, e89, e91, e92, e93]) ?_
      refine wpG_loadW (hl6.whole hE) Try.underlying41 rfl (hi7) (fun a w hk => (hk 8 rfl : a.eval (.tmp 8) = a0.eval (.tmp 8)).trans k8) ?_
      refine wpG_move (fun a w hk => (hk 10 rfl : a.eval (.tmp 10) = a0.eval (.tmp 10)).trans k10) ?_
      refine wpG_loadW (hl6.whole hP') Try.underlying33 rfl (by first | kernel_rfl | assumption) (fun a w hk => (hk 4 rfl : a.eval (.tmp 4) = a0.eval (.tmp 4)).trans k4) ?_
      refine wpG_move (fun a w hk => (hk 13 rfl : a.eval (.tmp 13) = a0.eval (.tmp 13)).trans k13) ?_
      refine wpG_move (fun a w hk => (hk 12 rfl : a.eval (.tmp 12) = a0.eval (.tmp 12)).trans k12) ?_
      refine wpG_call _ _ Try.func26 (by kernel_rfl) (by kernel_rfl) (fun W _ => HH2.out W) (fun a w hk => by have e95 : a.eval (.tmp 95) = _ := hk 95 rfl; have e96 : a.eval (.tmp 96) = _ := hk 96 rfl; have e97 : a.eval (.tmp 97) = _ := hk 97 rfl; have e98 : a.eval (.tmp 98) = _ := hk 98 rfl; have e99 : a.eval (.tmp 99) = _ := hk 99 rfl; simp [e95, e96, e97, e98, e99]) ?_
      apply wpG_value'
      · rfl
      · (intro a wx hlx hk K hK; have e94 : a.eval (.tmp 94) = _ := hk 94 rfl; have e100 : a.eval (.tmp 100) = _ := hk 100 rfl; simp only [execOp, e94, e100]; clear e94 e100 hk; go_simp; exact hK)
      refine wpG_nil (fun w6' hl6' => ?_)
      refine fin_is ?_
      refine fin_is ?_
      refine fin_is ?_
      refine fin_is ?_
      refine fin_is ?_
      refine fin_is ?_
      refine fin_is ?_
      refine fin_is ?_
      refine fin_is ?_
      refine fin_is ?_
      refine fin_is ?_
      refine fin_is ?_
      refine fin_is ?_
      refine fin_is ?_
      refine fin_is ?_
      refine fin_is ?_
      refine fin_nil ?_
      subst ha0
      clear k4 k7 k8 k10 k12 k13 ks
      simp only [Act.put, List.setIfInBounds_toArray, List.set_cons_succ, List.set_cons_zero]
      go_wp2_with (fail)
      go_returns
      go_light
      exact ⟨ret_bool (by first | rfl | simp), Later.trans hB0 (Later.trans hB (hl6.trans hl6'))⟩
    · have t1 : (x2 : Int).tmod 2 = 1 := by rw [Int.tmod_eq_emod_of_nonneg (Int.natCast_nonneg _)]; omega
      have t2 : (x2 : Int) % 2 = 1 := by omega
      have VV2 := fun w => VV.out false s hS w
      have HH2 := fun w => HH.out false s hS w
      generalize vfy RT p.1 false p.2 s = vr at *
      replace VV2 := Lib.hid VV2
      replace HH2 := Lib.hid HH2
      clear hy2
      go_upto_region 18 with (fail)
      refine wp_region_grow 16 102 (by kernel_rfl) (by kernel_rfl) rfl (fun w6 hl6 => ?_)
      simp only [List.take_succ_cons, List.take_zero, List.drop_succ_cons, List.drop_zero]
      generalize ha : Act.mk _ _ = a0
      have k4 : a0.eval (.tmp 4) = .pointer (some ⟨w.heap.size, 0, none⟩) := by subst ha; rfl
      have k7 : a0.eval (.tmp 7) = .pointer (some ⟨GT, 0, none⟩) := by subst ha; rfl
      have k8 : a0.eval (.tmp 8) = .pointer (some ⟨GE, 0, none⟩) := by subst ha; rfl
      have k10 : a0.eval (.tmp 10) = .string RT := by subst ha; rfl
      have k12 : a0.eval (.tmp 12) = .string s := by subst ha; rfl
      have k13 : a0.eval (.tmp 13) = .bool false := by subst ha; rfl
      have ks : a0.tmps.size = 102 := by subst ha; rfl
      have ha0 := ha.symm
      clear ha
      refine wpG_loadW (hl6.whole hT) Try.underlying29 rfl (hsz) (fun a w hk => (hk 7 rfl : a.eval (.tmp 7) = a0.eval (.tmp 7)).trans k7) ?_
      refine wpG_move (fun a w hk => (hk 10 rfl : a.eval (.tmp 10) = a0.eval (.tmp 10)).trans k10) ?_
      apply wpG_value'
      · rfl
      · (intro a wx hlx hk K hK; have e4 : a.eval (.tmp 4) = _ := (hk 4 rfl : a.eval (.tmp 4) = a0.eval (.tmp 4)).trans k4; simp only [execOp, e4]; clear e4 hk; go_simp; exact hK)
      refine wpG_load1 (hl6.cell pc0) Try.underlying9 rfl (fun a w hk => hk 88 rfl) ?_
      apply wpG_value'
      · rfl
      · (intro a wx hlx hk K hK; have e4 : a.eval (.tmp 4) = _ := (hk 4 rfl : a.eval (.tmp 4) = a0.eval (.tmp 4)).trans k4; simp only [execOp, e4]; clear e4 hk; go_simp; exact hK)
      refine wpG_load1 (hl6.cell pc1) Try.underlying9 rfl (fun a w hk => hk 90 rfl) ?_
      refine wpG_move (fun a w hk => (hk 13 rfl : a.eval (.tmp 13) = a0.eval (.tmp 13)).trans k13) ?_
      refine wpG_move (fun a w hk => (hk 12 rfl : a.eval (.tmp 12) = a0.eval (.tmp 12)).trans k12) ?_
      refine wpG_call _ _ Try.func25 (by kernel_rfl) (by kernel_rfl) (fun W _ => VV2.out W) (fun a w hk => by have e86 : a.eval (.tmp 86) = _ := hk 86 rfl; have e87 : a.eval (.tmp 87) = _ := hk 87 rfl; have e89 : a.eval (.tmp 89) = _ := hk 89 rfl; have e91 : a.eval (.tmp 91) = _ := hk 91 rfl; have e92 : a.eval (.tmp 92) = _ := hk 92 rfl; have e93 : a.eval (.tmp 93) = _ := hk 93 rfl; simp [e86, e87, e89, e91, e92, e93]) ?_
      refine wpG_loadW (hl6.whole hE) Try.underlying41 rfl (hi7) (fun a w hk => (hk 8 rfl : a.eval (.tmp 8) = a0.eval (.tmp 8)).trans k8) ?_
      refine wpG_move (fun a w hk => (hk 10 rfl : a.eval (.tmp 10) = a0.eval (.tmp 10)).trans k10) ?_
      refine wpG_loadW (hl6.whole hP') Try.underlying33 rfl (by first | kernel_rfl | assumption) (fun a w hk => (hk 4 rfl : a.eval (.tmp 4) = a0.eval (.tmp 4)).trans k4) ?_
      refine wpG_move (fun a w hk => (hk 13 rfl : a.eval (.tmp 13) = a0.eval (.tmp 13)).trans k13) ?_
      refine wpG_move (fun a w hk => (hk 12 rfl : a.eval (.tmp 12) = a0.eval (.tmp 12)).trans k12) ?_
      refine wpG_call _ _ Try.func26 (by kernel_rfl) (by kernel_rfl) (fun W _ => HH2.out W) (fun a w hk => by have e95 : a.eval (.tmp 95) = _ := hk 95 rfl; have e96 : a.eval (.tmp 96) = _ := hk 96 rfl; have e97 : a.eval (.tmp 97) = _ := hk 97 rfl; have e98 : a.eval (.tmp 98) = _ := hk 98 rfl; have e99 : a.eval (.tmp 99) = _ := hk 99 rfl; simp [e95, e96, e97, e98, e99]) ?_
      apply wpG_value'
      · rfl
      · (intro a wx hlx hk K hK; have e94 : a.eval (.tmp 94) = _ := hk 94 rfl; have e100 : a.eval (.tmp 100) = _ := hk 100 rfl; simp only [execOp, e94, e100]; clear e94 e100 hk; go_simp; exact hK)
      refine wpG_nil (fun w6' hl6' => ?_)
      refine fin_is ?_
      refine fin_is ?_
      refine fin_is ?_
      refine fin_is ?_
      refine fin_is ?_
      refine fin_is ?_
      refine fin_is ?_
      refine fin_is ?_
      refine fin_is ?_
      refine fin_is ?_
      refine fin_is ?_
      refine fin_is ?_
      refine fin_is ?_
      refine fin_is ?_
      refine fin_is ?_
      refine fin_is ?_
      refine fin_nil ?_
      subst ha0
      clear k4 k7 k8 k10 k12 k13 ks
      simp only [Act.put, List.setIfInBounds_toArray, List.set_cons_succ, List.set_cons_zero]
      go_wp2_with (fail)
      go_returns
      go_light
      exact ⟨ret_bool (by first | rfl | simp), Later.trans hB0 (Later.trans hB (hl6.trans hl6'))⟩
  · have hS : (sb.extract 0 (N - 32)).size ≤ 1073741824 := by rw [ByteArray.size_extract]; omega
    go_upto_region 17 with (fail)
    clear f2b hcz
    clear hmk hsz1 hOz
    generalize sb.extract 0 (N - 32) = s at *
    have hP' : Whole _ w.heap.size 33 #[.string p.1, .string p.2] := hP
    have pc0 := hP'.cell 0
    have pc1 := hP'.cell 1
    rcases hy2 with hy2 | hy2
    · have t1 : (x2 : Int).tmod 2 = 0 := by rw [Int.tmod_eq_emod_of_nonneg (Int.natCast_nonneg _)]; omega
      have t2 : (x2 : Int) % 2 = 0 := by omega
      have VV2 := fun w => VV.out true s hS w
      have HH2 := fun w => HH.out true s hS w
      generalize vfy RT p.1 true p.2 s = vr at *
      replace VV2 := Lib.hid VV2
      replace HH2 := Lib.hid HH2
      clear hy2
      go_upto_region 18 with (fail)
      refine wp_region_grow 16 102 (by kernel_rfl) (by kernel_rfl) rfl (fun w6 hl6 => ?_)
      simp only [List.take_succ_cons, List.take_zero, List.drop_succ_cons, List.drop_zero]
      generalize ha : Act.mk _ _ = a0
      have k4 : a0.eval (.tmp 4) = .pointer (some ⟨w.heap.size, 0, none⟩) := by subst ha; rfl
      have k7 : a0.eval (.tmp 7) = .pointer (some ⟨GT, 0, none⟩) := by subst ha; rfl
      have k8 : a0.eval (.tmp 8) = .pointer (some ⟨GE, 0, none⟩) := by subst ha; rfl
      have k10 : a0.eval (.tmp 10) = .string RT := by subst ha; rfl
      have k12 : a0.eval (.tmp 12) = .string s := by subst ha; rfl
      have k13 : a0.eval (.tmp 13) = .bool true := by subst ha; rfl
      have ks : a0.tmps.size = 102 := by subst ha; rfl
      have ha0 := ha.symm
      clear ha
      refine wpG_loadW (hl6.whole hT) Try.underlying29 rfl (hsz) (fun a w hk => (hk 7 rfl : a.eval (.tmp 7) = a0.eval (.tmp 7)).trans k7) ?_
      refine wpG_move (fun a w hk => (hk 10 rfl : a.eval (.tmp 10) = a0.eval (.tmp 10)).trans k10) ?_
      apply wpG_value'
      · rfl
      · (intro a wx hlx hk K hK; have e4 : a.eval (.tmp 4) = _ := (hk 4 rfl : a.eval (.tmp 4) = a0.eval (.tmp 4)).trans k4; simp only [execOp, e4]; clear e4 hk; go_simp; exact hK)
      refine wpG_load1 (hl6.cell pc0) Try.underlying9 rfl (fun a w hk => hk 88 rfl) ?_
      apply wpG_value'
      · rfl
      · (intro a wx hlx hk K hK; have e4 : a.eval (.tmp 4) = _ := (hk 4 rfl : a.eval (.tmp 4) = a0.eval (.tmp 4)).trans k4; simp only [execOp, e4]; clear e4 hk; go_simp; exact hK)
      refine wpG_load1 (hl6.cell pc1) Try.underlying9 rfl (fun a w hk => hk 90 rfl) ?_
      refine wpG_move (fun a w hk => (hk 13 rfl : a.eval (.tmp 13) = a0.eval (.tmp 13)).trans k13) ?_
      refine wpG_move (fun a w hk => (hk 12 rfl : a.eval (.tmp 12) = a0.eval (.tmp 12)).trans k12) ?_
      refine wpG_call _ _ Try.func25 (by kernel_rfl) (by kernel_rfl) (fun W _ => VV2.out W) (fun a w hk => by have e86 : a.eval (.tmp 86) = _ := hk 86 rfl; have e87 : a.eval (.tmp 87) = _ := hk 87 rfl; have e89 : a.eval (.tmp 89) = _ := hk 89 rfl; have e91 : a.eval (.tmp 91) = _ := hk 91 rfl; have e92 : a.eval (.tmp 92) = _ := hk 92 rfl; have e93 : a.eval (.tmp 93) = _ := hk 93 rfl; simp [e86, e87, e89, e91, e92, e93]) ?_
      refine wpG_loadW (hl6.whole hE) Try.underlying41 rfl (hi7) (fun a w hk => (hk 8 rfl : a.eval (.tmp 8) = a0.eval (.tmp 8)).trans k8) ?_
      refine wpG_move (fun a w hk => (hk 10 rfl : a.eval (.tmp 10) = a0.eval (.tmp 10)).trans k10) ?_
      refine wpG_loadW (hl6.whole hP') Try.underlying33 rfl (by first | kernel_rfl | assumption) (fun a w hk => (hk 4 rfl : a.eval (.tmp 4) = a0.eval (.tmp 4)).trans k4) ?_
      refine wpG_move (fun a w hk => (hk 13 rfl : a.eval (.tmp 13) = a0.eval (.tmp 13)).trans k13) ?_
      refine wpG_move (fun a w hk => (hk 12 rfl : a.eval (.tmp 12) = a0.eval (.tmp 12)).trans k12) ?_
      refine wpG_call _ _ Try.func26 (by kernel_rfl) (by kernel_rfl) (fun W _ => HH2.out W) (fun a w hk => by have e95 : a.eval (.tmp 95) = _ := hk 95 rfl; have e96 : a.eval (.tmp 96) = _ := hk 96 rfl; have e97 : a.eval (.tmp 97) = _ := hk 97 rfl; have e98 : a.eval (.tmp 98) = _ := hk 98 rfl; have e99 : a.eval (.tmp 99) = _ := hk 99 rfl; simp [e95, e96, e97, e98, e99]) ?_
      apply wpG_value'
      · rfl
      · (intro a wx hlx hk K hK; have e94 : a.eval (.tmp 94) = _ := hk 94 rfl; have e100 : a.eval (.tmp 100) = _ := hk 100 rfl; simp only [execOp, e94, e100]; clear e94 e100 hk; go_simp; exact hK)
      refine wpG_nil (fun w6' hl6' => ?_)
      refine fin_is ?_
      refine fin_is ?_
      refine fin_is ?_
      refine fin_is ?_
      refine fin_is ?_
      refine fin_is ?_
      refine fin_is ?_
      refine fin_is ?_
      refine fin_is ?_
      refine fin_is ?_
      refine fin_is ?_
      refine fin_is ?_
      refine fin_is ?_
      refine fin_is ?_
      refine fin_is ?_
      refine fin_is ?_
      refine fin_nil ?_
      subst ha0
      clear k4 k7 k8 k10 k12 k13 ks
      simp only [Act.put, List.setIfInBounds_toArray, List.set_cons_succ, List.set_cons_zero]
      go_wp2_with (fail)
      go_returns
      go_light
      exact ⟨ret_bool (by first | rfl | simp), Later.trans hB0 (Later.trans hB (hl6.trans hl6'))⟩
    · have t1 : (x2 : Int).tmod 2 = 1 := by rw [Int.tmod_eq_emod_of_nonneg (Int.natCast_nonneg _)]; omega
      have t2 : (x2 : Int) % 2 = 1 := by omega
      have VV2 := fun w => VV.out false s hS w
      have HH2 := fun w => HH.out false s hS w
      generalize vfy RT p.1 false p.2 s = vr at *
      replace VV2 := Lib.hid VV2
      replace HH2 := Lib.hid HH2
      clear hy2
      go_upto_region 18 with (fail)
      refine wp_region_grow 16 102 (by kernel_rfl) (by kernel_rfl) rfl (fun w6 hl6 => ?_)
      simp only [List.take_succ_cons, List.take_zero, List.drop_succ_cons, List.drop_zero]
      generalize ha : Act.mk _ _ = a0
      have k4 : a0.eval (.tmp 4) = .pointer (some ⟨w.heap.size, 0, none⟩) := by subst ha; rfl
      have k7 : a0.eval (.tmp 7) = .pointer (some ⟨GT, 0, none⟩) := by subst ha; rfl
      have k8 : a0.eval (.tmp 8) = .pointer (some ⟨GE, 0, none⟩) := by subst ha; rfl
      have k10 : a0.eval (.tmp 10) = .string RT := by subst ha; rfl
      have k12 : a0.eval (.tmp 12) = .string s := by subst ha; rfl
      have k13 : a0.eval (.tmp 13) = .bool false := by subst ha; rfl
      have ks : a0.tmps.size = 102 := by subst ha; rfl
      have ha0 := ha.symm
      clear ha
      refine wpG_loadW (hl6.whole hT) Try.underlying29 rfl (hsz) (fun a w hk => (hk 7 rfl : a.eval (.tmp 7) = a0.eval (.tmp 7)).trans k7) ?_
      refine wpG_move (fun a w hk => (hk 10 rfl : a.eval (.tmp 10) = a0.eval (.tmp 10)).trans k10) ?_
      apply wpG_value'
      · rfl
      · (intro a wx hlx hk K hK; have e4 : a.eval (.tmp 4) = _ := (hk 4 rfl : a.eval (.tmp 4) = a0.eval (.tmp 4)).trans k4; simp only [execOp, e4]; clear e4 hk; go_simp; exact hK)
      refine wpG_load1 (hl6.cell pc0) Try.underlying9 rfl (fun a w hk => hk 88 rfl) ?_
      apply wpG_value'
      · rfl
      · (intro a wx hlx hk K hK; have e4 : a.eval (.tmp 4) = _ := (hk 4 rfl : a.eval (.tmp 4) = a0.eval (.tmp 4)).trans k4; simp only [execOp, e4]; clear e4 hk; go_simp; exact hK)
      refine wpG_load1 (hl6.cell pc1) Try.underlying9 rfl (fun a w hk => hk 90 rfl) ?_
      refine wpG_move (fun a w hk => (hk 13 rfl : a.eval (.tmp 13) = a0.eval (.tmp 13)).trans k13) ?_
      refine wpG_move (fun a w hk => (hk 12 rfl : a.eval (.tmp 12) = a0.eval (.tmp 12)).trans k12) ?_
      refine wpG_call _ _ Try.func25 (by kernel_rfl) (by kernel_rfl) (fun W _ => VV2.out W) (fun a w hk => by have e86 : a.eval (.tmp 86) = _ := hk 86 rfl; have e87 : a.eval (.tmp 87) = _ := hk 87 rfl; have e89 : a.eval (.tmp 89) = _ := hk 89 rfl; have e91 : a.eval (.tmp 91) = _ := hk 91 rfl; have e92 : a.eval (.tmp 92) = _ := hk 92 rfl; have e93 : a.eval (.tmp 93) = _ := hk 93 rfl; simp [e86, e87, e89, e91, e92, e93]) ?_
      refine wpG_loadW (hl6.whole hE) Try.underlying41 rfl (hi7) (fun a w hk => (hk 8 rfl : a.eval (.tmp 8) = a0.eval (.tmp 8)).trans k8) ?_
      refine wpG_move (fun a w hk => (hk 10 rfl : a.eval (.tmp 10) = a0.eval (.tmp 10)).trans k10) ?_
      refine wpG_loadW (hl6.whole hP') Try.underlying33 rfl (by first | kernel_rfl | assumption) (fun a w hk => (hk 4 rfl : a.eval (.tmp 4) = a0.eval (.tmp 4)).trans k4) ?_
      refine wpG_move (fun a w hk => (hk 13 rfl : a.eval (.tmp 13) = a0.eval (.tmp 13)).trans k13) ?_
      refine wpG_move (fun a w hk => (hk 12 rfl : a.eval (.tmp 12) = a0.eval (.tmp 12)).trans k12) ?_
      refine wpG_call _ _ Try.func26 (by kernel_rfl) (by kernel_rfl) (fun W _ => HH2.out W) (fun a w hk => by have e95 : a.eval (.tmp 95) = _ := hk 95 rfl; have e96 : a.eval (.tmp 96) = _ := hk 96 rfl; have e97 : a.eval (.tmp 97) = _ := hk 97 rfl; have e98 : a.eval (.tmp 98) = _ := hk 98 rfl; have e99 : a.eval (.tmp 99) = _ := hk 99 rfl; simp [e95, e96, e97, e98, e99]) ?_
      apply wpG_value'
      · rfl
      · (intro a wx hlx hk K hK; have e94 : a.eval (.tmp 94) = _ := hk 94 rfl; have e100 : a.eval (.tmp 100) = _ := hk 100 rfl; simp only [execOp, e94, e100]; clear e94 e100 hk; go_simp; exact hK)
      refine wpG_nil (fun w6' hl6' => ?_)
      refine fin_is ?_
      refine fin_is ?_
      refine fin_is ?_
      refine fin_is ?_
      refine fin_is ?_
      refine fin_is ?_
      refine fin_is ?_
      refine fin_is ?_
      refine fin_is ?_
      refine fin_is ?_
      refine fin_is ?_
      refine fin_is ?_
      refine fin_is ?_
      refine fin_is ?_
      refine fin_is ?_
      refine fin_is ?_
      refine fin_nil ?_
      subst ha0
      clear k4 k7 k8 k10 k12 k13 ks
      simp only [Act.put, List.setIfInBounds_toArray, List.set_cons_succ, List.set_cons_zero]
      go_wp2_with (fail)
      go_returns
      go_light
      exact ⟨ret_bool (by first | rfl | simp), Later.trans hB0 (Later.trans hB (hl6.trans hl6'))⟩
  · have hS : (sb).size ≤ 1073741824 := by omega
    go_upto_region 17 with (fail)
    clear f2b hcz
    clear hmk hsz1 hOz
    generalize sb = s at *
    have hP' : Whole _ w.heap.size 33 #[.string p.1, .string p.2] := hP
    have pc0 := hP'.cell 0
    have pc1 := hP'.cell 1
    rcases hy2 with hy2 | hy2
    · have t1 : (x2 : Int).tmod 2 = 0 := by rw [Int.tmod_eq_emod_of_nonneg (Int.natCast_nonneg _)]; omega
      have t2 : (x2 : Int) % 2 = 0 := by omega
      have VV2 := fun w => VV.out true s hS w
      have HH2 := fun w => HH.out true s hS w
      generalize vfy RT p.1 true p.2 s = vr at *
      replace VV2 := Lib.hid VV2
      replace HH2 := Lib.hid HH2
      clear hy2
      go_upto_region 18 with (fail)
      refine wp_region_grow 16 102 (by kernel_rfl) (by kernel_rfl) rfl (fun w6 hl6 => ?_)
      simp only [List.take_succ_cons, List.take_zero, List.drop_succ_cons, List.drop_zero]
      generalize ha : Act.mk _ _ = a0
      have k4 : a0.eval (.tmp 4) = .pointer (some ⟨w.heap.size, 0, none⟩) := by subst ha; rfl
      have k7 : a0.eval (.tmp 7) = .pointer (some ⟨GT, 0, none⟩) := by subst ha; rfl
      have k8 : a0.eval (.tmp 8) = .pointer (some ⟨GE, 0, none⟩) := by subst ha; rfl
      have k10 : a0.eval (.tmp 10) = .string RT := by subst ha; rfl
      have k12 : a0.eval (.tmp 12) = .string s := by subst ha; rfl
      have k13 : a0.eval (.tmp 13) = .bool true := by subst ha; rfl
      have ks : a0.tmps.size = 102 := by subst ha; rfl
      have ha0 := ha.symm
      clear ha
      refine wpG_loadW (hl6.whole hT) Try.underlying29 rfl (hsz) (fun a w hk => (hk 7 rfl : a.eval (.tmp 7) = a0.eval (.tmp 7)).trans k7) ?_
      refine wpG_move (fun a w hk => (hk 10 rfl : a.eval (.tmp 10) = a0.eval (.tmp 10)).trans k10) ?_
      apply wpG_value'
      · rfl
      · (intro a wx hlx hk K hK; have e4 : a.eval (.tmp 4) = _ := (hk 4 rfl : a.eval (.tmp 4) = a0.eval (.tmp 4)).trans k4; simp only [execOp, e4]; clear e4 hk; go_simp; exact hK)
      refine wpG_load1 (hl6.cell pc0) Try.underlying9 rfl (fun a w hk => hk 88 rfl) ?_
      apply wpG_value'
      · rfl
      · (intro a wx hlx hk K hK; have e4 : a.eval (.tmp 4) = _ := (hk 4 rfl : a.eval (.tmp 4) = a0.eval (.tmp 4)).trans k4; simp only [execOp, e4]; clear e4 hk; go_simp; exact hK)
      refine wpG_load1 (hl6.cell pc1) Try.underlying9 rfl (fun a w hk => hk 90 rfl) ?_
      refine wpG_move (fun a w hk => (hk 13 rfl : a.eval (.tmp 13) = a0.eval (.tmp 13)).trans k13) ?_
      refine wpG_move (fun a w hk => (hk 12 rfl : a.eval (.tmp 12) = a0.eval (.tmp 12)).trans k12) ?_
      refine wpG_call _ _ Try.func25 (by kernel_rfl) (by kernel_rfl) (fun W _ => VV2.out W) (fun a w hk => by have e86 : a.eval (.tmp 86) = _ := hk 86 rfl; have e87 : a.eval (.tmp 87) = _ := hk 87 rfl; have e89 : a.eval (.tmp 89) = _ := hk 89 rfl; have e91 : a.eval (.tmp 91) = _ := hk 91 rfl; have e92 : a.eval (.tmp 92) = _ := hk 92 rfl; have e93 : a.eval (.tmp 93) = _ := hk 93 rfl; simp [e86, e87, e89, e91, e92, e93]) ?_
      refine wpG_loadW (hl6.whole hE) Try.underlying41 rfl (hi7) (fun a w hk => (hk 8 rfl : a.eval (.tmp 8) = a0.eval (.tmp 8)).trans k8) ?_
      refine wpG_move (fun a w hk => (hk 10 rfl : a.eval (.tmp 10) = a0.eval (.tmp 10)).trans k10) ?_
      refine wpG_loadW (hl6.whole hP') Try.underlying33 rfl (by first | kernel_rfl | assumption) (fun a w hk => (hk 4 rfl : a.eval (.tmp 4) = a0.eval (.tmp 4)).trans k4) ?_
      refine wpG_move (fun a w hk => (hk 13 rfl : a.eval (.tmp 13) = a0.eval (.tmp 13)).trans k13) ?_
      refine wpG_move (fun a w hk => (hk 12 rfl : a.eval (.tmp 12) = a0.eval (.tmp 12)).trans k12) ?_
      refine wpG_call _ _ Try.func26 (by kernel_rfl) (by kernel_rfl) (fun W _ => HH2.out W) (fun a w hk => by have e95 : a.eval (.tmp 95) = _ := hk 95 rfl; have e96 : a.eval (.tmp 96) = _ := hk 96 rfl; have e97 : a.eval (.tmp 97) = _ := hk 97 rfl; have e98 : a.eval (.tmp 98) = _ := hk 98 rfl; have e99 : a.eval (.tmp 99) = _ := hk 99 rfl; simp [e95, e96, e97, e98, e99]) ?_
      apply wpG_value'
      · rfl
      · (intro a wx hlx hk K hK; have e94 : a.eval (.tmp 94) = _ := hk 94 rfl; have e100 : a.eval (.tmp 100) = _ := hk 100 rfl; simp only [execOp, e94, e100]; clear e94 e100 hk; go_simp; exact hK)
      refine wpG_nil (fun w6' hl6' => ?_)
      refine fin_is ?_
      refine fin_is ?_
      refine fin_is ?_
      refine fin_is ?_
      refine fin_is ?_
      refine fin_is ?_
      refine fin_is ?_
      refine fin_is ?_
      refine fin_is ?_
      refine fin_is ?_
      refine fin_is ?_
      refine fin_is ?_
      refine fin_is ?_
      refine fin_is ?_
      refine fin_is ?_
      refine fin_is ?_
      refine fin_nil ?_
      subst ha0
      clear k4 k7 k8 k10 k12 k13 ks
      simp only [Act.put, List.setIfInBounds_toArray, List.set_cons_succ, List.set_cons_zero]
      go_wp2_with (fail)
      go_returns
      go_light
      exact ⟨ret_bool (by first | rfl | simp), Later.trans hB0 (Later.trans hB (hl6.trans hl6'))⟩
    · have t1 : (x2 : Int).tmod 2 = 1 := by rw [Int.tmod_eq_emod_of_nonneg (Int.natCast_nonneg _)]; omega
      have t2 : (x2 : Int) % 2 = 1 := by omega
      have VV2 := fun w => VV.out false s hS w
      have HH2 := fun w => HH.out false s hS w
      generalize vfy RT p.1 false p.2 s = vr at *
      replace VV2 := Lib.hid VV2
      replace HH2 := Lib.hid HH2
      clear hy2
      go_upto_region 18 with (fail)
      refine wp_region_grow 16 102 (by kernel_rfl) (by kernel_rfl) rfl (fun w6 hl6 => ?_)
      simp only [List.take_succ_cons, List.take_zero, List.drop_succ_cons, List.drop_zero]
      generalize ha : Act.mk _ _ = a0
      have k4 : a0.eval (.tmp 4) = .pointer (some ⟨w.heap.size, 0, none⟩) := by subst ha; rfl
      have k7 : a0.eval (.tmp 7) = .pointer (some ⟨GT, 0, none⟩) := by subst ha; rfl
      have k8 : a0.eval (.tmp 8) = .pointer (some ⟨GE, 0, none⟩) := by subst ha; rfl
      have k10 : a0.eval (.tmp 10) = .string RT := by subst ha; rfl
      have k12 : a0.eval (.tmp 12) = .string s := by subst ha; rfl
      have k13 : a0.eval (.tmp 13) = .bool false := by subst ha; rfl
      have ks : a0.tmps.size = 102 := by subst ha; rfl
      have ha0 := ha.symm
      clear ha
      refine wpG_loadW (hl6.whole hT) Try.underlying29 rfl (hsz) (fun a w hk => (hk 7 rfl : a.eval (.tmp 7) = a0.eval (.tmp 7)).trans k7) ?_
      refine wpG_move (fun a w hk => (hk 10 rfl : a.eval (.tmp 10) = a0.eval (.tmp 10)).trans k10) ?_
      apply wpG_value'
      · rfl
      · (intro a wx hlx hk K hK; have e4 : a.eval (.tmp 4) = _ := (hk 4 rfl : a.eval (.tmp 4) = a0.eval (.tmp 4)).trans k4; simp only [execOp, e4]; clear e4 hk; go_simp; exact hK)
      refine wpG_load1 (hl6.cell pc0) Try.underlying9 rfl (fun a w hk => hk 88 rfl) ?_
      apply wpG_value'
      · rfl
      · (intro a wx hlx hk K hK; have e4 : a.eval (.tmp 4) = _ := (hk 4 rfl : a.eval (.tmp 4) = a0.eval (.tmp 4)).trans k4; simp only [execOp, e4]; clear e4 hk; go_simp; exact hK)
      refine wpG_load1 (hl6.cell pc1) Try.underlying9 rfl (fun a w hk => hk 90 rfl) ?_
      refine wpG_move (fun a w hk => (hk 13 rfl : a.eval (.tmp 13) = a0.eval (.tmp 13)).trans k13) ?_
      refine wpG_move (fun a w hk => (hk 12 rfl : a.eval (.tmp 12) = a0.eval (.tmp 12)).trans k12) ?_
      refine wpG_call _ _ Try.func25 (by kernel_rfl) (by kernel_rfl) (fun W _ => VV2.out W) (fun a w hk => by have e86 : a.eval (.tmp 86) = _ := hk 86 rfl; have e87 : a.eval (.tmp 87) = _ := hk 87 rfl; have e89 : a.eval (.tmp 89) = _ := hk 89 rfl; have e91 : a.eval (.tmp 91) = _ := hk 91 rfl; have e92 : a.eval (.tmp 92) = _ := hk 92 rfl; have e93 : a.eval (.tmp 93) = _ := hk 93 rfl; simp [e86, e87, e89, e91, e92, e93]) ?_
      refine wpG_loadW (hl6.whole hE) Try.underlying41 rfl (hi7) (fun a w hk => (hk 8 rfl : a.eval (.tmp 8) = a0.eval (.tmp 8)).trans k8) ?_
      refine wpG_move (fun a w hk => (hk 10 rfl : a.eval (.tmp 10) = a0.eval (.tmp 10)).trans k10) ?_
      refine wpG_loadW (hl6.whole hP') Try.underlying33 rfl (by first | kernel_rfl | assumption) (fun a w hk => (hk 4 rfl : a.eval (.tmp 4) = a0.eval (.tmp 4)).trans k4) ?_
      refine wpG_move (fun a w hk => (hk 13 rfl : a.eval (.tmp 13) = a0.eval (.tmp 13)).trans k13) ?_
      refine wpG_move (fun a w hk => (hk 12 rfl : a.eval (.tmp 12) = a0.eval (.tmp 12)).trans k12) ?_
      refine wpG_call _ _ Try.func26 (by kernel_rfl) (by kernel_rfl) (fun W _ => HH2.out W) (fun a w hk => by have e95 : a.eval (.tmp 95) = _ := hk 95 rfl; have e96 : a.eval (.tmp 96) = _ := hk 96 rfl; have e97 : a.eval (.tmp 97) = _ := hk 97 rfl; have e98 : a.eval (.tmp 98) = _ := hk 98 rfl; have e99 : a.eval (.tmp 99) = _ := hk 99 rfl; simp [e95, e96, e97, e98, e99]) ?_
      apply wpG_value'
      · rfl
      · (intro a wx hlx hk K hK; have e94 : a.eval (.tmp 94) = _ := hk 94 rfl; have e100 : a.eval (.tmp 100) = _ := hk 100 rfl; simp only [execOp, e94, e100]; clear e94 e100 hk; go_simp; exact hK)
      refine wpG_nil (fun w6' hl6' => ?_)
      refine fin_is ?_
      refine fin_is ?_
      refine fin_is ?_
      refine fin_is ?_
      refine fin_is ?_
      refine fin_is ?_
      refine fin_is ?_
      refine fin_is ?_
      refine fin_is ?_
      refine fin_is ?_
      refine fin_is ?_
      refine fin_is ?_
      refine fin_is ?_
      refine fin_is ?_
      refine fin_is ?_
      refine fin_is ?_
      refine fin_nil ?_
      subst ha0
      clear k4 k7 k8 k10 k12 k13 ks
      simp only [Act.put, List.setIfInBounds_toArray, List.set_cons_succ, List.set_cons_zero]
      go_wp2_with (fail)
      go_returns
      go_light
      exact ⟨ret_bool (by first | rfl | simp), Later.trans hB0 (Later.trans hB (hl6.trans hl6'))⟩
end Go.Proofs.Ytknjbkbbhgjnlaa
