/- The law HssVerifies, walked. No conditions. -/
import Derived.Test.YteipcmbbonfklaaHss3
import Derived.Lib.ConvBytes
import Derived.Lib.AtoiErrMem
import Derived.Laws.BitsAllLaws
namespace Go.Proofs.Yteipcmbbonfklaa
open Go.RowKit
set_option linter.unusedVariables false
set_option linter.unusedSimpArgs false
set_option maxHeartbeats 8000000 in
set_option maxRecDepth 100000 in
theorem hssVerifies_calls (seed m0 m1 : ByteArray) (x0 x1 x2 : Nat) (hx0 : x0 < 65536) (hx1 : x1 < 65536) (hx2 : x2 < 65536) (w : World) :
    Calls Try.prog 6 #[.string seed, .agg #[.string m0, .string m1], .agg #[.int .u16 x0, .int .u16 x1, .int .u16 x2]] w fun e w' => e = .returned (.bool true) ∧ Below w.heap.size w w' := by
  have AW := fun w => awake10_calls w
  have M := fun w => make_calls w
  have hsz : (Try.prog.info? 31).map (·.size) = some (arr .u32 (K64 ++ H8.L)).size := by kernel_rfl
  have htz : (arr .u32 (K64 ++ H8.L)).size = Try.zeroCells31.size := by kernel_rfl
  have ho1 : (arr .u32 (K64 ++ H8.L)).toList.all (·.oneCell') = true := by kernel_rfl
  replace AW := Lib.hid AW
  obtain ⟨W0, hW0⟩ : ∃ W0, (w.alloc (.cells #[.string m0, .string m1] 64)).alloc (.cells #[.int .u16 x0, .int .u16 x1, .int .u16 x2] 66) = W0 := ⟨_, rfl⟩
  have hA4 : Whole W0 w.heap.size 64 #[.string m0, .string m1] := by rw [← hW0]; exact (Whole.new w _ _).alloc _
  have hA5 : Whole W0 (w.heap.size + 1) 66 #[.int .u16 x0, .int .u16 x1, .int .u16 x2] := by rw [← hW0]; exact Whole.new1 w _ _ _
  have hB0 : Later w W0 := by rw [← hW0]; exact ((Later.refl w).alloc _).alloc _
  have e0 := hA4.cell 0
  have e1 := hA4.cell 1
  have f0 := hA5.cell 0
  have f1 := hA5.cell 1
  have f2 := hA5.cell 2
  go_enter Try.func6, Try.ntmps6
  go_upto_region 1 with (fail)
  try rw [hW0]
  clear hW0 hA4 hA5
  generalize hG0 : w.heap.size = G0 at *
  have hB : Later W0 W0 := Later.refl W0
  by_cases hs1 : seed.size ≤ 20
  · have qs1 : ((20 : Int) < seed.size) = False := eq_false (by omega)
    have qs1' : (20 < seed.size) = False := eq_false (by omega)
    by_cases hs2 : m0.size ≤ 20
    · have qs2 : ((20 : Int) < m0.size) = False := eq_false (by omega)
      have qs2' : (20 < m0.size) = False := eq_false (by omega)
      by_cases hs3 : m1.size ≤ 20
      · have qs3 : ((20 : Int) < m1.size) = False := eq_false (by omega)
        have qs3' : (20 < m1.size) = False := eq_false (by omega)
        obtain ⟨q, hq⟩ : ∃ q, x0 % 64 = q := ⟨_, rfl⟩
        have hq8 : q < 64 := by omega
        have t1 : (x0 : Int).tmod 64 = (q : Int) := by rw [Int.tmod_eq_emod_of_nonneg (Int.natCast_nonneg _)]; omega
        have t2 : (x0 : Int) % 64 = (q : Int) := by omega
        have t3 : IntKind.i64.wrap (q : Int) = q := by simp [IntKind.wrap, IntKind.signed, IntKind.bits]; omega
        have t4 : IntKind.u16.wrap (q : Int) = q := by simp [IntKind.wrap, IntKind.signed, IntKind.bits]; omega
        obtain ⟨i, hi⟩ : ∃ i, x1 % 4520 = i := ⟨_, rfl⟩
        have hi2 : i < 4520 := by omega
        have u1 : (x1 : Int).tmod 4520 = (i : Int) := by rw [Int.tmod_eq_emod_of_nonneg (Int.natCast_nonneg _)]; omega
        have u2 : (x1 : Int) % 4520 = (i : Int) := by omega
        have u3 : IntKind.i64.wrap (x1 : Int) = x1 := by simp [IntKind.wrap, IntKind.signed, IntKind.bits]; omega
        have PB := fun w => hpublic_calls seed (by omega) w
        have RS := fun w => hsign_calls seed (by omega) q (by omega) m0 (by omega) w
        have hsg : (hssN seed q m0).size = 4520 := hssN_size seed q m0
        have kb := fun W => Lib.run_convert_string_bytes (P := Try.prog) W 9 67 5 (hssN seed q m0) Try.underlying9 Try.underlying67 Try.underlying5
        rw [hsg] at kb
        have hcl : (bytesN (hssN seed q m0)).length = 4520 := by rw [bytesN_length, hsg]
        have hc256 : ∀ k, (bytesN (hssN seed q m0)).getD k 0 < 256 := fun k => by
          rw [List.getD_eq_getElem?_getD]
          cases hx : (bytesN (hssN seed q m0))[k]? with
          | none => decide
          | some x => exact bytesN_lt _ x (List.mem_of_getElem? hx)
        have hbc : ∀ (W : World) (j : Nat), j < 4520 → (Lib.bytesWorld W 5 (hssN seed q m0)).cell? ⟨W.heap.size, j, none⟩ = some (.int .u8 (((bytesN (hssN seed q m0)).getD j 0 : Nat) : Int)) := fun W j hj => by
          rw [Lib.bytesWorld_cell W 5 _ j (by omega)]
          unfold bytesN
          rw [List.getD_eq_getElem?_getD, List.getD_eq_getElem?_getD, List.getElem?_map]
          rw [List.getElem?_eq_getElem (show j < (hssN seed q m0).data.toList.length by simpa [hsg] using hj)]
          rfl
        have hbf : ∀ (W : World) (j : Nat), j < 4520 → (Lib.bytesWorld W 5 (hssN seed q m0)).frozen? ⟨W.heap.size, j, none⟩ = false := fun W j hj => bytes_fresh W _ _ j (by omega)
        have hbl : ∀ (W : World), Later W (Lib.bytesWorld W 5 (hssN seed q m0)) := fun W => Lib.bytesWorld_below W _ _
        have hVD := fun s => hss_verdicts (nodeN seed 3 0) m1 s (by omega)
        generalize bytesN (hssN seed q m0) = L at *
        generalize hssN seed q m0 = sg at *
        generalize nodeN seed 3 0 = PK at *
        have hVB := fun s h => hverify_no PK m1 s h
        have hRB := fun s h => rverify_no PK m1 s h
        generalize arr .u32 (K64 ++ H8.L) = tb at *
        clear hq hi hsg
        replace M := Lib.hid M
        replace PB := Lib.hid PB
        replace RS := Lib.hid RS
        replace hVD := Lib.hid hVD
        replace hVB := Lib.hid hVB
        replace hRB := Lib.hid hRB
        replace hc256 := Lib.hid hc256
        replace hbc := Lib.hid hbc
        replace hbf := Lib.hid hbf
        replace hbl := Lib.hid hbl
        replace hcl := Lib.hid hcl
        go_upto_region 4 with (first | ((with_reducible refine (AW.out _).mono ?_); rintro e w4 ⟨rfl, hb4⟩; replace hB := Later.trans hB hb4; have e0' := Later.cell hB e0; have e1' := Later.cell hB e1) | ((with_reducible refine (M.out _).mono ?_); rintro e w6 ⟨rfl, hb6⟩; replace hB := Later.trans hB hb6; have hZ := Whole.new w6 31 Try.zeroCells31; have hG6 := hB.size; replace hB := hB.alloc (.cells Try.zeroCells31 31)) | ((with_reducible apply wl_storeW (ty := 31) hZ); rfl; rfl; rfl; kernel_rfl; exact htz; exact ho1; intro wS hT hgS hzS; replace hB := below_only' hB hgS hG6; clear hgS hzS hZ))
        clear e0' e1'
        have f0' := Later.cell hB f0
        have e0' := Later.cell hB e0
        go_upto_region 10 with (first | ((with_reducible apply wl_loadW (ty := 31) hT Try.underlying31); rfl; rfl; rfl; exact hsz) | ((with_reducible refine (RS.out _).mono ?_); rintro e w9 ⟨rfl, hb9⟩; replace hB := Later.trans hB hb9; replace hT := Later.whole hb9 hT; clear hb9))
        clear e0'
        have hL := hbl.out w9
        have hc := hbc.out w9
        have hf := hbf.out w9
        have f1' := hL.cell (Later.cell hB f1)
        have f2' := hL.cell (Later.cell hB f2)
        generalize Lib.bytesWorld w9 5 sg = W5 at *
        generalize hG9 : w9.heap.size = G at *
        generalize hGt : w6.heap.size = Gt at *
        generalize grownCap w9 4520 0 5 = cap at *
        have hz256 := hc256.out i
        obtain ⟨z, hz⟩ : ∃ z, L.getD i 0 = z := ⟨_, rfl⟩
        rw [hz] at hz256
        have hci := hc i hi2
        rw [hz] at hci
        have hfi := hf i hi2
        obtain ⟨y, hy⟩ : ∃ y, x2 % 256 = y := ⟨_, rfl⟩
        have v1 : IntKind.u8.wrap (x2 : Int) = (y : Int) := by simp [IntKind.wrap, IntKind.signed, IntKind.bits]; omega
        have hy256 : y < 256 := by omega
        have v2 := u8_xor_nat z y hz256 hy256
        have hb256 : z ^^^ y < 256 := Nat.xor_lt_two_pow (n := 8) hz256 hy256
        generalize z ^^^ y = b at *
        have d1 : ((i : Int) < 4520) = True := eq_true (by omega)
        have d2 : (i < 4520) = True := eq_true (by omega)
        clear hy
        replace hz := Lib.hid hz
        replace hc := Lib.hid hc
        replace hf := Lib.hid hf
        obtain ⟨i9, p1, p2, p3, p4⟩ := info_parts (P := Try.prog) (e := 5) (z := .int .u8 0) (size := 1) (bytes := 1) (by kernel_rfl)
        replace p1 := Lib.hid p1
        replace p2 := Lib.hid p2
        refine wp_region_grow 14 106 (by kernel_rfl) (by kernel_rfl) rfl (fun w7 hl7 => ?_)
        simp only [List.take_succ_cons, List.take_zero, List.drop_succ_cons, List.drop_zero]
        generalize ha : Act.mk _ _ = a0
        have k5 : a0.eval (.tmp 5) = .pointer (some ⟨G0 + 1, 0, none⟩) := by subst ha; rfl
        have k10 : a0.eval (.tmp 10) = .slice (some ⟨G, 0, none⟩) 4520 cap := by subst ha; rfl
        have ks : a0.tmps.size = 106 := by subst ha; rfl
        have ha0 := ha.symm
        clear ha
        refine wpG_move (fun a w hk => (hk 10 rfl : a.eval (.tmp 10) = a0.eval (.tmp 10)).trans k10) ?_
        apply wpG_value'
        · rfl
        · (intro a wx hlx hk K hK; have e5 : a.eval (.tmp 5) = _ := (hk 5 rfl : a.eval (.tmp 5) = a0.eval (.tmp 5)).trans k5; simp only [execOp, e5]; clear e5 hk; go_simp; exact hK)
        refine wpG_load1 (hl7.cell f1') Try.underlying65 rfl (fun a w hk => hk 58 rfl) ?_
        apply wpG_value'
        · rfl
        · (intro a wx hlx hk K hK; have e59 : a.eval (.tmp 59) = _ := hk 59 rfl; simp only [execOp, e59]; clear e59 hk; go_simp; exact hK)
        refine wpG_move (fun a w hk => (hk 10 rfl : a.eval (.tmp 10) = a0.eval (.tmp 10)).trans k10) ?_
        apply wpG_value'
        · rfl
        · (intro a wx hlx hk K hK; have e61 : a.eval (.tmp 61) = _ := hk 61 rfl; simp only [execOp, resolve, List.map_toArray, List.map_cons, List.map_nil, Option.map_some, Option.map_none, e61]; clear e61 hk; go_simp; exact hK)
        apply wpG_value'
        · rfl
        · (intro a wx hlx hk K hK; have e60 : a.eval (.tmp 60) = _ := hk 60 rfl; have e62 : a.eval (.tmp 62) = _ := hk 62 rfl; simp only [execOp, e60, e62]; clear e60 e62 hk; go_simp; exact hK)
        apply wpG_value'
        · rfl
        · (intro a wx hlx hk K hK; have e57 : a.eval (.tmp 57) = _ := hk 57 rfl; have e63 : a.eval (.tmp 63) = _ := hk 63 rfl; simp only [execOp, e57, e63]; clear e57 e63 hk; go_simp; exact hK)
        refine wpG_load1 (hl7.cell hci) Try.underlying5 rfl (fun a w hk => hk 64 rfl) ?_
        apply wpG_value'
        · rfl
        · (intro a wx hlx hk K hK; have e5 : a.eval (.tmp 5) = _ := (hk 5 rfl : a.eval (.tmp 5) = a0.eval (.tmp 5)).trans k5; simp only [execOp, e5]; clear e5 hk; go_simp; exact hK)
        refine wpG_load1 (hl7.cell f2') Try.underlying65 rfl (fun a w hk => hk 66 rfl) ?_
        apply wpG_value'
        · rfl
        · (intro a wx hlx hk K hK; have e67 : a.eval (.tmp 67) = _ := hk 67 rfl; simp only [execOp, e67]; clear e67 hk; go_simp; exact hK)
        apply wpG_value'
        · rfl
        · (intro a wx hlx hk K hK; have e65 : a.eval (.tmp 65) = _ := hk 65 rfl; have e68 : a.eval (.tmp 68) = _ := hk 68 rfl; simp only [execOp, e65, e68]; clear e65 e68 hk; go_simp; exact hK)
        apply wpG_value'
        · rfl
        · (intro a wx hlx hk K hK; have e57 : a.eval (.tmp 57) = _ := hk 57 rfl; have e63 : a.eval (.tmp 63) = _ := hk 63 rfl; simp only [execOp, e57, e63]; clear e57 e63 hk; go_simp; exact hK)
        refine wpG_nil (fun w7' hl7' => ?_)
        refine fin_is ?_
        refine fin_is ?_
        refine fin_is ?_
        refine fin_is ?_
        refine fin_is ?_
        refine fin_is ?_
        refine fin_is ?_
        refine fin_is ?_
        refine fin_is ?_
        refine fin_is ?_
        refine fin_is ?_
        refine fin_is ?_
        refine fin_is ?_
        refine fin_is ?_
        refine fin_nil ?_
        have hl := hl7.trans hl7'
        clear hl7 hl7'
        refine wl_store1 (p := ⟨G, i, none⟩) (v := .int .u8 b) (hl.cell hci) ((Below.frozen hl (World.block_lt_of_cell? W5 _ hci)).trans hfi) p1.out p3 (by simp [eval_put, put_size, ks]) (by simp [eval_put, put_size, ks]) rfl rfl ?_
        subst ha0
        clear k5 k10 ks
        simp only [Act.put, List.setIfInBounds_toArray, List.set_cons_succ, List.set_cons_zero]
        have hl2 : Later w9 (w7'.setCell ⟨G, i, none⟩ (.int .u8 b)) := Below.setCell (hL.trans hl) (Nat.le_of_eq hG9) _
        have hT2 := Later.whole hl2 hT
        have f2'' : (w7'.setCell ⟨G, i, none⟩ (.int .u8 b)).cell? ⟨G0 + 1, 2, none⟩ = some (.int .u16 x2) := Later.cell hl2 (Later.cell hB f2)
        have hcc : ∀ j, j < 4520 → (w7'.setCell ⟨G, i, none⟩ (.int .u8 b)).cell? ⟨G, j, none⟩ = some (.int .u8 (((L.set i b).getD j 0 : Nat) : Int)) := fun j hj => by
          by_cases e : j = i
          · subst e
            have h1 := hl.cell hci
            rw [World.cell?_setCell_same _ _ _ h1, List.getD_eq_getElem?_getD, List.getElem?_set_self (by rw [hcl.out]; exact hj)]
            rfl
          · rw [World.cell?_setCell_other _ _ _ _ (fun h => e (by injection h; omega)), hl.cell (hc.out j hj), List.getD_eq_getElem?_getD, List.getD_eq_getElem?_getD, List.getElem?_set_ne (Ne.symm e)]
        have hcv : (convert 67 9 (.slice (some ⟨G, 0, none⟩) 4520 cap)).run Try.prog (w7'.setCell ⟨G, i, none⟩ (.int .u8 b)) = .ok (.string (outB (L.set i b))) (w7'.setCell ⟨G, i, none⟩ (.int .u8 b)) := by
          exact conv_row (by rw [List.length_set]; exact hcl.out) hcc
        have hsz1 : (outB (L.set i b)).size = 4520 := by rw [outB_size, List.length_set, hcl.out]
        have hcz : ((outB (L.set i b)).extract 1 4520).size ≠ 4520 := by rw [ByteArray.size_extract]; omega
        have VB := fun w => hVB.out _ hcz w
        have RB := fun w => hRB.out _ hcz w
        obtain ⟨k, ok, VV, RR⟩ := hVD.out (outB (L.set i b))
        generalize w7'.setCell ⟨G, i, none⟩ (.int .u8 b) = W8 at *
        generalize outB (L.set i b) = sb at *
        replace hB := hB.trans hl2
        replace hT := hT2
        clear hcc hL hl hl2 hT2 hci hfi hc hf hz hcl hc256 hbc hbf hbl hVD hVB hRB f0 f1 f2 e0 f0' f1' f2' kb hG9 hcz v1 v2 d1 d2 u1 u2 u3 t1 t2 t3 t4 p1 p2 p3 p4 RS
        have e1' := Later.cell hB e1
        replace VV := Lib.hid VV
        replace RR := Lib.hid RR
        replace VB := Lib.hid VB
        replace RB := Lib.hid RB
        have q43 : ((1 : Int) ≤ sb.size) = True := eq_true (by omega)
        have q43' : (1 ≤ sb.size) = True := eq_true (by omega)
        by_cases hcut : 60000 < x2
        · have qc : (60000 < x2) = True := eq_true hcut
          have qc' : ((60000 : Int) < x2) = True := eq_true (by omega)
          generalize hsc : sb.extract 1 4520 = sc at *
          go_wp2_with (first | ((with_reducible apply wl_loadW (ty := 31) hT Try.underlying31); rfl; rfl; rfl; exact hsz) | ((with_reducible refine (PB.out _).mono ?_); rintro e w8 ⟨rfl, hb8⟩; replace hB := Later.trans hB hb8; replace hT := Later.whole hb8 hT; clear hb8; have e1' := Later.cell hB e1) | ((with_reducible refine (VB.out _).mono ?_); rintro e w8 ⟨rfl, hb8⟩; replace hB := Later.trans hB hb8; replace hT := Later.whole hb8 hT; clear hb8; have e1' := Later.cell hB e1) | ((with_reducible refine (RB.out _).mono ?_); rintro e w8 ⟨rfl, hb8⟩; replace hB := Later.trans hB hb8; replace hT := Later.whole hb8 hT; clear hb8; have e1' := Later.cell hB e1))
          go_returns
          go_light
          exact ⟨by first | rfl | simp, hB0.trans hB⟩
        · have qc : (60000 < x2) = False := eq_false hcut
          have qc' : ((60000 : Int) < x2) = False := eq_false (by omega)
          go_wp2_with (first | ((with_reducible apply wl_loadW (ty := 31) hT Try.underlying31); rfl; rfl; rfl; exact hsz) | ((with_reducible refine (PB.out _).mono ?_); rintro e w8 ⟨rfl, hb8⟩; replace hB := Later.trans hB hb8; replace hT := Later.whole hb8 hT; clear hb8; have e1' := Later.cell hB e1) | ((with_reducible refine (VV.out _).mono ?_); rintro e w8 ⟨rfl, hb8⟩; replace hB := Later.trans hB hb8; replace hT := Later.whole hb8 hT; clear hb8; have e1' := Later.cell hB e1) | ((with_reducible refine (RR.out _).mono ?_); rintro e w8 ⟨rfl, hb8⟩; replace hB := Later.trans hB hb8; replace hT := Later.whole hb8 hT; clear hb8; have e1' := Later.cell hB e1))
          go_returns
          go_light
          exact ⟨by first | rfl | simp, hB0.trans hB⟩
      · have qs3 : ((20 : Int) < m1.size) = True := eq_true (by omega)
        have qs3' : (20 < m1.size) = True := eq_true (by omega)
        go_wp2_with (first | ((with_reducible refine (AW.out _).mono ?_); rintro e w4 ⟨rfl, hb4⟩; replace hB := Later.trans hB hb4; have e0' := Later.cell hB e0; have e1' := Later.cell hB e1))
        go_returns
        go_light
        exact ⟨by first | rfl | kernel_rfl, by first | exact hB0.trans hB | (rw [← hG0]; exact hB0.trans hB)⟩
    · have qs2 : ((20 : Int) < m0.size) = True := eq_true (by omega)
      have qs2' : (20 < m0.size) = True := eq_true (by omega)
      go_wp2_with (first | ((with_reducible refine (AW.out _).mono ?_); rintro e w4 ⟨rfl, hb4⟩; replace hB := Later.trans hB hb4; have e0' := Later.cell hB e0; have e1' := Later.cell hB e1))
      go_returns
      go_light
      exact ⟨by first | rfl | kernel_rfl, by first | exact hB0.trans hB | (rw [← hG0]; exact hB0.trans hB)⟩
  · have qs1 : ((20 : Int) < seed.size) = True := eq_true (by omega)
    have qs1' : (20 < seed.size) = True := eq_true (by omega)
    go_wp2_with (first | ((with_reducible refine (AW.out _).mono ?_); rintro e w4 ⟨rfl, hb4⟩; replace hB := Later.trans hB hb4; have e0' := Later.cell hB e0; have e1' := Later.cell hB e1))
    go_returns
    go_light
    exact ⟨by first | rfl | kernel_rfl, by first | exact hB0.trans hB | (rw [← hG0]; exact hB0.trans hB)⟩
end Go.Proofs.Yteipcmbbonfklaa
