/- The law OtsVerifies, walked. No conditions. -/
import Derived.Test.YtfkafejoacpclaaOtsRefV
import Derived.Lib.ConvBytes
import Derived.Lib.AtoiErrMem
import Derived.Laws.BitsAllLaws
namespace Go.Proofs.Ytfkafejoacpclaa
open Go.RowKit
set_option linter.unusedVariables false
set_option linter.unusedSimpArgs false
theorem verdicts (pub msg s : ByteArray) (hm : msg.size ≤ 1073741824) : ∃ (k : Nat) (ok : Bool),
    (∀ w, Calls Try.prog 38 #[.agg (arr .u32 (K64 ++ H8.L)), .string pub, .string msg, .string s] w fun e w' => e = .returned (.tuple #[.int .i64 k, .bool ok]) ∧ Below w.heap.size w w') ∧
    (∀ w, Calls Try.prog 41 #[.string pub, .string msg, .string s] w fun e w' => e = .returned (.bool ok) ∧ Below w.heap.size w w') ∧
    (ok = true → s.size = 2244 ∧ (bytesN s).getD 3 0 = k ∧ k < 8) ∧ (ok = false → k = 0) := by
  by_cases hs : s.size = 2244
  · by_cases hq : beV (bytesN (s.extract 0 4)) < 8
    · refine ⟨_, _, fun w => verify_ok pub msg s hm hs _ rfl hq w, fun w => refVerify_ok pub msg s hm hs _ rfl hq w, fun h => ?_, fun h => ?_⟩
      · rw [if_pos (of_decide_eq_true h)]
        refine ⟨hs, ?_, hq⟩
        rw [first4 s hs] at hq ⊢
        omega
      · rw [if_neg (of_decide_eq_false h)]
    · exact ⟨0, false, fun w => verify_bad pub msg s (.inr (by omega)) w, fun w => refVerify_bad pub msg s (.inr (by omega)) w, by simp, fun _ => rfl⟩
  · exact ⟨0, false, fun w => verify_bad pub msg s (.inl hs) w, fun w => refVerify_bad pub msg s (.inl hs) w, by simp, fun _ => rfl⟩
theorem bytes_fresh (w : World) (e : TypeId) (s : ByteArray) (j : Nat) (hj : j < s.size) : (Lib.bytesWorld w e s).frozen? ⟨w.heap.size, j, none⟩ = false := by
  unfold World.frozen?
  rw [Lib.bytesWorld_at_new]
  have : s.size ≤ (Lib.bytesCells w e s).size := by unfold Lib.bytesCells; simp
  simp
  omega
set_option maxRecDepth 100000 in
theorem conv_row {W : World} {G cap n : Nat} {L : List Nat} (hl : L.length = n) (h : ∀ j, j < n → W.cell? ⟨G, j, none⟩ = some (.int .u8 ((L.getD j 0 : Nat) : Int))) :
    (convert 69 9 (.slice (some ⟨G, 0, none⟩) n cap)).run Try.prog W = .ok (.string (outB L)) W := by
  rw [← outB_nums]
  refine run_convert_bytes_arg _ _ 5 rfl rfl _ 0 n cap (L.map fun (n : Nat) => (n : Int)) (by simp [hl]) (fun j hj => ?_) _ rfl
  rw [Nat.zero_add, h j hj]
  simp [List.getD_eq_getElem?_getD, List.getElem?_eq_getElem (show j < L.length by omega)]
set_option maxHeartbeats 8000000 in
set_option maxRecDepth 100000 in
theorem otsVerifies_calls (seed m0 m1 : ByteArray) (x0 x1 x2 : Nat) (hx0 : x0 < 65536) (hx1 : x1 < 65536) (hx2 : x2 < 65536) (w : World) :
    Calls Try.prog 11 #[.string seed, .agg #[.string m0, .string m1], .agg #[.int .u16 x0, .int .u16 x1, .int .u16 x2]] w fun e w' => e = .returned (.bool true) ∧ Below w.heap.size w w' := by
  have AW := fun w => awake03_calls w
  have M := fun w => make_calls w
  have hsz : (Try.prog.info? 29).map (·.size) = some (arr .u32 (K64 ++ H8.L)).size := by kernel_rfl
  have htz : (arr .u32 (K64 ++ H8.L)).size = Try.zeroCells29.size := by kernel_rfl
  have ho1 : (arr .u32 (K64 ++ H8.L)).toList.all (·.oneCell') = true := by kernel_rfl
  replace AW := Lib.hid AW
  obtain ⟨W0, hW0⟩ : ∃ W0, (w.alloc (.cells #[.string m0, .string m1] 40)).alloc (.cells #[.int .u16 x0, .int .u16 x1, .int .u16 x2] 68) = W0 := ⟨_, rfl⟩
  have hA4 : Whole W0 w.heap.size 40 #[.string m0, .string m1] := by rw [← hW0]; exact (Whole.new w _ _).alloc _
  have hA5 : Whole W0 (w.heap.size + 1) 68 #[.int .u16 x0, .int .u16 x1, .int .u16 x2] := by rw [← hW0]; exact Whole.new1 w _ _ _
  have hB0 : Later w W0 := by rw [← hW0]; exact ((Later.refl w).alloc _).alloc _
  have e0 := hA4.cell 0
  have e1 := hA4.cell 1
  have f0 := hA5.cell 0
  have f1 := hA5.cell 1
  have f2 := hA5.cell 2
  go_enter Try.func11, Try.ntmps11
  go_upto_region 1 with (fail)
  try rw [hW0]
  clear hW0 hA4 hA5
  generalize hG0 : w.heap.size = G0 at *
  refine wp_region_grow 6 104 (by kernel_rfl) (by kernel_rfl) rfl (fun w1 hl1 => ?_)
  simp only [List.take_succ_cons, List.take_zero, List.drop_succ_cons, List.drop_zero]
  generalize ha : Act.mk _ _ = a0
  have k4 : a0.eval (.tmp 4) = .pointer (some ⟨G0, 0, none⟩) := by subst ha; rfl
  have ks : a0.tmps.size = 104 := by subst ha; rfl
  have ha0 := ha.symm
  clear ha
  apply wpG_value'
  · rfl
  · (intro a wx hlx hk K hK; have e4 : a.eval (.tmp 4) = _ := (hk 4 rfl : a.eval (.tmp 4) = a0.eval (.tmp 4)).trans k4; simp only [execOp, e4]; clear e4 hk; go_simp; exact hK)
  refine wpG_load1 (hl1.cell e0) Try.underlying9 rfl (fun a w hk => hk 16 rfl) ?_
  apply wpG_value'
  · rfl
  · (intro a wx hlx hk K hK; have e4 : a.eval (.tmp 4) = _ := (hk 4 rfl : a.eval (.tmp 4) = a0.eval (.tmp 4)).trans k4; simp only [execOp, e4]; clear e4 hk; go_simp; exact hK)
  refine wpG_load1 (hl1.cell e1) Try.underlying9 rfl (fun a w hk => hk 18 rfl) ?_
  refine wpG_assign (fun a w hk => hk 17 rfl) ?_
  refine wpG_assign (fun a w hk => hk 19 rfl) ?_
  refine wpG_nil (fun w1' hl1' => ?_)
  refine fin_is ?_
  refine fin_is ?_
  refine fin_is ?_
  refine fin_is ?_
  refine fin_is ?_
  refine fin_is ?_
  refine fin_nil ?_
  subst ha0
  clear k4 ks e0 e1
  simp only [Act.put, List.setIfInBounds_toArray, List.set_cons_succ, List.set_cons_zero]
  have hB : Later W0 w1' := hl1.trans hl1'
  clear hl1 hl1'
  by_cases hs1 : seed.size ≤ 50
  · have qs1 : ((50 : Int) < seed.size) = False := eq_false (by omega)
    have qs1' : (50 < seed.size) = False := eq_false (by omega)
    by_cases hs2 : m0.size ≤ 50
    · have qs2 : ((50 : Int) < m0.size) = False := eq_false (by omega)
      have qs2' : (50 < m0.size) = False := eq_false (by omega)
      by_cases hs3 : m1.size ≤ 50
      · have qs3 : ((50 : Int) < m1.size) = False := eq_false (by omega)
        have qs3' : (50 < m1.size) = False := eq_false (by omega)
        obtain ⟨q, hq⟩ : ∃ q, x0 % 8 = q := ⟨_, rfl⟩
        have hq8 : q < 8 := by omega
        have t1 : (x0 : Int).tmod 8 = (q : Int) := by rw [Int.tmod_eq_emod_of_nonneg (Int.natCast_nonneg _)]; omega
        have t2 : (x0 : Int) % 8 = (q : Int) := by omega
        have t3 : IntKind.i64.wrap (q : Int) = q := by simp [IntKind.wrap, IntKind.signed, IntKind.bits]; omega
        have t4 : IntKind.u16.wrap (q : Int) = q := by simp [IntKind.wrap, IntKind.signed, IntKind.bits]; omega
        obtain ⟨i, hi⟩ : ∃ i, x1 % 2244 = i := ⟨_, rfl⟩
        have hi2 : i < 2244 := by omega
        have u1 : (x1 : Int).tmod 2244 = (i : Int) := by rw [Int.tmod_eq_emod_of_nonneg (Int.natCast_nonneg _)]; omega
        have u2 : (x1 : Int) % 2244 = (i : Int) := by omega
        have u3 : IntKind.i64.wrap (x1 : Int) = x1 := by simp [IntKind.wrap, IntKind.signed, IntKind.bits]; omega
        have PB := fun w => public_calls seed (by omega) w
        have RS := fun w => refSign_calls seed (by omega) q (by omega) m0 (by omega) w
        have hsg : (sigN seed q m0).size = 2244 := sigN_size seed q m0
        have kb := fun W => Lib.run_convert_string_bytes (P := Try.prog) W 9 69 5 (sigN seed q m0) Try.underlying9 Try.underlying69 Try.underlying5
        rw [hsg] at kb
        have hcl : (bytesN (sigN seed q m0)).length = 2244 := by rw [bytesN_length, hsg]
        have hc256 : ∀ k, (bytesN (sigN seed q m0)).getD k 0 < 256 := fun k => by
          rw [List.getD_eq_getElem?_getD]
          cases hx : (bytesN (sigN seed q m0))[k]? with
          | none => decide
          | some x => exact bytesN_lt _ x (List.mem_of_getElem? hx)
        have hbc : ∀ (W : World) (j : Nat), j < 2244 → (Lib.bytesWorld W 5 (sigN seed q m0)).cell? ⟨W.heap.size, j, none⟩ = some (.int .u8 (((bytesN (sigN seed q m0)).getD j 0 : Nat) : Int)) := fun W j hj => by
          rw [Lib.bytesWorld_cell W 5 _ j (by omega)]
          unfold bytesN
          rw [List.getD_eq_getElem?_getD, List.getD_eq_getElem?_getD, List.getElem?_map]
          rw [List.getElem?_eq_getElem (show j < (sigN seed q m0).data.toList.length by simpa [hsg] using hj)]
          rfl
        have hbf : ∀ (W : World) (j : Nat), j < 2244 → (Lib.bytesWorld W 5 (sigN seed q m0)).frozen? ⟨W.heap.size, j, none⟩ = false := fun W j hj => bytes_fresh W _ _ j (by omega)
        have hbl : ∀ (W : World), Later W (Lib.bytesWorld W 5 (sigN seed q m0)) := fun W => Lib.bytesWorld_below W _ _
        have hVD := fun s => verdicts (nodeN seed 3 0) m1 s (by omega)
        generalize bytesN (sigN seed q m0) = L at *
        generalize sigN seed q m0 = sg at *
        generalize nodeN seed 3 0 = PK at *
        have hVB := fun s h => verify_bad PK m1 s (.inl h)
        have hRB := fun s h => refVerify_bad PK m1 s (.inl h)
        generalize arr .u32 (K64 ++ H8.L) = tb at *
        clear hq hi hsg
        replace M := Lib.hid M
        replace PB := Lib.hid PB
        replace RS := Lib.hid RS
        replace hVD := Lib.hid hVD
        replace hVB := Lib.hid hVB
        replace hRB := Lib.hid hRB
        replace hc256 := Lib.hid hc256
        replace hbc := Lib.hid hbc
        replace hbf := Lib.hid hbf
        replace hbl := Lib.hid hbl
        replace hcl := Lib.hid hcl
        go_upto_region 6 with (first | ((with_reducible refine (AW.out _).mono ?_); rintro e w4 ⟨rfl, hb4⟩; replace hB := Later.trans hB hb4) | ((with_reducible refine (M.out _).mono ?_); rintro e w6 ⟨rfl, hb6⟩; replace hB := Later.trans hB hb6; have hZ := Whole.new w6 29 Try.zeroCells29; have hG6 := hB.size; replace hB := hB.alloc (.cells Try.zeroCells29 29)) | ((with_reducible apply wl_storeW (ty := 29) hZ); rfl; rfl; rfl; kernel_rfl; exact htz; exact ho1; intro wS hT hgS hzS; replace hB := below_only' hB hgS hG6; clear hgS hzS hZ) | ((with_reducible apply wl_loadW (ty := 29) hT Try.underlying29); rfl; rfl; rfl; exact hsz) | ((with_reducible refine (PB.out _).mono ?_); rintro e w8 ⟨rfl, hb8⟩; replace hB := Later.trans hB hb8; replace hT := Later.whole hb8 hT; clear hb8))
        have f0' := hB.cell f0
        go_upto_region 7 with (((with_reducible refine (RS.out _).mono ?_); rintro e w9 ⟨rfl, hb9⟩; replace hB := Later.trans hB hb9; replace hT := Later.whole hb9 hT; clear hb9))
        have hL := hbl.out w9
        have hc := hbc.out w9
        have hf := hbf.out w9
        have f1' := hL.cell (hB.cell f1)
        have f2' := hL.cell (hB.cell f2)
        generalize Lib.bytesWorld w9 5 sg = W5 at *
        generalize hG9 : w9.heap.size = G at *
        generalize hGt : w6.heap.size = Gt at *
        generalize grownCap w9 2244 0 5 = cap at *
        have hz256 := hc256.out i
        obtain ⟨z, hz⟩ : ∃ z, L.getD i 0 = z := ⟨_, rfl⟩
        rw [hz] at hz256
        have hci := hc i hi2
        rw [hz] at hci
        have hfi := hf i hi2
        obtain ⟨y, hy⟩ : ∃ y, x2 % 256 = y := ⟨_, rfl⟩
        have v1 : IntKind.u8.wrap (x2 : Int) = (y : Int) := by simp [IntKind.wrap, IntKind.signed, IntKind.bits]; omega
        have hy256 : y < 256 := by omega
        have v2 := u8_xor_nat z y hz256 hy256
        have hb256 : z ^^^ y < 256 := Nat.xor_lt_two_pow (n := 8) hz256 hy256
        generalize z ^^^ y = b at *
        have d1 : ((i : Int) < 2244) = True := eq_true (by omega)
        have d2 : (i < 2244) = True := eq_true (by omega)
        clear hy
        replace hz := Lib.hid hz
        replace hc := Lib.hid hc
        replace hf := Lib.hid hf
        obtain ⟨i9, p1, p2, p3, p4⟩ := info_parts (P := Try.prog) (e := 5) (z := .int .u8 0) (size := 1) (bytes := 1) (by kernel_rfl)
        replace p1 := Lib.hid p1
        replace p2 := Lib.hid p2
        refine wp_region_grow 14 104 (by kernel_rfl) (by kernel_rfl) rfl (fun w7 hl7 => ?_)
        simp only [List.take_succ_cons, List.take_zero, List.drop_succ_cons, List.drop_zero]
        generalize ha : Act.mk _ _ = a0
        have k5 : a0.eval (.tmp 5) = .pointer (some ⟨G0 + 1, 0, none⟩) := by subst ha; rfl
        have k11 : a0.eval (.tmp 11) = .slice (some ⟨G, 0, none⟩) 2244 cap := by subst ha; rfl
        have ks : a0.tmps.size = 104 := by subst ha; rfl
        have ha0 := ha.symm
        clear ha
        refine wpG_move (fun a w hk => (hk 11 rfl : a.eval (.tmp 11) = a0.eval (.tmp 11)).trans k11) ?_
        apply wpG_value'
        · rfl
        · (intro a wx hlx hk K hK; have e5 : a.eval (.tmp 5) = _ := (hk 5 rfl : a.eval (.tmp 5) = a0.eval (.tmp 5)).trans k5; simp only [execOp, e5]; clear e5 hk; go_simp; exact hK)
        refine wpG_load1 (hl7.cell f1') Try.underlying67 rfl (fun a w hk => hk 51 rfl) ?_
        apply wpG_value'
        · rfl
        · (intro a wx hlx hk K hK; have e52 : a.eval (.tmp 52) = _ := hk 52 rfl; simp only [execOp, e52]; clear e52 hk; go_simp; exact hK)
        refine wpG_move (fun a w hk => (hk 11 rfl : a.eval (.tmp 11) = a0.eval (.tmp 11)).trans k11) ?_
        apply wpG_value'
        · rfl
        · (intro a wx hlx hk K hK; have e54 : a.eval (.tmp 54) = _ := hk 54 rfl; simp only [execOp, resolve, List.map_toArray, List.map_cons, List.map_nil, Option.map_some, Option.map_none, e54]; clear e54 hk; go_simp; exact hK)
        apply wpG_value'
        · rfl
        · (intro a wx hlx hk K hK; have e53 : a.eval (.tmp 53) = _ := hk 53 rfl; have e55 : a.eval (.tmp 55) = _ := hk 55 rfl; simp only [execOp, e53, e55]; clear e53 e55 hk; go_simp; exact hK)
        apply wpG_value'
        · rfl
        · (intro a wx hlx hk K hK; have e50 : a.eval (.tmp 50) = _ := hk 50 rfl; have e56 : a.eval (.tmp 56) = _ := hk 56 rfl; simp only [execOp, e50, e56]; clear e50 e56 hk; go_simp; exact hK)
        refine wpG_load1 (hl7.cell hci) Try.underlying5 rfl (fun a w hk => hk 57 rfl) ?_
        apply wpG_value'
        · rfl
        · (intro a wx hlx hk K hK; have e5 : a.eval (.tmp 5) = _ := (hk 5 rfl : a.eval (.tmp 5) = a0.eval (.tmp 5)).trans k5; simp only [execOp, e5]; clear e5 hk; go_simp; exact hK)
        refine wpG_load1 (hl7.cell f2') Try.underlying67 rfl (fun a w hk => hk 59 rfl) ?_
        apply wpG_value'
        · rfl
        · (intro a wx hlx hk K hK; have e60 : a.eval (.tmp 60) = _ := hk 60 rfl; simp only [execOp, e60]; clear e60 hk; go_simp; exact hK)
        apply wpG_value'
        · rfl
        · (intro a wx hlx hk K hK; have e58 : a.eval (.tmp 58) = _ := hk 58 rfl; have e61 : a.eval (.tmp 61) = _ := hk 61 rfl; simp only [execOp, e58, e61]; clear e58 e61 hk; go_simp; exact hK)
        apply wpG_value'
        · rfl
        · (intro a wx hlx hk K hK; have e50 : a.eval (.tmp 50) = _ := hk 50 rfl; have e56 : a.eval (.tmp 56) = _ := hk 56 rfl; simp only [execOp, e50, e56]; clear e50 e56 hk; go_simp; exact hK)
        refine wpG_nil (fun w7' hl7' => ?_)
        refine fin_is ?_
        refine fin_is ?_
        refine fin_is ?_
        refine fin_is ?_
        refine fin_is ?_
        refine fin_is ?_
        refine fin_is ?_
        refine fin_is ?_
        refine fin_is ?_
        refine fin_is ?_
        refine fin_is ?_
        refine fin_is ?_
        refine fin_is ?_
        refine fin_is ?_
        refine fin_nil ?_
        have hl := hl7.trans hl7'
        clear hl7 hl7'
        refine wl_store1 (p := ⟨G, i, none⟩) (v := .int .u8 b) (hl.cell hci) ((Below.frozen hl (World.block_lt_of_cell? W5 _ hci)).trans hfi) p1.out p3 (by simp [eval_put, put_size, ks]) (by simp [eval_put, put_size, ks]) rfl rfl ?_
        subst ha0
        clear k5 k11 ks
        simp only [Act.put, List.setIfInBounds_toArray, List.set_cons_succ, List.set_cons_zero]
        have hl2 : Later w9 (w7'.setCell ⟨G, i, none⟩ (.int .u8 b)) := Below.setCell (hL.trans hl) (Nat.le_of_eq hG9) _
        have hT2 := Later.whole hl2 hT
        have f2'' : (w7'.setCell ⟨G, i, none⟩ (.int .u8 b)).cell? ⟨G0 + 1, 2, none⟩ = some (.int .u16 x2) := Later.cell hl2 (hB.cell f2)
        have hcc : ∀ j, j < 2244 → (w7'.setCell ⟨G, i, none⟩ (.int .u8 b)).cell? ⟨G, j, none⟩ = some (.int .u8 (((L.set i b).getD j 0 : Nat) : Int)) := fun j hj => by
          by_cases e : j = i
          · subst e
            have h1 := hl.cell hci
            rw [World.cell?_setCell_same _ _ _ h1, List.getD_eq_getElem?_getD, List.getElem?_set_self (by rw [hcl.out]; exact hj)]
            rfl
          · rw [World.cell?_setCell_other _ _ _ _ (fun h => e (by injection h; omega)), hl.cell (hc.out j hj), List.getD_eq_getElem?_getD, List.getD_eq_getElem?_getD, List.getElem?_set_ne (Ne.symm e)]
        have hcv : (convert 69 9 (.slice (some ⟨G, 0, none⟩) 2244 cap)).run Try.prog (w7'.setCell ⟨G, i, none⟩ (.int .u8 b)) = .ok (.string (outB (L.set i b))) (w7'.setCell ⟨G, i, none⟩ (.int .u8 b)) := by
          exact conv_row (by rw [List.length_set]; exact hcl.out) hcc
        have hsz1 : (outB (L.set i b)).size = 2244 := by rw [outB_size, List.length_set, hcl.out]
        have hcz : ((outB (L.set i b)).extract 0 2243).size ≠ 2244 := by rw [ByteArray.size_extract]; omega
        have VB := fun w => hVB.out _ hcz w
        have RB := fun w => hRB.out _ hcz w
        obtain ⟨k, ok, VV, RR, g1, g2⟩ := hVD.out (outB (L.set i b))
        generalize w7'.setCell ⟨G, i, none⟩ (.int .u8 b) = W8 at *
        generalize outB (L.set i b) = sb at *
        replace hB := hB.trans hl2
        replace hT := hT2
        clear hcc hL hl hl2 hT2 hci hfi hc hf hz hcl hc256 hbc hbf hbl hVD hVB hRB f0 f1 f2 f0' f1' f2' kb hG9 hcz v1 v2 d1 d2 u1 u2 u3 t1 t2 t3 t4 p1 p2 p3 p4 PB RS
        replace VV := Lib.hid VV
        replace RR := Lib.hid RR
        replace VB := Lib.hid VB
        replace RB := Lib.hid RB
        have q43 : ((2243 : Int) ≤ sb.size) = True := eq_true (by omega)
        have q43' : (2243 ≤ sb.size) = True := eq_true (by omega)
        by_cases hcut : 60000 < x2
        · have qc : (60000 < x2) = True := eq_true hcut
          have qc' : ((60000 : Int) < x2) = True := eq_true (by omega)
          generalize hsc : sb.extract 0 2243 = sc at *
          go_wp2_with (first | ((with_reducible apply wl_loadW (ty := 29) hT Try.underlying29); rfl; rfl; rfl; exact hsz) | ((with_reducible refine (VB.out _).mono ?_); rintro e w8 ⟨rfl, hb8⟩; replace hB := Later.trans hB hb8; replace hT := Later.whole hb8 hT; clear hb8) | ((with_reducible refine (RB.out _).mono ?_); rintro e w8 ⟨rfl, hb8⟩; replace hB := Later.trans hB hb8; replace hT := Later.whole hb8 hT; clear hb8))
          go_returns
          go_light
          exact ⟨by first | rfl | simp, hB0.trans hB⟩
        · have qc : (60000 < x2) = False := eq_false hcut
          have qc' : ((60000 : Int) < x2) = False := eq_false (by omega)
          cases ok with
          | true =>
            obtain ⟨g3, g4, g5⟩ := g1 rfl
            have g6 := byte_at sb 3 (by omega)
            rw [g4] at g6
            clear g1 g2 g3 g4
            go_wp2_with (first | ((with_reducible apply wl_loadW (ty := 29) hT Try.underlying29); rfl; rfl; rfl; exact hsz) | ((with_reducible refine (VV.out _).mono ?_); rintro e w8 ⟨rfl, hb8⟩; replace hB := Later.trans hB hb8; replace hT := Later.whole hb8 hT; clear hb8) | ((with_reducible refine (RR.out _).mono ?_); rintro e w8 ⟨rfl, hb8⟩; replace hB := Later.trans hB hb8; replace hT := Later.whole hb8 hT; clear hb8))
            go_returns
            go_light
            exact ⟨by first | rfl | simp, hB0.trans hB⟩
          | false =>
            obtain rfl := g2 rfl
            clear g1 g2
            go_wp2_with (first | ((with_reducible apply wl_loadW (ty := 29) hT Try.underlying29); rfl; rfl; rfl; exact hsz) | ((with_reducible refine (VV.out _).mono ?_); rintro e w8 ⟨rfl, hb8⟩; replace hB := Later.trans hB hb8; replace hT := Later.whole hb8 hT; clear hb8) | ((with_reducible refine (RR.out _).mono ?_); rintro e w8 ⟨rfl, hb8⟩; replace hB := Later.trans hB hb8; replace hT := Later.whole hb8 hT; clear hb8))
            go_returns
            go_light
            exact ⟨by first | rfl | simp, hB0.trans hB⟩
      · have qs3 : ((50 : Int) < m1.size) = True := eq_true (by omega)
        have qs3' : (50 < m1.size) = True := eq_true (by omega)
        go_wp2_with (first | ((with_reducible refine (AW.out _).mono ?_); rintro e w4 ⟨rfl, hb4⟩; replace hB := Later.trans hB hb4))
        go_returns
        go_light
        exact ⟨by first | rfl | kernel_rfl, by first | exact hB0.trans hB | (rw [← hG0]; exact hB0.trans hB)⟩
    · have qs2 : ((50 : Int) < m0.size) = True := eq_true (by omega)
      have qs2' : (50 < m0.size) = True := eq_true (by omega)
      go_wp2_with (first | ((with_reducible refine (AW.out _).mono ?_); rintro e w4 ⟨rfl, hb4⟩; replace hB := Later.trans hB hb4))
      go_returns
      go_light
      exact ⟨by first | rfl | kernel_rfl, by first | exact hB0.trans hB | (rw [← hG0]; exact hB0.trans hB)⟩
  · have qs1 : ((50 : Int) < seed.size) = True := eq_true (by omega)
    have qs1' : (50 < seed.size) = True := eq_true (by omega)
    go_wp2_with (first | ((with_reducible refine (AW.out _).mono ?_); rintro e w4 ⟨rfl, hb4⟩; replace hB := Later.trans hB hb4))
    go_returns
    go_light
    exact ⟨by first | rfl | kernel_rfl, by first | exact hB0.trans hB | (rw [← hG0]; exact hB0.trans hB)⟩
end Go.Proofs.Ytfkafejoacpclaa
