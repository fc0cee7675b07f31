/- A message's digits: the program's. Conditions: numbers of a byte, texts of at most 2^30 bytes. -/
import Derived.Test.YteipcmbbonfklaaOtsWire
import Derived.Test.YteipcmbbonfklaaGrowB
import Derived.Test.YteipcmbbonfklaaPShaS
import Derived.Laws.BitsLemmas
namespace Go.Proofs.Yteipcmbbonfklaa
open Go.RowKit
set_option linter.unusedVariables false
set_option linter.unusedSimpArgs false
theorem dgs_get (h : List Nat) {i : Nat} (hi : i < 64) : (dgsL h).getD i 0 = nibN h i := by
  unfold dgsL
  rw [List.getD_eq_getElem?_getD, List.getElem?_append_left (by simpa using hi), List.getElem?_map, List.getElem?_range hi]
  rfl
theorem dgs_64 (h : List Nat) : (dgsL h).getD 64 0 = sumTo h 64 / 256 ∧ (dgsL h).getD 65 0 = sumTo h 64 / 16 % 16 ∧ (dgsL h).getD 66 0 = sumTo h 64 % 16 := by
  have hl : ((List.range 64).map (nibN h)).length = 64 := by simp
  unfold dgsL
  refine ⟨?_, ?_, ?_⟩ <;> (rw [List.getD_eq_getElem?_getD, List.getElem?_append_right (by omega), hl]; rfl)
theorem and15 (a : Nat) : bits .and .i64 (a : Int) 15 = ((a % 16 : Nat) : Int) := by
  have h15 : (BitVec.ofInt 64 15).toNat = 2 ^ 4 - 1 := by decide
  have key : (BitVec.ofInt 64 (a : Int) &&& BitVec.ofInt 64 15).toNat = ((a : Int) % ((2 ^ 64 : Nat) : Int)).toNat % 2 ^ 4 := by
    rw [BitVec.toNat_and, BitVec.toNat_ofInt, h15, Nat.and_two_pow_sub_one_eq_mod]
  show IntKind.i64.wrap ((BitVec.ofInt 64 (a : Int) &&& BitVec.ofInt 64 15).toNat : Nat) = _
  rw [key, IntKind.wrap_i64]
  omega
theorem fillL_get (l : List Nat) {k i : Nat} (hi : i < k) (hk : k ≤ l.length) : (fillL l k).getD i 0 = l.getD i 0 := by
  unfold fillL
  rw [List.getD_eq_getElem?_getD, List.getD_eq_getElem?_getD, List.getElem?_append_left (by rw [List.length_take]; omega), List.getElem?_take, if_pos hi]
theorem fillL_none67 {D : List Nat} (h : D.length = 67 := by exact dgsL_length _) : arr .i64 (fillL D 0) = arr .i64 (List.replicate 67 0) := by rw [fillL_none, h]
set_option maxHeartbeats 4000000 in
set_option maxRecDepth 100000 in
theorem digits_calls (q : Nat) (hq : q ≤ 255) (msg : ByteArray) (hm : msg.size ≤ 1073741824) (w : World) :
    Calls Try.prog 113 #[.agg (arr .u32 (K64 ++ H8.L)), .int .i64 q, .string msg] w fun e w' => e = .returned (.agg (arr .i64 (dgsN q msg))) ∧ Below w.heap.size w w' := by
  have hsz : (Try.prog.info? 31).map (·.size) = some (arr .u32 (K64 ++ H8.L)).size := by kernel_rfl
  have NC := fun w => wnum_calls (q : Int) w
  have TC := fun w => wtext_calls msg w (by omega)
  have n4 := numW_size (q : Int)
  have tz := textW_size msg
  have hs1 : ((⟨#[109]⟩ : ByteArray) ++ numW q).size = 1 + (numW q).size := ByteArray.size_append
  have hs2 : (((⟨#[109]⟩ : ByteArray) ++ numW q) ++ textW msg).size = 1 + (numW q).size + (textW msg).size := by rw [ByteArray.size_append, hs1]
  have SC := fun w => shaSum_calls (((⟨#[109]⟩ : ByteArray) ++ numW q) ++ textW msg) (by omega) w
  have nolen1 : (9223372036854775807 < 1 + (numW q).size) = False := eq_false (by omega)
  have nolen2 : (9223372036854775807 < 1 + (numW q).size + (textW msg).size) = False := eq_false (by omega)
  have eS : shaN (((⟨#[109]⟩ : ByteArray) ++ numW q) ++ textW msg) = dgsH q msg := rfl
  rw [eS] at SC
  unfold dgsN
  have h32 : (dgsH q msg).size = 32 := by
    unfold dgsH
    simp only [shaN, outB_size, flat_size]
    rfl
  have hb := bytesN_lt (dgsH q msg)
  generalize dgsH q msg = S at *
  generalize numW (q : Int) = nq at *
  generalize textW msg = tq at *
  clear eS hs1 hs2 n4 tz
  generalize arr .u32 (K64 ++ H8.L) = tb at *
  obtain ⟨W0, hW0⟩ : ∃ W0, ((w.alloc (.cells tb 31)).alloc (.cells Try.zeroCells175 175)).alloc (.cells Try.zeroCells175 175) = W0 := ⟨_, rfl⟩
  have hT : Whole W0 w.heap.size 31 tb := by rw [← hW0]; exact ((Whole.new w _ _).alloc _).alloc _
  have hR : Whole W0 (w.heap.size + 1) 175 Try.zeroCells175 := by rw [← hW0]; exact (Whole.new1 w _ _ _).alloc _
  have h7 : Whole W0 (w.heap.size + 1 + 1) 175 Try.zeroCells175 := by rw [← hW0]; exact Whole.new2 w _ _ _ _
  have hB : Later w W0 := by rw [← hW0]; exact (((Later.refl w).alloc _).alloc _).alloc _
  have hzz : Try.zeroCells175 = arr .i64 (List.replicate 67 0) := by kernel_rfl
  replace hzz := Lib.hid hzz
  replace NC := Lib.hid NC
  replace TC := Lib.hid TC
  replace SC := Lib.hid SC
  go_enter Try.func113, Try.ntmps113
  go_upto_region 3 with (fail)
  try rw [hW0]
  clear hW0
  generalize hG : w.heap.size = G at *
  refine wp_region_grow 11 64 (by kernel_rfl) (by kernel_rfl) rfl (fun w3 hl3 => ?_)
  simp only [List.take_succ_cons, List.take_zero, List.drop_succ_cons, List.drop_zero]
  generalize ha : Act.mk _ _ = a0
  have k1 : a0.eval (.tmp 1) = .int .i64 q := by subst ha; rfl
  have k2 : a0.eval (.tmp 2) = .string msg := by subst ha; rfl
  have k3 : a0.eval (.tmp 3) = .pointer (some ⟨G, 0, none⟩) := by subst ha; rfl
  have ks : a0.tmps.size = 64 := by subst ha; rfl
  have ha0 := ha.symm
  clear ha
  refine wpG_loadW (hl3.whole hT) Try.underlying31 rfl (hsz) (fun a w hk => (hk 3 rfl : a.eval (.tmp 3) = a0.eval (.tmp 3)).trans k3) ?_
  refine wpG_move (fun a w hk => (hk 1 rfl : a.eval (.tmp 1) = a0.eval (.tmp 1)).trans k1) ?_
  refine wpG_call _ _ Try.func79 (by kernel_rfl) (by kernel_rfl) (fun W _ => NC.out W) (fun a w hk => by have e12 : a.eval (.tmp 12) = _ := hk 12 rfl; simp [e12]) ?_
  apply wpG_value'
  · rfl
  · (intro a wx hlx hk K hK; have e13 : a.eval (.tmp 13) = _ := hk 13 rfl; simp only [execOp, e13]; clear e13 hk; go_simp; exact hK)
  refine wpG_move (fun a w hk => (hk 2 rfl : a.eval (.tmp 2) = a0.eval (.tmp 2)).trans k2) ?_
  refine wpG_call _ _ Try.func78 (by kernel_rfl) (by kernel_rfl) (fun W _ => TC.out W) (fun a w hk => by have e15 : a.eval (.tmp 15) = _ := hk 15 rfl; simp [e15]) ?_
  apply wpG_value'
  · rfl
  · (intro a wx hlx hk K hK; have e14 : a.eval (.tmp 14) = _ := hk 14 rfl; have e16 : a.eval (.tmp 16) = _ := hk 16 rfl; simp only [execOp, e14, e16]; clear e14 e16 hk; go_simp; exact hK)
  refine wpG_call _ _ Try.func31 (by kernel_rfl) (by kernel_rfl) (fun W _ => SC.out W) (fun a w hk => by have e11 : a.eval (.tmp 11) = _ := hk 11 rfl; have e17 : a.eval (.tmp 17) = _ := hk 17 rfl; simp [e11, e17]) ?_
  refine wpG_bytes Try.underlying9 Try.underlying67 Try.underlying5 (fun a w hk => hk 18 rfl) ?_
  apply wpG_valueF (Is (.int .i64 32)) (fun _ _ _ _ h => h) rfl
  · (intro a wx hlx hk; obtain ⟨g, c, eb, -⟩ := (hk 19 rfl : BytesOf _ (S) (a.eval (.tmp 19)) wx); refine ⟨_, rfl, fun K hK => ?_⟩; simp only [execOp, resolve, List.map_toArray, List.map_cons, List.map_nil, Option.map_some, Option.map_none, eb]; clear eb hk; go_simp; exact hK)
  refine wpG_move (fun a w hk => rfl) ?_
  refine wpG_nil (fun w3' hl3' => ?_)
  refine fin_is ?_
  refine fin_is ?_
  refine fin_is ?_
  refine fin_is ?_
  refine fin_is ?_
  refine fin_is ?_
  refine fin_is ?_
  refine fin_is ?_
  refine fin_some (fun v19 hv19 => ?_)
  refine fin_is ?_
  refine fin_is ?_
  refine fin_nil ?_
  obtain ⟨gb, cb, rfl, hgb, hbc⟩ := hv19
  subst ha0
  clear k3 k1 k2 ks
  simp only [Act.put, List.setIfInBounds_toArray, List.set_cons_succ, List.set_cons_zero]
  have hl := hl3.trans hl3'
  have hgb2 : G + 1 + 1 < gb := by have := (hl3.whole h7).lt; omega
  replace hR := hl.whole hR
  replace h7 := hl.whole h7
  replace hB := hB.trans hl
  rw [hzz.out, ← fillL_none67 (dgsL_length (bytesN S))] at h7
  rw [h32] at hbc
  clear hl3 hl3' hl hT NC TC SC hgb
  replace hbc := Lib.hid hbc
  clear w3
  generalize w3' = W at *
  have hD := dgsL_length (bytesN S)
  have hg0 : W.grownBy W (some (G + 1 + 1)) := only_same _ _
  have hnib := fun i => nibN_lt hb i
  have hsum := sumTo_le (bytesN S)
  have hget := fun i hi => dgs_get (bytesN S) (i := i) hi
  obtain ⟨g64, g65, g66⟩ := dgs_64 (bytesN S)
  have hn0 : ∀ k, nibN (bytesN S) (2 * k) = (bytesN S).getD k 0 / 16 := fun k => by unfold nibN; rw [if_pos (by omega), show 2 * k / 2 = k by omega]
  have hn1 : ∀ k, nibN (bytesN S) (2 * k + 1) = (bytesN S).getD k 0 % 16 := fun k => by unfold nibN; rw [if_neg (by omega), show (2 * k + 1) / 2 = k by omega]
  have hc256 : ∀ k, (bytesN S).getD k 0 < 256 := fun k => by
    rw [List.getD_eq_getElem?_getD]
    cases hx : (bytesN S)[k]? with
    | none => decide
    | some x => exact hb x (List.mem_of_getElem? hx)
  have hss : ∀ k, sumTo (bytesN S) (2 * (k + 1)) = sumTo (bytesN S) (2 * k) + (15 - nibN (bytesN S) (2 * k)) + (15 - nibN (bytesN S) (2 * k + 1)) := fun k => rfl
  generalize hDe : dgsL (bytesN S) = D at *
  generalize hbe : bytesN S = bb at *
  replace hbe := Lib.hid hbe
  replace hDe := Lib.hid hDe
  clear hb
  replace hnib := Lib.hid hnib
  replace hsum := Lib.hid hsum
  replace hget := Lib.hid hget
  replace hn0 := Lib.hid hn0
  replace hn1 := Lib.hid hn1
  replace hss := Lib.hid hss
  replace hc256 := Lib.hid hc256
  replace hzz := Lib.hid hzz
  replace g64 := Lib.hid g64
  replace g65 := Lib.hid g65
  replace g66 := Lib.hid g66
  go_wp2_with (fail)
  go_loopg [8, 9, 10, 21] 33 (fun kg s i c x wr => ∃ k : Nat, x = .int .i64 k ∧ k ≤ 32 ∧ kg = 33 - k ∧ s = .int .i64 (sumTo bb (2 * k) : Nat) ∧ Whole wr (G + 1 + 1) 175 (arr .i64 (fillL D (2 * k))) ∧ W.grownBy wr (some (G + 1 + 1)))
  case atStart => exact ⟨0, rfl, by omega, rfl, rfl, h7, hg0⟩
  case round =>
    clear h7 hg0
    obtain ⟨k, rfl, hk, hkg, rfl, h7, hg⟩ := hrel
    replace hkg := Lib.hid hkg
    by_cases hlt : k < 32
    · have ec := cell_only (hbc.out k hlt) hg (by simp; omega)
      have hc := hc256.out k
      have m0 := hn0.out k
      have m1 := hn1.out k
      have mss := hss.out k
      have d0 := hget.out (2 * k) (by omega)
      have d1 := hget.out (2 * k + 1) (by omega)
      have st0 := fillL_set D (k := 2 * k) (by omega)
      have st1 := fillL_set D (k := 2 * k + 1) (by omega)
      have hs := hsum.out (2 * k)
      rw [d0, m0] at st0
      rw [d1, m1] at st1
      rw [m0, m1] at mss
      generalize bb.getD k 0 = c at *
      obtain ⟨a, ha⟩ : ∃ a, c / 16 = a := ⟨_, rfl⟩
      obtain ⟨b, hb⟩ : ∃ b, c % 16 = b := ⟨_, rfl⟩
      rw [ha] at st0
      rw [hb] at st1
      rw [ha, hb] at mss
      have e0 := arr_cell h7 (i := 2 * k) (by rw [fillL_length]; omega)
      have f0 := h7.frozen (2 * k)
      have h7a := arr_put h7 (2 * k) a
      rw [st0] at h7a
      have e1 := arr_cell h7a (i := 2 * k + 1) (by rw [fillL_length]; omega)
      have f1 := h7a.frozen (2 * k + 1)
      have h7b := arr_put h7a (2 * k + 1) b
      rw [st1] at h7b
      have x1 : IntKind.i64.wrap (2 * (k : Int)) = ((2 * k : Nat) : Int) := by simp [IntKind.wrap, IntKind.signed, IntKind.bits]; omega
      have x2 : IntKind.i64.wrap (((2 * k : Nat) : Int) + 1) = ((2 * k + 1 : Nat) : Int) := by simp [IntKind.wrap, IntKind.signed, IntKind.bits]; omega
      have y1 : (c : Int) / 16 = (a : Int) := by omega
      have y2 : (c : Int) % 16 = (b : Int) := by omega
      have z1 : IntKind.i64.wrap (30 - (a : Int)) = ((30 - a : Nat) : Int) := by simp [IntKind.wrap, IntKind.signed, IntKind.bits]; omega
      have z2 : IntKind.i64.wrap (((30 - a : Nat) : Int) - (b : Int)) = ((30 - a - b : Nat) : Int) := by simp [IntKind.wrap, IntKind.signed, IntKind.bits]; omega
      rw [show 2 * (k + 1) = 2 * k + 1 + 1 by omega] at mss
      have z3 : IntKind.i64.wrap ((sumTo bb (2 * k) : Nat) + ((30 - a - b : Nat) : Int)) = ((sumTo bb (2 * k + 1 + 1) : Nat) : Int) := by rw [mss]; simp [IntKind.wrap, IntKind.signed, IntKind.bits]; omega
      have ca := arr_cell h7b (i := 2 * k) (by rw [fillL_length]; omega)
      have cb' := arr_cell h7b (i := 2 * k + 1) (by rw [fillL_length]; omega)
      rw [fillL_get D (by omega) (by omega), d0, m0, ha] at ca
      rw [fillL_get D (by omega) (by omega), d1, m1, hb] at cb'
      have hgb := only_put (only_put hg (p := ⟨G + 1 + 1, 2 * k, none⟩) (.inl rfl) (.int .i64 (a : Int))) (p := ⟨G + 1 + 1, 2 * k + 1, none⟩) (.inl rfl) (.int .i64 (b : Int))
      have ka : a < 16 := by omega
      have kb : b < 16 := by omega
      have ku1 : 2 * k + 1 < 67 := by omega
      have ku0 : 2 * k < 67 := by omega
      clear mss st0 st1 d0 d1 m0 m1 hs ha hb h7 h7a hg
      generalize hk1 : 2 * k + 1 = k1 at *
      generalize hk0 : 2 * k = k0 at *
      have qk0 : ((k0 : Int) < 67) = True := eq_true (by omega)
      have qk1 : ((k1 : Int) < 67) = True := eq_true (by omega)
      replace hk1 := Lib.hid hk1
      replace hk0 := Lib.hid hk0
      generalize hs1 : sumTo bb (k1 + 1) = s1 at *
      generalize sumTo bb k0 = s0 at *
      replace hs1 := Lib.hid hs1
      go_upto_region 7 with (fail)
      generalize (wr.setCell ⟨G + 1 + 1, k0, none⟩ (.int .i64 (a : Int))).setCell ⟨G + 1 + 1, k1, none⟩ (.int .i64 (b : Int)) = W2 at *
      refine wp_region_grow 14 64 (by kernel_rfl) (by kernel_rfl) rfl (fun w4 hl4 => ?_)
      simp only [List.take_succ_cons, List.take_zero, List.drop_succ_cons, List.drop_zero]
      generalize ha : Act.mk _ _ = a0
      have k7 : a0.eval (.tmp 7) = .pointer (some ⟨G + 1 + 1, 0, none⟩) := by subst ha; rfl
      have k8 : a0.eval (.tmp 8) = .int .i64 s0 := by subst ha; rfl
      have k9 : a0.eval (.tmp 9) = .int .i64 k := by subst ha; rfl
      have ks : a0.tmps.size = 64 := by subst ha; rfl
      have ha0 := ha.symm
      clear ha
      refine wpG_move (fun a w hk => (hk 8 rfl : a.eval (.tmp 8) = a0.eval (.tmp 8)).trans k8) ?_
      refine wpG_move (fun a w hk => (hk 9 rfl : a.eval (.tmp 9) = a0.eval (.tmp 9)).trans k9) ?_
      apply wpG_value'
      · rfl
      · (intro a wx hlx hk K hK; have e40 : a.eval (.tmp 40) = _ := hk 40 rfl; simp only [execOp, e40]; clear e40 hk; go_simp; exact hK)
      apply wpG_value'
      · rfl
      · (intro a wx hlx hk K hK; have e7 : a.eval (.tmp 7) = _ := (hk 7 rfl : a.eval (.tmp 7) = a0.eval (.tmp 7)).trans k7; have e41 : a.eval (.tmp 41) = _ := hk 41 rfl; simp only [execOp, e7, e41]; clear e7 e41 hk; go_simp; exact hK)
      refine wpG_load1 (hl4.cell ca) Try.underlying3 rfl (fun a w hk => hk 42 rfl) ?_
      apply wpG_value'
      · rfl
      · (intro a wx hlx hk K hK; have e43 : a.eval (.tmp 43) = _ := hk 43 rfl; simp only [execOp, e43]; clear e43 hk; go_simp; exact hK)
      refine wpG_move (fun a w hk => (hk 9 rfl : a.eval (.tmp 9) = a0.eval (.tmp 9)).trans k9) ?_
      apply wpG_value'
      · rfl
      · (intro a wx hlx hk K hK; have e45 : a.eval (.tmp 45) = _ := hk 45 rfl; simp only [execOp, e45]; clear e45 hk; go_simp; exact hK)
      apply wpG_value'
      · rfl
      · (intro a wx hlx hk K hK; have e46 : a.eval (.tmp 46) = _ := hk 46 rfl; simp only [execOp, e46]; clear e46 hk; go_simp; exact hK)
      apply wpG_value'
      · rfl
      · (intro a wx hlx hk K hK; have e7 : a.eval (.tmp 7) = _ := (hk 7 rfl : a.eval (.tmp 7) = a0.eval (.tmp 7)).trans k7; have e47 : a.eval (.tmp 47) = _ := hk 47 rfl; simp only [execOp, e7, e47]; clear e7 e47 hk; go_simp; exact hK)
      refine wpG_load1 (hl4.cell cb') Try.underlying3 rfl (fun a w hk => hk 48 rfl) ?_
      apply wpG_value'
      · rfl
      · (intro a wx hlx hk K hK; have e44 : a.eval (.tmp 44) = _ := hk 44 rfl; have e49 : a.eval (.tmp 49) = _ := hk 49 rfl; simp only [execOp, e44, e49]; clear e44 e49 hk; go_simp; exact hK)
      apply wpG_value'
      · rfl
      · (intro a wx hlx hk K hK; have e39 : a.eval (.tmp 39) = _ := hk 39 rfl; have e50 : a.eval (.tmp 50) = _ := hk 50 rfl; simp only [execOp, e39, e50]; clear e39 e50 hk; go_simp; exact hK)
      refine wpG_assign (fun a w hk => hk 51 rfl) ?_
      refine wpG_nil (fun w4' hl4' => ?_)
      refine fin_is ?_
      refine fin_is ?_
      refine fin_is ?_
      refine fin_is ?_
      refine fin_is ?_
      refine fin_is ?_
      refine fin_is ?_
      refine fin_is ?_
      refine fin_is ?_
      refine fin_is ?_
      refine fin_is ?_
      refine fin_is ?_
      refine fin_is ?_
      refine fin_is ?_
      refine fin_nil ?_
      subst ha0
      clear k8 k9 k7 ks
      simp only [Act.put, List.setIfInBounds_toArray, List.set_cons_succ, List.set_cons_zero]
      have hl := hl4.trans hl4'
      have h7n := hl.whole h7b
      have hgn := only_then hgb (only_below hl _)
      clear hl4 hl4' hl h7b hgb ca cb' e0 e1 f0 f1 ec x1 x2 y1 y2 z1 z2 z3
      go_wp2_with (fail)
      go_roundg (32 - k)
      case measure => go_light; rw [hkg.out]; omega
      case rel =>
        go_light
        have e2 : 2 * (k + 1) = k1 + 1 := by have := hk1.out; have := hk0.out; omega
        exact ⟨k + 1, by go_num, by omega, by omega, by rw [e2, hs1.out], by rw [e2]; exact h7n, hgn⟩
    · obtain rfl : k = 32 := by omega
      have e64 : sumTo bb (2 * 32) = sumTo bb 64 := rfl
      rw [e64]
      have h7a : Whole wr (G + 1 + 1) 175 (arr .i64 (fillL D 64)) := h7
      have hs := hsum.out 64
      have t64 := fillL_set D (k := 64) (by omega)
      have t65 := fillL_set D (k := 65) (by omega)
      have t66 := fillL_set D (k := 66) (by omega)
      rw [g64.out] at t64
      rw [g65.out] at t65
      rw [g66.out] at t66
      clear h7 e64
      generalize sumTo bb 64 = sm at *
      obtain ⟨u, hu⟩ : ∃ u, sm / 16 = u := ⟨_, rfl⟩
      obtain ⟨v1, hv1⟩ : ∃ v, sm / 256 = v := ⟨_, rfl⟩
      obtain ⟨v2, hv2⟩ : ∃ v, u % 16 = v := ⟨_, rfl⟩
      obtain ⟨v3, hv3⟩ : ∃ v, sm % 16 = v := ⟨_, rfl⟩
      rw [hv1] at t64
      rw [hu, hv2] at t65
      rw [hv3] at t66
      have kus : sm < 1024 := by omega
      have kuu : u < 64 := by omega
      have bb1 := and15 u
      have bb2 := and15 sm
      rw [hv2] at bb1
      rw [hv3] at bb2
      have y1 : (sm : Int) / 256 = (v1 : Int) := by omega
      have y2 : (sm : Int) / 16 = (u : Int) := by omega
      have y3 : (u : Int) % 16 = (v2 : Int) := by omega
      have y4 : (sm : Int) % 16 = (v3 : Int) := by omega
      have c64 := arr_cell h7a (i := 64) (by rw [fillL_length]; omega)
      have f64 := h7a.frozen 64
      have h7b := arr_put h7a 64 v1
      rw [t64] at h7b
      have c65 := arr_cell h7b (i := 65) (by rw [fillL_length]; omega)
      have f65 := h7b.frozen 65
      have h7c := arr_put h7b 65 v2
      rw [t65] at h7c
      have c66 := arr_cell h7c (i := 66) (by rw [fillL_length]; omega)
      have f66 := h7c.frozen 66
      have h7d := arr_put h7c 66 v3
      rw [t66, show fillL D 67 = D by rw [← hD]; exact fillL_all D] at h7d
      have hgd := only_put (only_put (only_put hg (p := ⟨G + 1 + 1, 64, none⟩) (.inl rfl) (.int .i64 (v1 : Int))) (p := ⟨G + 1 + 1, 65, none⟩) (.inl rfl) (.int .i64 (v2 : Int))) (p := ⟨G + 1 + 1, 66, none⟩) (.inl rfl) (.int .i64 (v3 : Int))
      have hRd := Whole.only hR hgd (by simp)
      have hBd := below_only' hB hgd (by omega)
      have hsz54 : (Try.prog.info? 175).map (·.size) = some (arr .i64 D).size := by rw [arr_size, hD]; kernel_rfl
      have hz54 : (arr .i64 D).size = Try.zeroCells175.size := by rw [arr_size, hD]; kernel_rfl
      have ho54 : (arr .i64 D).toList.all (·.oneCell') = true := by unfold arr; simp [List.all_eq_true, Value.oneCell']
      clear h7a h7b h7c t64 t65 t66 hg hu hv1 hv2 hv3 hB hR
      go_wp2_with (first | ((with_reducible apply wl_loadW (ty := 175) h7d Try.underlying175); rfl; rfl; rfl; exact hsz54) | ((with_reducible apply wl_storeW (ty := 175) hRd); rfl; rfl; rfl; kernel_rfl; exact hz54; exact ho54; intro w9 hs9 hg9 hz9))
      refine bodyPost_ret (results_cell_row rfl _ _ _ _ _ _ _ (by rfl) hs9 Try.underlying175 rfl hsz54) rfl ?_
      go_light
      exact ⟨by rw [hbe.out, hDe.out], below_only' hBd hg9 (by omega)⟩
end Go.Proofs.Yteipcmbbonfklaa
