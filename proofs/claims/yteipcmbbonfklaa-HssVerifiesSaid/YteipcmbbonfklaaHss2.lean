/- Layer 10, signatures verified: the program's and the reference's. Conditions: messages of at most 1000 bytes. -/
import Derived.Test.YteipcmbbonfklaaHss1
namespace Go.Proofs.Yteipcmbbonfklaa
open Go.RowKit
set_option linter.unusedVariables false
set_option linter.unusedSimpArgs false
theorem bytesN_ext (x : ByteArray) (i j k : Nat) (h : i + k < j) : (bytesN (x.extract i j)).getD k 0 = (bytesN x).getD (i + k) 0 := by
  unfold bytesN
  rw [ba_extract, List.getD_eq_getElem?_getD, List.getD_eq_getElem?_getD, List.getElem?_map, List.getElem?_map, List.getElem?_take_of_lt (by omega), List.getElem?_drop]
set_option maxHeartbeats 1000000 in
set_option maxRecDepth 100000 in
theorem hverify_no (pub msg x : ByteArray) (hs : x.size ≠ 4520) (w : World) :
    Calls Try.prog 35 #[.agg (arr .u32 (K64 ++ H8.L)), .string pub, .string msg, .string x] w fun e w' => e = .returned (.tuple #[.int .i64 0, .bool false]) ∧ Below w.heap.size w w' := by
  generalize arr .u32 (K64 ++ H8.L) = tb at *
  have hB1 : Below w.heap.size w (w.alloc (.cells tb 31)) := by go_grown
  have qs : ((x.size : Int) == 4520) = false := by rw [beq_eq_false_iff_ne]; omega
  have qs2 : ((x.size : Int) = 4520) = False := eq_false (by omega)
  have qs3 : (x.size = 4520) = False := eq_false (by omega)
  go_enter Try.func35, Try.ntmps35
  go_wp2_with (fail)
  go_returns
  go_light
  exact ⟨rfl, hB1⟩
set_option maxHeartbeats 1000000 in
set_option maxRecDepth 100000 in
theorem rverify_no (pub msg x : ByteArray) (hs : x.size ≠ 4520) (w : World) :
    Calls Try.prog 36 #[.string pub, .string msg, .string x] w fun e w' => e = .returned (.tuple #[.int .i64 0, .bool false]) ∧ Below w.heap.size w w' := by
  have qs : ((x.size : Int) == 4520) = false := by rw [beq_eq_false_iff_ne]; omega
  have qs2 : ((x.size : Int) = 4520) = False := eq_false (by omega)
  have qs3 : (x.size = 4520) = False := eq_false (by omega)
  go_enter Try.func36, Try.ntmps36
  go_wp2_with (fail)
  go_returns
  go_light
  exact ⟨rfl, Later.refl w⟩
set_option maxHeartbeats 4000000 in
set_option maxRecDepth 100000 in
theorem hverify_calls (pub msg x : ByteArray) (hs : x.size = 4520) (j1 j2 : Nat) (ok1 ok2 : Bool)
    (V1 : ∀ w, Calls Try.prog 76 #[.agg (arr .u32 (K64 ++ H8.L)), .string pub, .string ((⟨#[67]⟩ : ByteArray) ++ x.extract 2244 2276), .string (x.extract 0 2244)] w fun e w' => e = .returned (.tuple #[.int .i64 j1, .bool ok1]) ∧ Below w.heap.size w w')
    (V2 : ∀ w, Calls Try.prog 76 #[.agg (arr .u32 (K64 ++ H8.L)), .string (x.extract 2244 2276), .string msg, .string (x.extract 2276 4520)] w fun e w' => e = .returned (.tuple #[.int .i64 j2, .bool ok2]) ∧ Below w.heap.size w w')
    (h1 : ok1 = true → j1 < 8) (h2 : ok2 = true → j2 < 8) (w : World) :
    Calls Try.prog 35 #[.agg (arr .u32 (K64 ++ H8.L)), .string pub, .string msg, .string x] w fun e w' => e = .returned (.tuple #[.int .i64 (if (ok1 && ok2) = true then ((8 * j1 + j2 : Nat) : Int) else 0), .bool (ok1 && ok2)]) ∧ Below w.heap.size w w' := by
  have hsz : (Try.prog.info? 31).map (·.size) = some (arr .u32 (K64 ++ H8.L)).size := by kernel_rfl
  generalize arr .u32 (K64 ++ H8.L) = tb at *
  have hcz : (x.extract 2244 2276).size = 32 := by rw [ByteArray.size_extract]; omega
  generalize hx1 : x.extract 0 2244 = x1 at *
  generalize hx2 : x.extract 2276 4520 = x2 at *
  generalize hxc : x.extract 2244 2276 = xc at *
  have nolen1 : (9223372036854775807 < 1 + xc.size) = False := eq_false (by omega)
  replace V1 := Lib.hid V1
  replace V2 := Lib.hid V2
  replace hcz := Lib.hid hcz
  have hB : Later w (w.alloc (.cells tb 31)) := (Later.refl w).alloc _
  have hT := Whole.new w 31 tb
  go_enter Try.func35, Try.ntmps35
  go_upto_region 4 with (fail)
  generalize w.alloc (.cells tb 31) = W0 at *
  generalize hG0 : w.heap.size = G0 at *
  refine wp_region_grow 12 46 (by kernel_rfl) (by kernel_rfl) rfl (fun w4 hl4 => ?_)
  simp only [List.take_succ_cons, List.take_zero, List.drop_succ_cons, List.drop_zero]
  generalize ha : Act.mk _ _ = a0
  have k1 : a0.eval (.tmp 1) = .string pub := by subst ha; rfl
  have k3 : a0.eval (.tmp 3) = .string x := by subst ha; rfl
  have k4 : a0.eval (.tmp 4) = .pointer (some ⟨G0, 0, none⟩) := by subst ha; rfl
  have k10 : a0.eval (.tmp 10) = .string xc := by subst ha; rfl
  have ks : a0.tmps.size = 46 := by subst ha; rfl
  have ha0 := ha.symm
  clear ha
  refine wpG_loadW (hl4.whole hT) Try.underlying31 rfl (hsz) (fun a w hk => (hk 4 rfl : a.eval (.tmp 4) = a0.eval (.tmp 4)).trans k4) ?_
  refine wpG_move (fun a w hk => (hk 1 rfl : a.eval (.tmp 1) = a0.eval (.tmp 1)).trans k1) ?_
  refine wpG_move (fun a w hk => (hk 10 rfl : a.eval (.tmp 10) = a0.eval (.tmp 10)).trans k10) ?_
  apply wpG_value'
  · rfl
  · (intro a wx hlx hk K hK; have e22 : a.eval (.tmp 22) = _ := hk 22 rfl; simp only [execOp, e22]; clear e22 hk; go_simp; exact hK)
  refine wpG_move (fun a w hk => (hk 3 rfl : a.eval (.tmp 3) = a0.eval (.tmp 3)).trans k3) ?_
  apply wpG_value'
  · rfl
  · (intro a wx hlx hk K hK; have e24 : a.eval (.tmp 24) = _ := hk 24 rfl; simp only [execOp, resolve, List.map_toArray, List.map_cons, List.map_nil, Option.map_some, Option.map_none, e24]; clear e24 hk; go_simp; exact hK)
  refine wpG_call _ _ Try.func76 (by kernel_rfl) (by kernel_rfl) (fun W _ => V1.out W) (fun a w hk => by have e20 : a.eval (.tmp 20) = _ := hk 20 rfl; have e21 : a.eval (.tmp 21) = _ := hk 21 rfl; have e23 : a.eval (.tmp 23) = _ := hk 23 rfl; have e25 : a.eval (.tmp 25) = _ := hk 25 rfl; simp [e20, e21, e23, e25]) ?_
  refine wpG_move (fun a w hk => hk 26 rfl) ?_
  apply wpG_value'
  · rfl
  · (intro a wx hlx hk K hK; have e19 : a.eval (.tmp 19) = _ := hk 19 rfl; simp only [execOp, e19]; clear e19 hk; go_simp; exact hK)
  apply wpG_value'
  · rfl
  · (intro a wx hlx hk K hK; have e19 : a.eval (.tmp 19) = _ := hk 19 rfl; simp only [execOp, e19]; clear e19 hk; go_simp; exact hK)
  refine wpG_assign (fun a w hk => hk 27 rfl) ?_
  refine wpG_assign (fun a w hk => hk 28 rfl) ?_
  refine wpG_nil (fun w4' hl4' => ?_)
  refine fin_is ?_
  refine fin_is ?_
  refine fin_is ?_
  refine fin_is ?_
  refine fin_is ?_
  refine fin_is ?_
  refine fin_is ?_
  refine fin_is ?_
  refine fin_is ?_
  refine fin_is ?_
  refine fin_is ?_
  refine fin_is ?_
  refine fin_nil ?_
  subst ha0
  clear k4 k1 k10 k3 ks
  simp only [Act.put, List.setIfInBounds_toArray, List.set_cons_succ, List.set_cons_zero]
  replace hB := hB.trans (hl4.trans hl4')
  replace hT := Later.whole (hl4.trans hl4') hT
  clear hl4 hl4' V1
  cases ok1 with
  | false =>
    go_wp2_with (fail)
    go_returns
    go_light
    exact ⟨by first | rfl | simp, by first | exact hB | (rw [← hG0]; exact hB)⟩
  | true =>
    have h1' := h1 rfl
    go_upto_region 7 with (fail)
    refine wp_region_grow 11 46 (by kernel_rfl) (by kernel_rfl) rfl (fun w7 hl7 => ?_)
    simp only [List.take_succ_cons, List.take_zero, List.drop_succ_cons, List.drop_zero]
    generalize ha : Act.mk _ _ = a0
    have k2 : a0.eval (.tmp 2) = .string msg := by subst ha; rfl
    have k3 : a0.eval (.tmp 3) = .string x := by subst ha; rfl
    have k4 : a0.eval (.tmp 4) = .pointer (some ⟨G0, 0, none⟩) := by subst ha; rfl
    have k10 : a0.eval (.tmp 10) = .string xc := by subst ha; rfl
    have ks : a0.tmps.size = 46 := by subst ha; rfl
    have ha0 := ha.symm
    clear ha
    refine wpG_loadW (hl7.whole hT) Try.underlying31 rfl (hsz) (fun a w hk => (hk 4 rfl : a.eval (.tmp 4) = a0.eval (.tmp 4)).trans k4) ?_
    refine wpG_move (fun a w hk => (hk 10 rfl : a.eval (.tmp 10) = a0.eval (.tmp 10)).trans k10) ?_
    refine wpG_move (fun a w hk => (hk 2 rfl : a.eval (.tmp 2) = a0.eval (.tmp 2)).trans k2) ?_
    refine wpG_move (fun a w hk => (hk 3 rfl : a.eval (.tmp 3) = a0.eval (.tmp 3)).trans k3) ?_
    apply wpG_value'
    · rfl
    · (intro a wx hlx hk K hK; have e35 : a.eval (.tmp 35) = _ := hk 35 rfl; simp only [execOp, resolve, List.map_toArray, List.map_cons, List.map_nil, Option.map_some, Option.map_none, e35]; clear e35 hk; go_simp; exact hK)
    refine wpG_call _ _ Try.func76 (by kernel_rfl) (by kernel_rfl) (fun W _ => V2.out W) (fun a w hk => by have e32 : a.eval (.tmp 32) = _ := hk 32 rfl; have e33 : a.eval (.tmp 33) = _ := hk 33 rfl; have e34 : a.eval (.tmp 34) = _ := hk 34 rfl; have e36 : a.eval (.tmp 36) = _ := hk 36 rfl; simp [e32, e33, e34, e36]) ?_
    refine wpG_move (fun a w hk => hk 37 rfl) ?_
    apply wpG_value'
    · rfl
    · (intro a wx hlx hk K hK; have e31 : a.eval (.tmp 31) = _ := hk 31 rfl; simp only [execOp, e31]; clear e31 hk; go_simp; exact hK)
    apply wpG_value'
    · rfl
    · (intro a wx hlx hk K hK; have e31 : a.eval (.tmp 31) = _ := hk 31 rfl; simp only [execOp, e31]; clear e31 hk; go_simp; exact hK)
    refine wpG_assign (fun a w hk => hk 38 rfl) ?_
    refine wpG_assign (fun a w hk => hk 39 rfl) ?_
    refine wpG_nil (fun w7' hl7' => ?_)
    refine fin_is ?_
    refine fin_is ?_
    refine fin_is ?_
    refine fin_is ?_
    refine fin_is ?_
    refine fin_is ?_
    refine fin_is ?_
    refine fin_is ?_
    refine fin_is ?_
    refine fin_is ?_
    refine fin_is ?_
    refine fin_nil ?_
    subst ha0
    clear k4 k2 k10 k3 ks
    simp only [Act.put, List.setIfInBounds_toArray, List.set_cons_succ, List.set_cons_zero]
    replace hB := hB.trans (hl7.trans hl7')
    clear hl7 hl7' V2 hT
    cases ok2 with
    | false =>
      go_wp2_with (fail)
      go_returns
      go_light
      exact ⟨by first | rfl | simp, by first | exact hB | (rw [← hG0]; exact hB)⟩
    | true =>
      have h2' := h2 rfl
      have y1 : IntKind.i64.wrap (j1 * 8 : Int) = ((8 * j1 : Nat) : Int) := by simp [IntKind.wrap, IntKind.signed, IntKind.bits]; omega
      have y2 : IntKind.i64.wrap (((8 * j1 : Nat) : Int) + j2) = ((8 * j1 + j2 : Nat) : Int) := by simp [IntKind.wrap, IntKind.signed, IntKind.bits]; omega
      clear h1 h2
      go_wp2_with (fail)
      go_returns
      go_light
      exact ⟨by first | rfl | simp | (simp; omega), by first | exact hB | (rw [← hG0]; exact hB)⟩
set_option maxHeartbeats 4000000 in
set_option maxRecDepth 100000 in
theorem rverify_calls (pub msg x : ByteArray) (hs : x.size = 4520) (j1 j2 : Nat) (ok1 ok2 : Bool)
    (R1 : ∀ w, Calls Try.prog 77 #[.string pub, .string ((⟨#[67]⟩ : ByteArray) ++ x.extract 2244 2276), .string (x.extract 0 2244)] w fun e w' => e = .returned (.bool ok1) ∧ Below w.heap.size w w')
    (R2 : ∀ w, Calls Try.prog 77 #[.string (x.extract 2244 2276), .string msg, .string (x.extract 2276 4520)] w fun e w' => e = .returned (.bool ok2) ∧ Below w.heap.size w w')
    (h1 : ok1 = true → (bytesN (x.extract 0 2244)).getD 3 0 = j1 ∧ j1 < 8) (h2 : ok2 = true → (bytesN (x.extract 2276 4520)).getD 3 0 = j2 ∧ j2 < 8) (w : World) :
    Calls Try.prog 36 #[.string pub, .string msg, .string x] w fun e w' => e = .returned (.tuple #[.int .i64 (if (ok1 && ok2) = true then ((8 * j1 + j2 : Nat) : Int) else 0), .bool (ok1 && ok2)]) ∧ Below w.heap.size w w' := by
  have hcz : (x.extract 2244 2276).size = 32 := by rw [ByteArray.size_extract]; omega
  have b3 : x[3].toNat = (bytesN (x.extract 0 2244)).getD 3 0 := by rw [byte_at x 3 (by omega), bytesN_ext _ _ _ _ (by decide)]
  have b9 : x[2279].toNat = (bytesN (x.extract 2276 4520)).getD 3 0 := by rw [byte_at x 2279 (by omega), bytesN_ext _ _ _ _ (by decide)]
  generalize hx1 : x.extract 0 2244 = x1 at *
  generalize hx2 : x.extract 2276 4520 = x2 at *
  generalize hxc : x.extract 2244 2276 = xc at *
  have nolen1 : (9223372036854775807 < 1 + xc.size) = False := eq_false (by omega)
  replace R1 := Lib.hid R1
  replace R2 := Lib.hid R2
  replace hcz := Lib.hid hcz
  have hB : Later w w := Later.refl w
  cases ok1 with
  | false =>
    clear b3 b9
    go_enter Try.func36, Try.ntmps36
    go_wp2_with ((with_reducible refine (R1.out _).mono ?_); rintro e w2 ⟨rfl, hb2⟩; replace hB := Later.trans hB hb2)
    go_returns
    go_light
    exact ⟨by first | rfl | simp, hB⟩
  | true =>
    obtain ⟨g1, h1'⟩ := h1 rfl
    rw [g1] at b3
    cases ok2 with
    | false =>
      clear b3 b9 g1 h1
      go_enter Try.func36, Try.ntmps36
      go_wp2_with (first | ((with_reducible refine (R1.out _).mono ?_); rintro e w2 ⟨rfl, hb2⟩; replace hB := Later.trans hB hb2) | ((with_reducible refine (R2.out _).mono ?_); rintro e w3 ⟨rfl, hb3⟩; replace hB := Later.trans hB hb3))
      go_returns
      go_light
      exact ⟨by first | rfl | simp, hB⟩
    | true =>
      obtain ⟨g2, h2'⟩ := h2 rfl
      rw [g2] at b9
      have y1 : IntKind.i64.wrap (8 * j1 : Int) = ((8 * j1 : Nat) : Int) := by simp [IntKind.wrap, IntKind.signed, IntKind.bits]; omega
      have y2 : IntKind.i64.wrap (((8 * j1 : Nat) : Int) + j2) = ((8 * j1 + j2 : Nat) : Int) := by simp [IntKind.wrap, IntKind.signed, IntKind.bits]; omega
      have y3 : IntKind.i64.wrap (j1 : Int) = (j1 : Int) := by simp [IntKind.wrap, IntKind.signed, IntKind.bits]; omega
      have y4 : IntKind.i64.wrap (j2 : Int) = (j2 : Int) := by simp [IntKind.wrap, IntKind.signed, IntKind.bits]; omega
      clear h1 h2 g1 g2
      go_enter Try.func36, Try.ntmps36
      go_wp2_with (first | ((with_reducible refine (R1.out _).mono ?_); rintro e w2 ⟨rfl, hb2⟩; replace hB := Later.trans hB hb2) | ((with_reducible refine (R2.out _).mono ?_); rintro e w3 ⟨rfl, hb3⟩; replace hB := Later.trans hB hb3))
      refine wp_region_grow 10 37 (by kernel_rfl) (by kernel_rfl) rfl (fun w6 hl6 => ?_)
      simp only [List.take_succ_cons, List.take_zero, List.drop_succ_cons, List.drop_zero]
      generalize ha : Act.mk _ _ = a0
      have k2 : a0.eval (.tmp 2) = .string x := by subst ha; rfl
      have ks : a0.tmps.size = 37 := by subst ha; rfl
      have ha0 := ha.symm
      clear ha
      refine wpG_move (fun a w hk => (hk 2 rfl : a.eval (.tmp 2) = a0.eval (.tmp 2)).trans k2) ?_
      apply wpG_value'
      · rfl
      · (intro a wx hlx hk K hK; have e29 : a.eval (.tmp 29) = _ := hk 29 rfl; simp only [execOp, e29]; clear e29 hk; go_simp; exact hK)
      apply wpG_value'
      · rfl
      · (intro a wx hlx hk K hK; have e30 : a.eval (.tmp 30) = _ := hk 30 rfl; simp only [execOp, e30]; clear e30 hk; go_simp; exact hK)
      apply wpG_value'
      · rfl
      · (intro a wx hlx hk K hK; have e31 : a.eval (.tmp 31) = _ := hk 31 rfl; simp only [execOp, e31]; clear e31 hk; go_simp; exact hK)
      refine wpG_move (fun a w hk => (hk 2 rfl : a.eval (.tmp 2) = a0.eval (.tmp 2)).trans k2) ?_
      apply wpG_value'
      · rfl
      · (intro a wx hlx hk K hK; have e33 : a.eval (.tmp 33) = _ := hk 33 rfl; simp only [execOp, e33]; clear e33 hk; go_simp; exact hK)
      apply wpG_value'
      · rfl
      · (intro a wx hlx hk K hK; have e34 : a.eval (.tmp 34) = _ := hk 34 rfl; simp only [execOp, e34]; clear e34 hk; go_simp; exact hK)
      apply wpG_value'
      · rfl
      · (intro a wx hlx hk K hK; have e32 : a.eval (.tmp 32) = _ := hk 32 rfl; have e35 : a.eval (.tmp 35) = _ := hk 35 rfl; simp only [execOp, e32, e35]; clear e32 e35 hk; go_simp; exact hK)
      refine wpG_assign (fun a w hk => hk 36 rfl) ?_
      refine wpG_assign (fun a w hk => rfl) ?_
      refine wpG_nil (fun w6' hl6' => ?_)
      refine fin_is ?_
      refine fin_is ?_
      refine fin_is ?_
      refine fin_is ?_
      refine fin_is ?_
      refine fin_is ?_
      refine fin_is ?_
      refine fin_is ?_
      refine fin_is ?_
      refine fin_is ?_
      refine fin_nil ?_
      subst ha0
      clear k2 ks
      simp only [Act.put, List.setIfInBounds_toArray, List.set_cons_succ, List.set_cons_zero]
      replace hB := hB.trans (hl6.trans hl6')
      go_wp2_with (fail)
      go_returns
      go_light
      exact ⟨by first | rfl | (simp; done) | (simp [IntKind.wrap, IntKind.signed, IntKind.bits]; omega), hB⟩
end Go.Proofs.Yteipcmbbonfklaa
