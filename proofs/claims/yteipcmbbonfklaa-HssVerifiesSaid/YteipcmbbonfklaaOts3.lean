/- Chains, leaves and pairs: the program's. Conditions: numbers below 2^31, texts of at most 2^30 bytes. -/
import Derived.Test.YteipcmbbonfklaaOts2
namespace Go.Proofs.Yteipcmbbonfklaa
open Go.RowKit
set_option linter.unusedVariables false
set_option linter.unusedSimpArgs false
theorem shaN_size (s : ByteArray) : (shaN s).size = 32 := by simp only [shaN, outB_size, flat_size]; rfl
set_option maxHeartbeats 2000000 in
set_option maxRecDepth 100000 in
theorem begin_calls (seed : ByteArray) (hs : seed.size ≤ 1073741824) (q i : Nat) (w : World) :
    Calls Try.prog 115 #[.agg (arr .u32 (K64 ++ H8.L)), .string seed, .int .i64 q, .int .i64 i] w fun e w' => e = .returned (.string (begN seed q i)) ∧ Below w.heap.size w w' := by
  have hsz : (Try.prog.info? 31).map (·.size) = some (arr .u32 (K64 ++ H8.L)).size := by kernel_rfl
  have NQ := fun w => wnum_calls (q : Int) w
  have NI := fun w => wnum_calls (i : Int) w
  have TC := fun w => wtext_calls seed w (by omega)
  have n4 := numW_size (q : Int)
  have n5 := numW_size (i : Int)
  have tz := textW_size seed
  have z1 : ((⟨#[107]⟩ : ByteArray) ++ textW seed).size = 1 + (textW seed).size := ByteArray.size_append
  have z2 : (((⟨#[107]⟩ : ByteArray) ++ textW seed) ++ numW q).size = 1 + (textW seed).size + (numW q).size := by rw [ByteArray.size_append, z1]
  have z3 : ((((⟨#[107]⟩ : ByteArray) ++ textW seed) ++ numW q) ++ numW i).size = 1 + (textW seed).size + (numW q).size + (numW i).size := by rw [ByteArray.size_append, z2]
  have SC := fun w => shaSum_calls ((((⟨#[107]⟩ : ByteArray) ++ textW seed) ++ numW q) ++ numW i) (by omega) w
  have nolen1 : (9223372036854775807 < 1 + (textW seed).size) = False := eq_false (by omega)
  have nolen2 : (9223372036854775807 < 1 + (textW seed).size + (numW q).size) = False := eq_false (by omega)
  have nolen3 : (9223372036854775807 < 1 + (textW seed).size + (numW q).size + (numW i).size) = False := eq_false (by omega)
  have eS : shaN ((((⟨#[107]⟩ : ByteArray) ++ textW seed) ++ numW q) ++ numW i) = begN seed q i := rfl
  rw [eS] at SC
  generalize begN seed q i = S at *
  generalize numW (q : Int) = nq at *
  generalize numW (i : Int) = ni at *
  generalize textW seed = tq at *
  clear eS z1 z2 z3 n4 n5 tz
  generalize arr .u32 (K64 ++ H8.L) = tb at *
  have h1 := Whole.new w 31 tb
  have hB1 : Below w.heap.size w (w.alloc (.cells tb 31)) := by go_grown
  replace NQ := Lib.hid NQ
  replace NI := Lib.hid NI
  replace TC := Lib.hid TC
  replace SC := Lib.hid SC
  go_enter Try.func115, Try.ntmps115
  go_upto_region 1 with (fail)
  generalize hG : w.heap.size = G at *
  generalize w.alloc (.cells tb 31) = W1 at *
  refine wp_region_grow 12 20 (by kernel_rfl) (by kernel_rfl) rfl (fun w4 hl4 => ?_)
  simp only [List.take_succ_cons, List.take_zero, List.drop_succ_cons, List.drop_zero]
  generalize ha : Act.mk _ _ = a0
  have k1 : a0.eval (.tmp 1) = .string seed := by subst ha; rfl
  have k2 : a0.eval (.tmp 2) = .int .i64 q := by subst ha; rfl
  have k3 : a0.eval (.tmp 3) = .int .i64 i := by subst ha; rfl
  have k4 : a0.eval (.tmp 4) = .pointer (some ⟨G, 0, none⟩) := by subst ha; rfl
  have ks : a0.tmps.size = 20 := by subst ha; rfl
  have ha0 := ha.symm
  clear ha
  refine wpG_loadW (hl4.whole h1) Try.underlying31 rfl (hsz) (fun a w hk => (hk 4 rfl : a.eval (.tmp 4) = a0.eval (.tmp 4)).trans k4) ?_
  refine wpG_move (fun a w hk => (hk 1 rfl : a.eval (.tmp 1) = a0.eval (.tmp 1)).trans k1) ?_
  refine wpG_call _ _ Try.func78 (by kernel_rfl) (by kernel_rfl) (fun W _ => TC.out W) (fun a w hk => by have e10 : a.eval (.tmp 10) = _ := hk 10 rfl; simp [e10]) ?_
  apply wpG_value'
  · rfl
  · (intro a wx hlx hk K hK; have e11 : a.eval (.tmp 11) = _ := hk 11 rfl; simp only [execOp, e11]; clear e11 hk; go_simp; exact hK)
  refine wpG_move (fun a w hk => (hk 2 rfl : a.eval (.tmp 2) = a0.eval (.tmp 2)).trans k2) ?_
  refine wpG_call _ _ Try.func79 (by kernel_rfl) (by kernel_rfl) (fun W _ => NQ.out W) (fun a w hk => by have e13 : a.eval (.tmp 13) = _ := hk 13 rfl; simp [e13]) ?_
  apply wpG_value'
  · rfl
  · (intro a wx hlx hk K hK; have e12 : a.eval (.tmp 12) = _ := hk 12 rfl; have e14 : a.eval (.tmp 14) = _ := hk 14 rfl; simp only [execOp, e12, e14]; clear e12 e14 hk; go_simp; exact hK)
  refine wpG_move (fun a w hk => (hk 3 rfl : a.eval (.tmp 3) = a0.eval (.tmp 3)).trans k3) ?_
  refine wpG_call _ _ Try.func79 (by kernel_rfl) (by kernel_rfl) (fun W _ => NI.out W) (fun a w hk => by have e16 : a.eval (.tmp 16) = _ := hk 16 rfl; simp [e16]) ?_
  apply wpG_value'
  · rfl
  · (intro a wx hlx hk K hK; have e15 : a.eval (.tmp 15) = _ := hk 15 rfl; have e17 : a.eval (.tmp 17) = _ := hk 17 rfl; simp only [execOp, e15, e17]; clear e15 e17 hk; go_simp; exact hK)
  refine wpG_call _ _ Try.func31 (by kernel_rfl) (by kernel_rfl) (fun W _ => SC.out W) (fun a w hk => by have e9 : a.eval (.tmp 9) = _ := hk 9 rfl; have e18 : a.eval (.tmp 18) = _ := hk 18 rfl; simp [e9, e18]) ?_
  refine wpG_assign (fun a w hk => hk 19 rfl) ?_
  refine wpG_nil (fun w4' hl4' => ?_)
  refine fin_is ?_
  refine fin_is ?_
  refine fin_is ?_
  refine fin_is ?_
  refine fin_is ?_
  refine fin_is ?_
  refine fin_is ?_
  refine fin_is ?_
  refine fin_is ?_
  refine fin_is ?_
  refine fin_is ?_
  refine fin_is ?_
  refine fin_nil ?_
  subst ha0
  clear k4 k1 k2 k3 ks
  simp only [Act.put, List.setIfInBounds_toArray, List.set_cons_succ, List.set_cons_zero]
  go_wp2_with (fail)
  go_returns
  go_light
  subst hG
  exact ⟨rfl, below_next' hB1 (hl4.trans hl4')⟩
set_option maxHeartbeats 2000000 in
set_option maxRecDepth 100000 in
theorem leafO_calls (q : Nat) (ends : ByteArray) (he : ends.size ≤ 1073741824) (w : World) :
    Calls Try.prog 118 #[.agg (arr .u32 (K64 ++ H8.L)), .int .i64 q, .string ends] w fun e w' => e = .returned (.string (leafO q ends)) ∧ Below w.heap.size w w' := by
  have hsz : (Try.prog.info? 31).map (·.size) = some (arr .u32 (K64 ++ H8.L)).size := by kernel_rfl
  have NQ := fun w => wnum_calls (q : Int) w
  have n4 := numW_size (q : Int)
  have z1 : ((⟨#[112]⟩ : ByteArray) ++ numW q).size = 1 + (numW q).size := ByteArray.size_append
  have z2 : (((⟨#[112]⟩ : ByteArray) ++ numW q) ++ ends).size = 1 + (numW q).size + ends.size := by rw [ByteArray.size_append, z1]
  have SC := fun w => shaSum_calls (((⟨#[112]⟩ : ByteArray) ++ numW q) ++ ends) (by omega) w
  have nolen1 : (9223372036854775807 < 1 + (numW q).size) = False := eq_false (by omega)
  have nolen2 : (9223372036854775807 < 1 + (numW q).size + ends.size) = False := eq_false (by omega)
  have eS : shaN (((⟨#[112]⟩ : ByteArray) ++ numW q) ++ ends) = leafO q ends := rfl
  rw [eS] at SC
  generalize leafO q ends = S at *
  generalize numW (q : Int) = nq at *
  clear eS z1 z2 n4
  generalize arr .u32 (K64 ++ H8.L) = tb at *
  have h1 := Whole.new w 31 tb
  have hB1 : Below w.heap.size w (w.alloc (.cells tb 31)) := by go_grown
  replace NQ := Lib.hid NQ
  replace SC := Lib.hid SC
  go_enter Try.func118, Try.ntmps118
  go_upto_region 1 with (fail)
  generalize hG : w.heap.size = G at *
  generalize w.alloc (.cells tb 31) = W1 at *
  refine wp_region_grow 8 14 (by kernel_rfl) (by kernel_rfl) rfl (fun w4 hl4 => ?_)
  simp only [List.take_succ_cons, List.take_zero, List.drop_succ_cons, List.drop_zero]
  generalize ha : Act.mk _ _ = a0
  have k1 : a0.eval (.tmp 1) = .int .i64 q := by subst ha; rfl
  have k2 : a0.eval (.tmp 2) = .string ends := by subst ha; rfl
  have k3 : a0.eval (.tmp 3) = .pointer (some ⟨G, 0, none⟩) := by subst ha; rfl
  have ks : a0.tmps.size = 14 := by subst ha; rfl
  have ha0 := ha.symm
  clear ha
  refine wpG_loadW (hl4.whole h1) Try.underlying31 rfl (hsz) (fun a w hk => (hk 3 rfl : a.eval (.tmp 3) = a0.eval (.tmp 3)).trans k3) ?_
  refine wpG_move (fun a w hk => (hk 1 rfl : a.eval (.tmp 1) = a0.eval (.tmp 1)).trans k1) ?_
  refine wpG_call _ _ Try.func79 (by kernel_rfl) (by kernel_rfl) (fun W _ => NQ.out W) (fun a w hk => by have e8 : a.eval (.tmp 8) = _ := hk 8 rfl; simp [e8]) ?_
  apply wpG_value'
  · rfl
  · (intro a wx hlx hk K hK; have e9 : a.eval (.tmp 9) = _ := hk 9 rfl; simp only [execOp, e9]; clear e9 hk; go_simp; exact hK)
  refine wpG_move (fun a w hk => (hk 2 rfl : a.eval (.tmp 2) = a0.eval (.tmp 2)).trans k2) ?_
  apply wpG_value'
  · rfl
  · (intro a wx hlx hk K hK; have e10 : a.eval (.tmp 10) = _ := hk 10 rfl; have e11 : a.eval (.tmp 11) = _ := hk 11 rfl; simp only [execOp, e10, e11]; clear e10 e11 hk; go_simp; exact hK)
  refine wpG_call _ _ Try.func31 (by kernel_rfl) (by kernel_rfl) (fun W _ => SC.out W) (fun a w hk => by have e7 : a.eval (.tmp 7) = _ := hk 7 rfl; have e12 : a.eval (.tmp 12) = _ := hk 12 rfl; simp [e7, e12]) ?_
  refine wpG_assign (fun a w hk => hk 13 rfl) ?_
  refine wpG_nil (fun w4' hl4' => ?_)
  refine fin_is ?_
  refine fin_is ?_
  refine fin_is ?_
  refine fin_is ?_
  refine fin_is ?_
  refine fin_is ?_
  refine fin_is ?_
  refine fin_is ?_
  refine fin_nil ?_
  subst ha0
  clear k3 k1 k2 ks
  simp only [Act.put, List.setIfInBounds_toArray, List.set_cons_succ, List.set_cons_zero]
  go_wp2_with (fail)
  go_returns
  go_light
  subst hG
  exact ⟨rfl, below_next' hB1 (hl4.trans hl4')⟩
set_option maxHeartbeats 1000000 in
set_option maxRecDepth 100000 in
theorem pairO_calls (a b : ByteArray) (ha : a.size ≤ 1073741824) (hb : b.size ≤ 1073741824) (w : World) :
    Calls Try.prog 119 #[.agg (arr .u32 (K64 ++ H8.L)), .string a, .string b] w fun e w' => e = .returned (.string (pairO a b)) ∧ Below w.heap.size w w' := by
  have hs1 : ((⟨#[116]⟩ : ByteArray) ++ a).size = 1 + a.size := ByteArray.size_append
  have hs : (((⟨#[116]⟩ : ByteArray) ++ a) ++ b).size = 1 + a.size + b.size := by rw [ByteArray.size_append, hs1]
  have SS := fun w => shaSum_calls (((⟨#[116]⟩ : ByteArray) ++ a) ++ b) (by omega) w
  have nolen : (9223372036854775807 < 1 + a.size) = False := eq_false (by omega)
  have nolen2 : (9223372036854775807 < 1 + a.size + b.size) = False := eq_false (by omega)
  have hsz : (Try.prog.info? 31).map (·.size) = some (arr .u32 (K64 ++ H8.L)).size := by kernel_rfl
  unfold pairO
  generalize shaN (((⟨#[116]⟩ : ByteArray) ++ a) ++ b) = H at *
  generalize arr .u32 (K64 ++ H8.L) = tb at *
  have h1 := Whole.new w 31 tb
  have hB1 : Below w.heap.size w (w.alloc (.cells tb 31)) := by go_grown
  replace SS := Lib.hid SS
  clear hs
  go_enter Try.func119, Try.ntmps119
  go_wp2_with (first | ((with_reducible apply wl_loadW (ty := 31) h1 Try.underlying31); rfl; rfl; rfl; exact hsz) | ((with_reducible refine (SS.out _).mono ?_); rintro e w2 ⟨rfl, hb2⟩; replace hB1 := below_next' hB1 hb2))
  go_returns
  go_light
  exact ⟨rfl, hB1⟩
theorem wkN_size (q i a : Nat) (x : ByteArray) : ∀ k, 1 ≤ k → (wkN q i a x k).size = 32
  | k + 1, _ => by unfold wkN linkN; exact shaN_size _
theorem wkN_le (q i a : Nat) (x : ByteArray) (hx : x.size ≤ 1000) (k : Nat) : (wkN q i a x k).size ≤ 1000 := by
  cases k with
  | zero => exact hx
  | succ k => rw [wkN_size q i a x (k + 1) (by omega)]; decide
set_option maxHeartbeats 4000000 in
set_option maxRecDepth 100000 in
theorem walk_calls (q i a b : Nat) (hab : a ≤ b) (hb : b ≤ 1000) (x : ByteArray) (hx : x.size ≤ 1000) (w : World) :
    Calls Try.prog 114 #[.agg (arr .u32 (K64 ++ H8.L)), .int .i64 q, .int .i64 i, .string x, .int .i64 a, .int .i64 b] w fun e w' => e = .returned (.string (wkN q i a x (b - a))) ∧ Below w.heap.size w w' := by
  have hsz : (Try.prog.info? 31).map (·.size) = some (arr .u32 (K64 ++ H8.L)).size := by kernel_rfl
  have NQ := fun w => wnum_calls (q : Int) w
  have NI := fun w => wnum_calls (i : Int) w
  have NJ := fun (j : Nat) w => wnum_calls (j : Int) w
  have n4 := numW_size (q : Int)
  have n5 := numW_size (i : Int)
  have n6 := fun (j : Nat) => numW_size (j : Int)
  have z1 : ((⟨#[99]⟩ : ByteArray) ++ numW q).size = 1 + (numW q).size := ByteArray.size_append
  have z2 : (((⟨#[99]⟩ : ByteArray) ++ numW q) ++ numW i).size = 1 + (numW q).size + (numW i).size := by rw [ByteArray.size_append, z1]
  have nolen1 : (9223372036854775807 < 1 + (numW q).size) = False := eq_false (by omega)
  have nolen2 : (9223372036854775807 < 1 + (numW q).size + (numW i).size) = False := eq_false (by omega)
  have SC : ∀ (j : Nat) (y : ByteArray), y.size ≤ 1000 → ∀ w, Calls Try.prog 31 #[.agg (arr .u32 (K64 ++ H8.L)), .string (((((⟨#[99]⟩ : ByteArray) ++ numW q) ++ numW i) ++ numW j) ++ y)] w fun e w' => e = .returned (.string (linkN q i j y)) ∧ Below w.heap.size w w' := by
    intro j y hy w
    refine shaSum_calls (((((⟨#[99]⟩ : ByteArray) ++ numW q) ++ numW i) ++ numW j) ++ y) ?_ w
    rw [ByteArray.size_append, ByteArray.size_append, z2, n4, n5, n6 j]
    omega
  have hw0 : wkN q i a x 0 = x := rfl
  have hws : ∀ k, wkN q i a x (k + 1) = linkN q i (a + k) (wkN q i a x k) := fun _ => rfl
  have hwl := fun k => wkN_le q i a x hx k
  have hhz : (((⟨#[99]⟩ : ByteArray) ++ numW q) ++ numW i).size = 9 := by rw [z2, n4, n5]
  generalize wkN q i a x = F at *
  generalize linkN q i = LK at *
  generalize hhead : ((⟨#[99]⟩ : ByteArray) ++ numW q) ++ numW i = hd at *
  have hhead2 := hhead
  generalize numW (q : Int) = nq at *
  generalize numW (i : Int) = ni at *
  clear z1 z2 n4 n5
  generalize arr .u32 (K64 ++ H8.L) = tb at *
  have h1 := Whole.new w 31 tb
  have hB1 : Below w.heap.size w (w.alloc (.cells tb 31)) := by go_grown
  replace NQ := Lib.hid NQ
  replace NI := Lib.hid NI
  replace NJ := Lib.hid NJ
  replace SC := Lib.hid SC
  replace hws := Lib.hid hws
  replace hwl := Lib.hid hwl
  replace n6 := Lib.hid n6
  replace hw0 := Lib.hid hw0
  clear hhead2
  go_enter Try.func114, Try.ntmps114
  go_upto_region 1 with (fail)
  generalize hG : w.heap.size = G at *
  generalize w.alloc (.cells tb 31) = W1 at *
  go_wp2_with (first | ((with_reducible refine (NQ.out _).mono ?_); rintro e w2 ⟨rfl, hb2⟩) | ((with_reducible refine (NI.out _).mono ?_); rintro e w3 ⟨rfl, hb3⟩))
  have hl := Later.trans hb2 hb3
  replace h1 := Later.whole hl h1
  replace hB1 := Below.trans hB1 (Below.mono hl (by have := hB1.size; omega))
  clear hl hb2 hb3
  have hl0 : Later w3 w3 := Later.refl w3
  go_loopg [3, 14] (b - a + 1) (fun kg x j wr => ∃ k : Nat, j = .int .i64 ((a + k : Nat) : Int) ∧ k ≤ b - a ∧ kg = b - a + 1 - k ∧ x = .string (F k) ∧ Later w3 wr)
  case atStart => exact ⟨0, rfl, by omega, rfl, by rw [hw0.out], hl0⟩
  case round =>
    clear hl0
    obtain ⟨k, rfl, hk, hkg, rfl, hl⟩ := hrel
    replace hkg := Lib.hid hkg
    by_cases hlt : k < b - a
    · have qlt : (((a + k : Nat) : Int) < (b : Int)) = True := eq_true (by omega)
      have NK := fun w => NJ.out (a + k) w
      have hyl := hwl.out k
      have SK := fun w => SC.out (a + k) (F k) hyl w
      rw [← hws.out k] at SK
      have n7 := n6.out (a + k)
      have wj : IntKind.i64.wrap (((a + k : Nat) : Int) + 1) = ((a + k + 1 : Nat) : Int) := by simp [IntKind.wrap, IntKind.signed, IntKind.bits]; omega
      generalize hY : F (k + 1) = Y at *
      generalize F k = X at *
      generalize hj : a + k = j at *
      replace hY := Lib.hid hY
      replace hj := Lib.hid hj
      generalize numW (j : Int) = nj at *
      have nolen3 : (9223372036854775807 < 9 + nj.size) = False := eq_false (by omega)
      have nolen4 : (9223372036854775807 < 13 + X.size) = False := eq_false (by omega)
      replace NK := Lib.hid NK
      replace SK := Lib.hid SK
      go_upto_region 5 with (fail)
      refine wp_region_grow 9 36 (by kernel_rfl) (by kernel_rfl) rfl (fun w5 hl5 => ?_)
      simp only [List.take_succ_cons, List.take_zero, List.drop_succ_cons, List.drop_zero]
      generalize ha : Act.mk _ _ = a0
      have k3 : a0.eval (.tmp 3) = .string X := by subst ha; rfl
      have k6 : a0.eval (.tmp 6) = .pointer (some ⟨G, 0, none⟩) := by subst ha; rfl
      have k13 : a0.eval (.tmp 13) = .string hd := by subst ha; rfl
      have k14 : a0.eval (.tmp 14) = .int .i64 j := by subst ha; rfl
      have ks : a0.tmps.size = 36 := by subst ha; rfl
      have ha0 := ha.symm
      clear ha
      refine wpG_loadW ((hl.trans hl5).whole h1) Try.underlying31 rfl (hsz) (fun a w hk => (hk 6 rfl : a.eval (.tmp 6) = a0.eval (.tmp 6)).trans k6) ?_
      refine wpG_move (fun a w hk => (hk 13 rfl : a.eval (.tmp 13) = a0.eval (.tmp 13)).trans k13) ?_
      refine wpG_move (fun a w hk => (hk 14 rfl : a.eval (.tmp 14) = a0.eval (.tmp 14)).trans k14) ?_
      refine wpG_call _ _ Try.func79 (by kernel_rfl) (by kernel_rfl) (fun W _ => NK.out W) (fun a w hk => by have e29 : a.eval (.tmp 29) = _ := hk 29 rfl; simp [e29]) ?_
      apply wpG_value'
      · rfl
      · (intro a wx hlx hk K hK; have e28 : a.eval (.tmp 28) = _ := hk 28 rfl; have e30 : a.eval (.tmp 30) = _ := hk 30 rfl; simp only [execOp, e28, e30]; clear e28 e30 hk; go_simp; exact hK)
      refine wpG_move (fun a w hk => (hk 3 rfl : a.eval (.tmp 3) = a0.eval (.tmp 3)).trans k3) ?_
      apply wpG_value'
      · rfl
      · (intro a wx hlx hk K hK; have e31 : a.eval (.tmp 31) = _ := hk 31 rfl; have e32 : a.eval (.tmp 32) = _ := hk 32 rfl; simp only [execOp, e31, e32]; clear e31 e32 hk; go_simp; exact hK)
      refine wpG_call _ _ Try.func31 (by kernel_rfl) (by kernel_rfl) (fun W _ => SK.out W) (fun a w hk => by have e27 : a.eval (.tmp 27) = _ := hk 27 rfl; have e33 : a.eval (.tmp 33) = _ := hk 33 rfl; simp [e27, e33]) ?_
      refine wpG_assign (fun a w hk => hk 34 rfl) ?_
      refine wpG_nil (fun w5' hl5' => ?_)
      refine fin_is ?_
      refine fin_is ?_
      refine fin_is ?_
      refine fin_is ?_
      refine fin_is ?_
      refine fin_is ?_
      refine fin_is ?_
      refine fin_is ?_
      refine fin_is ?_
      refine fin_nil ?_
      subst ha0
      clear k6 k13 k14 k3 ks
      simp only [Act.put, List.setIfInBounds_toArray, List.set_cons_succ, List.set_cons_zero]
      have hln := hl.trans (hl5.trans hl5')
      clear hl hl5 hl5' NK SK
      go_wp2_with (fail)
      go_roundg (b - a - k)
      case measure => go_light; rw [hkg.out]; omega
      case rel => go_light; exact ⟨k + 1, by have := hj.out; go_num, by omega, by omega, by rw [hY.out], hln⟩
    · obtain rfl : k = b - a := by omega
      have qlt : (((a + (b - a) : Nat) : Int) < (b : Int)) = False := eq_false (by omega)
      go_wp2_with (fail)
      go_returns
      go_light
      exact ⟨rfl, hG ▸ below_next' (hG ▸ hB1) hl⟩
end Go.Proofs.Yteipcmbbonfklaa
