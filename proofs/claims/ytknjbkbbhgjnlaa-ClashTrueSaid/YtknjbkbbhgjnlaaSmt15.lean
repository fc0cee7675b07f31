/- Package smt: root. Conditions: at most 2^20 items; keys of less than 256 bytes, values of at most 2^30. -/
import Derived.Test.YtknjbkbbhgjnlaaSmt14
import Derived.Test.YtknjbkbbhgjnlaaSmt2
import Derived.Test.YtknjbkbbhgjnlaaSmt7
namespace Go.Proofs.Ytknjbkbbhgjnlaa
open Go.RowKit
set_option linter.unusedVariables false
set_option linter.unusedSimpArgs false
set_option maxHeartbeats 1000000 in
set_option maxRecDepth 100000 in
theorem sroot_nil (d : Nat) (hd : d ≤ 256) (A : Option Addr) (c ge : Nat) (w : World) (hE : Whole w ge 41 (sarr (downL (emp shaN) 256))) :
    Calls Try.prog 56 #[.agg (arr .u32 (K64 ++ H8.L)), .pointer (some ⟨ge, 0, none⟩), .slice A 0 c, .int .i64 d] w fun e w' => e = .returned (.string (emp shaN (256 - d))) ∧ Later w w' := by
  generalize arr .u32 (K64 ++ H8.L) = tb at *
  have hB : Later w (w.alloc (.cells tb 29)) := (Later.refl w).alloc _
  have c0 := sarr_cell (hE.alloc (.cells tb 29)) (i := d) (by rw [downL_length _ (by decide)]; omega)
  rw [downL_getD _ (by decide) (by omega) hd] at c0
  have x1 : ((0 : Int) ≤ d) := by omega
  have x2 : ((d : Int) < 257) := by omega
  generalize sarr (downL (emp shaN) 256) = EE at *
  generalize emp shaN (256 - d) = X at *
  go_enter Try.func56, Try.ntmps56
  go_upto_region 2 with (fail)
  generalize w.alloc (.cells tb 29) = W1 at *
  go_wp2_with (fail)
  go_returns
  go_light
  exact ⟨rfl, hB⟩
set_option maxHeartbeats 2000000 in
set_option maxRecDepth 100000 in
theorem sroot_end (x : KV) (l : List KV) (hl : l.length ≤ 1048576) (hok : KVok (x :: l)) (A : Option Addr) (c ge : Nat) (hc : l.length + 1 ≤ c) (w : World) (hr : IK.Rows w A (x :: l)) :
    Calls Try.prog 56 #[.agg (arr .u32 (K64 ++ H8.L)), .pointer (some ⟨ge, 0, none⟩), .slice A (l.length + 1) c, .int .i64 256] w fun e w' => e = .returned (.string (ownN (leastN x l))) ∧ Later w w' := by
  have CL := fun W (h : IK.Rows W A (x :: l)) => minFunc_calls A x l c W hc hl h
  have hk := hok _ (leastN_spec l x).1
  have CO := fun W => sown_calls (leastN x l).1 (leastN x l).2 hk.1 hk.2 W
  have e1 : ((leastN x l).1, (leastN x l).2) = leastN x l := rfl
  rw [e1] at CO
  have hsz := tb_size
  generalize arr .u32 (K64 ++ H8.L) = tb at *
  have hB : Later w (w.alloc (.cells tb 29)) := (Later.refl w).alloc _
  have h1 := Whole.new w 29 tb
  generalize leastN x l = m at *
  generalize ownN m = X at *
  obtain ⟨n, hn⟩ : ∃ n, l.length + 1 = n := ⟨_, rfl⟩
  have hn0 : 0 < n := by omega
  rw [hn] at CL ⊢
  replace CL := Lib.hid CL
  replace CO := Lib.hid CO
  have x1 : ((n : Int) == 0) = false := by rw [beq_eq_false_iff_ne]; omega
  replace hr := hr.below hB
  replace hr := Lib.hid hr
  clear hn hk
  go_enter Try.func56, Try.ntmps56
  go_upto_region 1 with (fail)
  generalize w.alloc (.cells tb 29) = W1 at *
  go_upto_region 5 with ((with_reducible refine (CL.out _ hr.out).mono ?_); rintro e w3 ⟨rfl, hl3⟩; replace hB := hB.trans hl3; replace h1 := Later.whole hl3 h1; have hM := Whole.new w3 147 (ItemV m).toArray; replace h1 := h1.alloc (.cells (ItemV m).toArray 147); replace hB : Later w (w3.alloc (.cells (ItemV m).toArray 147)) := hB.alloc _)
  generalize w3.alloc (.cells (ItemV m).toArray 147) = W4 at *
  have m1 : _ = some (Value.string m.1) := hM.cell 1
  have m2 : _ = some (Value.string m.2) := hM.cell 2
  go_wp2_with (first | ((with_reducible apply wl_loadW (ty := 29) h1 Try.underlying29); rfl; rfl; rfl; exact hsz) | ((with_reducible refine (CO.out _).mono ?_); rintro e w4 ⟨rfl, hl4⟩; replace hB := hB.trans hl4))
  go_returns
  go_light
  exact ⟨rfl, hB⟩
set_option maxHeartbeats 4000000 in
set_option maxRecDepth 100000 in
theorem sroot_more (K : Nat) (hK : K < 256) (l : List KV) (h2 : 1 ≤ l.length) (hl : l.length ≤ 1048576) (A : Option Addr) (c ge : Nat) (hc : l.length ≤ c) (w : World) (hE : Whole w ge 41 (sarr (downL (emp shaN) 256))) (hr : IK.Rows w A l)
    (ih : ∀ (m : List KV) (A : Option Addr) (c : Nat) (w : World), m.length ≤ l.length → (∀ p ∈ m, p ∈ l) → m.length ≤ c → Whole w ge 41 (sarr (downL (emp shaN) 256)) → IK.Rows w A m →
      Calls Try.prog 56 #[.agg (arr .u32 (K64 ++ H8.L)), .pointer (some ⟨ge, 0, none⟩), .slice A m.length c, .int .i64 ((255 - K + 1 : Nat) : Int)] w fun e w' => e = .returned (.string (rootS K m)) ∧ Later w w') :
    Calls Try.prog 56 #[.agg (arr .u32 (K64 ++ H8.L)), .pointer (some ⟨ge, 0, none⟩), .slice A l.length c, .int .i64 ((255 - K : Nat) : Int)] w fun e w' => e = .returned (.string (rootS (K + 1) l)) ∧ Later w w' := by
  have hsp := rootS_split K l
  have e1 := rootS_size K
  obtain ⟨d, hd⟩ : ∃ d, 255 - K = d := ⟨_, rfl⟩
  rw [hd] at ih hsp ⊢
  rw [show ((d + 1 : Nat) : Int) = (d : Int) + 1 by omega] at ih
  have hd1 : d < 256 := by omega
  have CP := fun W (h : IK.Rows W A l) => part_calls A l c d hd1 W hc hl h
  have I1 := fun A0 c0 W h3 h4 h5 => ih (l.filter (onB d false)) A0 c0 W (List.length_filter_le _ _) (fun p hp => (List.mem_filter.1 hp).1) h3 h4 h5
  have I2 := fun A0 c0 W h3 h4 h5 => ih (l.filter (onB d true)) A0 c0 W (List.length_filter_le _ _) (fun p hp => (List.mem_filter.1 hp).1) h3 h4 h5
  have z1 := e1 (l.filter (onB d false))
  have z2 := e1 (l.filter (onB d true))
  have CN := fun W => snode_calls (rootS K (l.filter (onB d false))) (rootS K (l.filter (onB d true))) (by omega) (by omega) W
  rw [← hsp] at CN
  generalize rootS K (l.filter (onB d false)) = X1 at *
  generalize rootS K (l.filter (onB d true)) = X2 at *
  generalize rootS (K + 1) l = RES at *
  clear hsp z1 z2 e1 ih hd
  have hsz := tb_size
  generalize arr .u32 (K64 ++ H8.L) = tb at *
  generalize sarr (downL (emp shaN) 256) = EE at *
  have hB : Later w (w.alloc (.cells tb 29)) := (Later.refl w).alloc _
  have h1 := Whole.new w 29 tb
  replace hE := hE.alloc (.cells tb 29)
  replace hr := hr.below hB
  have x1 : ((l.length : Int) == 0) = false := by rw [beq_eq_false_iff_ne]; omega
  have x2 : ((d : Int) == 256) = false := by rw [beq_eq_false_iff_ne]; omega
  have y1 : IntKind.i64.wrap ((d : Int) + 1) = (d : Int) + 1 := by simp [IntKind.wrap, IntKind.signed, IntKind.bits]; omega
  replace CP := Lib.hid CP
  replace CN := Lib.hid CN
  replace I1 := Lib.hid I1
  replace I2 := Lib.hid I2
  replace hr := Lib.hid hr
  go_enter Try.func56, Try.ntmps56
  go_upto_region 1 with (fail)
  generalize w.alloc (.cells tb 29) = W1 at *
  go_upto_region 7 with ((with_reducible refine (CP.out _ hr.out).mono ?_); rintro e w3 ⟨A0, A1, c0, c1, rfl, hc0, hc1, hR0, hR1, hl3⟩; replace hB := hB.trans hl3; replace h1 := Later.whole hl3 h1; replace hE := Later.whole hl3 hE; generalize hn0 : (l.filter (onB d false)).length = n0 at *; generalize hn1 : (l.filter (onB d true)).length = n1 at *; have hP := Whole.new w3 117 #[.slice A0 n0 c0, .slice A1 n1 c1]; replace h1 := h1.alloc (.cells #[.slice A0 n0 c0, .slice A1 n1 c1] 117); replace hE := hE.alloc (.cells #[.slice A0 n0 c0, .slice A1 n1 c1] 117); have hl4 : Later w3 (w3.alloc (.cells #[.slice A0 n0 c0, .slice A1 n1 c1] 117)) := (Later.refl w3).alloc _)
  generalize w3.alloc (.cells #[.slice A0 n0 c0, .slice A1 n1 c1] 117) = W4 at *
  replace hR0 := hR0.below hl4
  replace hR1 := hR1.below hl4
  replace hB := hB.trans hl4
  have p0 := hP.cell 0
  have p1 := hP.cell 1
  replace hn0 := Lib.hid hn0
  replace hn1 := Lib.hid hn1
  clear hr hl3 hl4
  refine wp_region_grow 16 50 (by kernel_rfl) (by kernel_rfl) rfl (fun w9 hl9 => ?_)
  simp only [List.take_succ_cons, List.take_zero, List.drop_succ_cons, List.drop_zero]
  generalize ha : Act.mk _ _ = a0
  have k1 : a0.eval (.tmp 1) = .pointer (some ⟨ge, 0, none⟩) := by subst ha; rfl
  have k3 : a0.eval (.tmp 3) = .int .i64 d := by subst ha; rfl
  have k4 : a0.eval (.tmp 4) = .pointer (some ⟨w.heap.size, 0, none⟩) := by subst ha; rfl
  have k10 : a0.eval (.tmp 10) = .pointer (some ⟨w3.heap.size, 0, none⟩) := by subst ha; rfl
  have ks : a0.tmps.size = 50 := by subst ha; rfl
  have ha0 := ha.symm
  clear ha
  refine wpG_loadW (hl9.whole h1) Try.underlying29 rfl (hsz) (fun a w hk => (hk 4 rfl : a.eval (.tmp 4) = a0.eval (.tmp 4)).trans k4) ?_
  refine wpG_loadW (hl9.whole h1) Try.underlying29 rfl (hsz) (fun a w hk => (hk 4 rfl : a.eval (.tmp 4) = a0.eval (.tmp 4)).trans k4) ?_
  refine wpG_move (fun a w hk => (hk 1 rfl : a.eval (.tmp 1) = a0.eval (.tmp 1)).trans k1) ?_
  apply wpG_value'
  · rfl
  · (intro a wx hlx hk K hK; have e10 : a.eval (.tmp 10) = _ := (hk 10 rfl : a.eval (.tmp 10) = a0.eval (.tmp 10)).trans k10; simp only [execOp, e10]; clear e10 hk; go_simp; exact hK)
  refine wpG_load1 (hl9.cell p0) Try.underlying110 rfl (fun a w hk => hk 37 rfl) ?_
  refine wpG_move (fun a w hk => (hk 3 rfl : a.eval (.tmp 3) = a0.eval (.tmp 3)).trans k3) ?_
  apply wpG_value'
  · rfl
  · (intro a wx hlx hk K hK; have e39 : a.eval (.tmp 39) = _ := hk 39 rfl; simp only [execOp, e39]; clear e39 hk; go_simp; exact hK)
  refine wpG_call _ _ Try.func56 (by kernel_rfl) (by kernel_rfl) (fun W hW => I1.out A0 c0 W hc0 (Later.whole (hl9.trans hW) hE) (hR0.below (hl9.trans hW))) (fun a w hk => by have e35 : a.eval (.tmp 35) = _ := hk 35 rfl; have e36 : a.eval (.tmp 36) = _ := hk 36 rfl; have e38 : a.eval (.tmp 38) = _ := hk 38 rfl; have e40 : a.eval (.tmp 40) = _ := hk 40 rfl; simp [e35, e36, e38, e40]) ?_
  refine wpG_loadW (hl9.whole h1) Try.underlying29 rfl (hsz) (fun a w hk => (hk 4 rfl : a.eval (.tmp 4) = a0.eval (.tmp 4)).trans k4) ?_
  refine wpG_move (fun a w hk => (hk 1 rfl : a.eval (.tmp 1) = a0.eval (.tmp 1)).trans k1) ?_
  apply wpG_value'
  · rfl
  · (intro a wx hlx hk K hK; have e10 : a.eval (.tmp 10) = _ := (hk 10 rfl : a.eval (.tmp 10) = a0.eval (.tmp 10)).trans k10; simp only [execOp, e10]; clear e10 hk; go_simp; exact hK)
  refine wpG_load1 (hl9.cell p1) Try.underlying110 rfl (fun a w hk => hk 44 rfl) ?_
  refine wpG_move (fun a w hk => (hk 3 rfl : a.eval (.tmp 3) = a0.eval (.tmp 3)).trans k3) ?_
  apply wpG_value'
  · rfl
  · (intro a wx hlx hk K hK; have e46 : a.eval (.tmp 46) = _ := hk 46 rfl; simp only [execOp, e46]; clear e46 hk; go_simp; exact hK)
  refine wpG_call _ _ Try.func56 (by kernel_rfl) (by kernel_rfl) (fun W hW => I2.out A1 c1 W hc1 (Later.whole (hl9.trans hW) hE) (hR1.below (hl9.trans hW))) (fun a w hk => by have e42 : a.eval (.tmp 42) = _ := hk 42 rfl; have e43 : a.eval (.tmp 43) = _ := hk 43 rfl; have e45 : a.eval (.tmp 45) = _ := hk 45 rfl; have e47 : a.eval (.tmp 47) = _ := hk 47 rfl; simp [e42, e43, e45, e47]) ?_
  refine wpG_call _ _ Try.func66 (by kernel_rfl) (by kernel_rfl) (fun W _ => CN.out W) (fun a w hk => by have e34 : a.eval (.tmp 34) = _ := hk 34 rfl; have e41 : a.eval (.tmp 41) = _ := hk 41 rfl; have e48 : a.eval (.tmp 48) = _ := hk 48 rfl; simp [e34, e41, e48]) ?_
  refine wpG_nil (fun w9' hl9' => ?_)
  refine fin_is ?_
  refine fin_is ?_
  refine fin_is ?_
  refine fin_is ?_
  refine fin_is ?_
  refine fin_is ?_
  refine fin_is ?_
  refine fin_is ?_
  refine fin_is ?_
  refine fin_is ?_
  refine fin_is ?_
  refine fin_is ?_
  refine fin_is ?_
  refine fin_is ?_
  refine fin_is ?_
  refine fin_is ?_
  refine fin_nil ?_
  subst ha0
  clear k1 k3 k4 k10 ks
  simp only [Act.put, List.setIfInBounds_toArray, List.set_cons_succ, List.set_cons_zero]
  go_wp2_with (fail)
  go_returns
  go_light
  exact ⟨rfl, hB.trans (hl9.trans hl9')⟩
theorem sroot_calls (ge : Nat) : ∀ (K : Nat) (l : List KV) (A : Option Addr) (c : Nat) (w : World), K ≤ 256 → l.length ≤ 1048576 → KVok l → l.length ≤ c → Whole w ge 41 (sarr (downL (emp shaN) 256)) → IK.Rows w A l →
    Calls Try.prog 56 #[.agg (arr .u32 (K64 ++ H8.L)), .pointer (some ⟨ge, 0, none⟩), .slice A l.length c, .int .i64 ((256 - K : Nat) : Int)] w fun e w' => e = .returned (.string (rootS K l)) ∧ Later w w' := by
  intro K
  induction K with
  | zero =>
    intro l A c w _ hl hok hc hE hr
    cases l with
    | nil => rw [rootS_nil]; exact sroot_nil 256 (Nat.le_refl _) A c ge w hE
    | cons x l => rw [rootS_zero]; exact sroot_end x l (by simp at hl; omega) hok A c ge hc w hr
  | succ K ih =>
    intro l A c w hK hl hok hc hE hr
    cases l with
    | nil =>
      rw [rootS_nil]
      have := sroot_nil (256 - (K + 1)) (by omega) A c ge w hE
      rw [show 256 - (256 - (K + 1)) = K + 1 by omega] at this
      exact this
    | cons x l =>
      rw [show 256 - (K + 1) = 255 - K by omega]
      refine sroot_more K (by omega) (x :: l) (by simp) hl A c ge hc w hE hr ?_
      intro m A c w h1 h2 h3 h4 h5
      rw [show 255 - K + 1 = 256 - K by omega]
      exact ih m A c w (by omega) (by omega) (fun p hp => hok p (h2 p hp)) h3 h4 h5
end Go.Proofs.Ytknjbkbbhgjnlaa
