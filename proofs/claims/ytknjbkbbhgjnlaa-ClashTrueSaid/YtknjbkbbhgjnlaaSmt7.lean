/- The reference of layer 5: Root. Conditions: at most 2^20 pairs; keys of less than 256 bytes, values of at most 2^30. -/
import Derived.Test.YtknjbkbbhgjnlaaSmt6
namespace Go.Proofs.Ytknjbkbbhgjnlaa
open Go.RowKit
set_option linter.unusedVariables false
set_option linter.unusedSimpArgs false
def KVok (l : List KV) : Prop := ∀ p ∈ l, p.1.size < 256 ∧ p.2.size ≤ 1073741824
theorem ee_size : (sarr (downL (emp shaN) 256)).size = 257 := by rw [sarr_size, downL_length _ (by decide)]
theorem ee_info : (Try.prog.info? 41).map (·.size) = some (sarr (downL (emp shaN) 256)).size := by rw [ee_size]; kernel_rfl
set_option maxHeartbeats 1000000 in
set_option maxRecDepth 100000 in
theorem root05_nil (d : Nat) (hd : d ≤ 256) (A P : Option Addr) (c pc : Nat) (w : World) :
    Calls Try.prog 22 #[.agg (sarr (downL (emp shaN) 256)), .slice A 0 c, .slice P 0 pc, .int .i64 d] w fun e w' => e = .returned (.string (emp shaN (256 - d))) ∧ Later w w' := by
  have hE := Whole.new w 41 (sarr (downL (emp shaN) 256))
  have hB : Later w (w.alloc (.cells (sarr (downL (emp shaN) 256)) 41)) := (Later.refl w).alloc _
  have c0 := sarr_cell hE (i := d) (by rw [downL_length _ (by decide)]; omega)
  rw [downL_getD _ (by decide) (by omega) hd] at c0
  have x1 : ((0 : Int) ≤ d) := by omega
  have x2 : ((d : Int) < 257) := by omega
  generalize sarr (downL (emp shaN) 256) = EE at *
  generalize emp shaN (256 - d) = X at *
  go_enter Try.func22, Try.ntmps22
  go_wp2_with (fail)
  go_returns
  go_light
  exact ⟨rfl, hB⟩
set_option maxHeartbeats 1000000 in
set_option maxRecDepth 100000 in
theorem root05_end (x : KV) (l : List KV) (hl : l.length ≤ 1048576) (hok : KVok (x :: l)) (A P : Option Addr) (c pc : Nat) (hc : l.length + 1 ≤ c) (w : World) (hr : PK.Rows w A (x :: l)) :
    Calls Try.prog 22 #[.agg (sarr (downL (emp shaN) 256)), .slice A (l.length + 1) c, .slice P (l.length + 1) pc, .int .i64 256] w fun e w' => e = .returned (.string (ownN (leastN x l))) ∧ Later w w' := by
  have hB : Later w (w.alloc (.cells (sarr (downL (emp shaN) 256)) 41)) := (Later.refl w).alloc _
  have CL := fun W (h : PK.Rows W A (x :: l)) => least_calls A x l c W hc hl h
  have hk := hok _ (leastN_spec l x).1
  have CO := fun W => own05_calls (leastN x l).1 (leastN x l).2 hk.1 hk.2 W
  have e1 : ((leastN x l).1, (leastN x l).2) = leastN x l := rfl
  rw [e1] at CO
  generalize leastN x l = m at *
  generalize ownN m = X at *
  obtain ⟨n, hn⟩ : ∃ n, l.length + 1 = n := ⟨_, rfl⟩
  have hn0 : 0 < n := by omega
  rw [hn] at CL ⊢
  generalize sarr (downL (emp shaN) 256) = EE at *
  replace CL := Lib.hid CL
  replace CO := Lib.hid CO
  have x1 : ((n : Int) == 0) = false := by rw [beq_eq_false_iff_ne]; omega
  replace hr := hr.below hB
  replace hr := Lib.hid hr
  clear hn hk
  go_enter Try.func22, Try.ntmps22
  go_wp2_with (first | ((with_reducible refine (CL.out _ hr.out).mono ?_); rintro e w3 ⟨rfl, hl3⟩; replace hB := hB.trans hl3) | ((with_reducible refine (CO.out _).mono ?_); rintro e w4 ⟨rfl, hl4⟩; replace hB := hB.trans hl4))
  go_returns
  go_light
  exact ⟨rfl, hB⟩
set_option maxHeartbeats 2000000 in
set_option maxRecDepth 100000 in
theorem root05_one (p : KV) (d : Nat) (hd : d < 256) (hok : KVok [p]) (A P : Option Addr) (c pc : Nat) (hc : 1 ≤ c) (hpc : 1 ≤ pc) (w : World) (hr : PK.Rows w A [p]) (hp : Kn.str.Rows w P [pathN p.1]) :
    Calls Try.prog 22 #[.agg (sarr (downL (emp shaN) 256)), .slice A 1 c, .slice P 1 pc, .int .i64 d] w fun e w' => e = .returned (.string (climbS p (256 - d))) ∧ Later w w' := by
  have hE := Whole.new w 41 (sarr (downL (emp shaN) 256))
  have hB : Later w (w.alloc (.cells (sarr (downL (emp shaN) 256)) 41)) := (Later.refl w).alloc _
  have hk := hok p (by simp)
  have CO := fun W => own05_calls p.1 p.2 hk.1 hk.2 W
  have CC := fun W => climb05_calls (pathN p.1) (ownN p) (256 - d) (shaN_len _) (shaN_len _) (by omega) W
  rw [climbG_own, show 256 - (256 - d) = d by omega] at CC
  have e1 : (p.1, p.2) = p := rfl
  rw [e1] at CO
  obtain ⟨ad, rfl, -, c0, c1⟩ := PK.pair_ (hr.below hB) (k := 0) (by simp)
  obtain ⟨ae, rfl, -, d0⟩ := Kn.Rows.one_ (hp.below hB) (k := 0) (by simp)
  rw [Nat.zero_mul, show ad.add 0 = ad from rfl] at c0 c1
  rw [show ae.add 0 = ae from rfl] at d0
  simp only [List.getElem_cons_zero] at c0 c1 d0
  have hi7 := ee_info
  generalize climbS p (256 - d) = X at *
  generalize ownN p = O at *
  generalize pathN p.1 = PP at *
  generalize sarr (downL (emp shaN) 256) = EE at *
  replace CC := Lib.hid CC
  replace CO := Lib.hid CO
  have x1 : ((d : Int) == 256) = false := by rw [beq_eq_false_iff_ne]; omega
  have b1 : ((1 : Int) ≤ c) = True := eq_true (by omega)
  have b2 : ((1 : Int) ≤ pc) = True := eq_true (by omega)
  clear hk e1
  go_enter Try.func22, Try.ntmps22
  go_upto_region 6 with (fail)
  generalize w.alloc (.cells EE 41) = W1 at *
  refine wp_region_grow 10 94 (by kernel_rfl) (by kernel_rfl) rfl (fun w3 hl3 => ?_)
  simp only [List.take_succ_cons, List.take_zero, List.drop_succ_cons, List.drop_zero]
  generalize ha : Act.mk _ _ = a0
  have k1 : a0.eval (.tmp 1) = .slice (some ad) 1 c := by subst ha; rfl
  have k2 : a0.eval (.tmp 2) = .slice (some ae) 1 pc := by subst ha; rfl
  have k3 : a0.eval (.tmp 3) = .int .i64 d := by subst ha; rfl
  have k4 : a0.eval (.tmp 4) = .pointer (some ⟨w.heap.size, 0, none⟩) := by subst ha; rfl
  have ks : a0.tmps.size = 94 := by subst ha; rfl
  have ha0 := ha.symm
  clear ha
  refine wpG_loadW (hl3.whole hE) Try.underlying41 rfl (hi7) (fun a w hk => (hk 4 rfl : a.eval (.tmp 4) = a0.eval (.tmp 4)).trans k4) ?_
  refine wpG_move (fun a w hk => (hk 2 rfl : a.eval (.tmp 2) = a0.eval (.tmp 2)).trans k2) ?_
  apply wpG_value'
  · rfl
  · (intro a wx hlx hk K hK; have e29 : a.eval (.tmp 29) = _ := hk 29 rfl; simp only [execOp, e29]; clear e29 hk; go_simp; exact hK)
  refine wpG_load1 (hl3.cell d0) Try.underlying9 rfl (fun a w hk => hk 30 rfl) ?_
  refine wpG_move (fun a w hk => (hk 1 rfl : a.eval (.tmp 1) = a0.eval (.tmp 1)).trans k1) ?_
  apply wpG_value'
  · rfl
  · (intro a wx hlx hk K hK; have e32 : a.eval (.tmp 32) = _ := hk 32 rfl; simp only [execOp, e32]; clear e32 hk; go_simp; exact hK)
  refine wpG_loadAt (#[.string p.1, .string p.2]) (pair_load (hl3.cell c0) (hl3.cell c1)) Try.underlying33 rfl (by first | assumption | kernel_rfl) (fun a w hk => hk 33 rfl) ?_
  refine wpG_call _ _ Try.func59 (by kernel_rfl) (by kernel_rfl) (fun W _ => CO.out W) (fun a w hk => by have e34 : a.eval (.tmp 34) = _ := hk 34 rfl; simp [e34]) ?_
  refine wpG_move (fun a w hk => (hk 3 rfl : a.eval (.tmp 3) = a0.eval (.tmp 3)).trans k3) ?_
  refine wpG_call _ _ Try.func61 (by kernel_rfl) (by kernel_rfl) (fun W _ => CC.out W) (fun a w hk => by have e28 : a.eval (.tmp 28) = _ := hk 28 rfl; have e31 : a.eval (.tmp 31) = _ := hk 31 rfl; have e35 : a.eval (.tmp 35) = _ := hk 35 rfl; have e36 : a.eval (.tmp 36) = _ := hk 36 rfl; simp [e28, e31, e35, e36] <;> first | rfl | exact ⟨rfl, rfl⟩ | exact ⟨rfl, rfl, rfl⟩) ?_
  refine wpG_nil (fun w3' hl3' => ?_)
  refine fin_is ?_
  refine fin_is ?_
  refine fin_is ?_
  refine fin_is ?_
  refine fin_is ?_
  refine fin_is ?_
  refine fin_is ?_
  refine fin_is ?_
  refine fin_is ?_
  refine fin_is ?_
  refine fin_nil ?_
  subst ha0
  clear k1 k2 k3 k4 ks
  simp only [Act.put, List.setIfInBounds_toArray, List.set_cons_succ, List.set_cons_zero]
  go_wp2_with (fail)
  go_returns
  go_light
  exact ⟨rfl, hB.trans (hl3.trans hl3')⟩
end Go.Proofs.Ytknjbkbbhgjnlaa
