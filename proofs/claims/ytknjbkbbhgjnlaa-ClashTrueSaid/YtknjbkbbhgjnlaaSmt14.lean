/- Package smt: slices.MinFunc at items. Condition: at most 2^20 items. -/
import Derived.Test.YtknjbkbbhgjnlaaSmt13
namespace Go.Proofs.Ytknjbkbbhgjnlaa
open Go.RowKit
set_option linter.unusedVariables false
set_option linter.unusedSimpArgs false
theorem itemV_size (p : KV) : (ItemV p).toArray.size = 3 := rfl
set_option maxHeartbeats 2000000 in
set_option maxRecDepth 100000 in
theorem minFunc_calls (A : Option Addr) (x : KV) (l : List KV) (cap : Nat) (w : World) (hcap : l.length + 1 ≤ cap) (hl : l.length ≤ 1048576) (hr : IK.Rows w A (x :: l)) :
    Calls Try.prog 91 #[.slice A (l.length + 1) cap, .func (.func 92) #[] #[]] w fun e w' => e = .returned (.agg (ItemV (leastN x l)).toArray) ∧ Later w w' := by
  have hB0 : Later w (w.alloc (.cells #[.string ⟨#[]⟩, .string ⟨#[]⟩, .string ⟨#[]⟩] 147)) := (Later.refl w).alloc _
  obtain ⟨ad, rfl, hadlt, c0⟩ := IK.item_ (hr.below hB0) (k := 0) (by simp)
  have hR := Whole.new w 147 #[.string ⟨#[]⟩, .string ⟨#[]⟩, .string ⟨#[]⟩]
  rw [Nat.zero_mul, show ad.add 0 = ad from rfl] at c0
  simp only [List.getElem_cons_zero] at c0
  have b3 : (((l.length + 1 : Nat) : Int) ≤ cap) = True := eq_true (by omega)
  have hsn := leastN_snoc
  have CF := fun (p q : KV) w => rootcmp_calls p q w
  have En := enters_of Try.func92 (by kernel_rfl) rfl
  obtain ⟨n, hn⟩ : ∃ n, l.length + 1 = n := ⟨_, rfl⟩
  rw [hn] at hcap b3 ⊢
  have b1 : ((1 : Int) ≤ n) := by omega
  have b2 : ((0 : Int) < n) := by omega
  have b4 : ¬ ((n : Int) < 1) := by omega
  replace hn := Lib.hid hn
  replace hsn := Lib.hid hsn
  replace CF := Lib.hid CF
  go_enter Try.func91, Try.ntmps91
  go_upto_region 1 with (fail)
  have hsz : (w.alloc (.cells #[.string ⟨#[]⟩, .string ⟨#[]⟩, .string ⟨#[]⟩] 147)).heap.size = w.heap.size + 1 := by simp
  generalize w.alloc (.cells #[.string ⟨#[]⟩, .string ⟨#[]⟩, .string ⟨#[]⟩] 147) = W1 at *
  have hO := Whole.new W1 147 (ItemV x).toArray
  have hB : Later w (W1.alloc (.cells (ItemV x).toArray 147)) := hB0.alloc _
  replace hR := hR.alloc (.cells (ItemV x).toArray 147)
  rw [hsz] at hO
  go_upto_region 4 with (((with_reducible apply wl_loadAt (ty := 147) (ItemV x).toArray c0 Try.underlying147); rfl; rfl; rfl; kernel_rfl))
  generalize W1.alloc (.cells (ItemV x).toArray 147) = W2 at *
  clear c0 hB0 hsz
  go_wp2_with (fail)
  go_loopg [6] (l.length + 1) (fun kg i wr => ∃ (k j : Nat) (b : KV), j = k + 1 ∧ i = .int .i64 j ∧ k ≤ l.length ∧ kg = l.length + 1 - k ∧ b = leastN x (l.take k) ∧ Whole wr (w.heap.size + 1) 147 (ItemV b).toArray ∧ Whole wr w.heap.size 147 #[.string ⟨#[]⟩, .string ⟨#[]⟩, .string ⟨#[]⟩] ∧ Later w wr)
  case atStart => exact ⟨0, 1, x, rfl, rfl, Nat.zero_le _, rfl, rfl, hO, hR, hB⟩
  case round =>
    clear hO hR hB
    obtain ⟨k, j, b, hj, rfl, hk, hkg, hb, hO, hR, hB⟩ := hrel
    replace hkg := Lib.hid hkg
    by_cases hlt : k < l.length
    · obtain ⟨ad', he, -, cy⟩ := IK.item_ (hr.below hB) (k := j) (by simp; omega)
      obtain rfl := Option.some.inj he
      have hy : (x :: l)[j]'(by simp; omega) = l[k] := by simp only [hj, List.getElem_cons_succ]
      rw [hy] at cy
      have hnx : leastN x (l.take (k + 1)) = if ltB l[k].1 b.1 = true then l[k] else b := by rw [List.take_succ_eq_append_getElem hlt, hsn.out, ← hb]
      generalize l[k] = y at *
      have hlb : ltB y.1 b.1 = decide (Lib.compareBytes y.1.data.toList b.1.data.toList < 0) := (cmp_less _ _).symm
      rw [hlb] at hnx
      have CC := fun w => CF.out y b w
      generalize Lib.compareBytes y.1.data.toList b.1.data.toList = r at *
      have hjn : ((j : Int) < n) := by have := hn.out; omega
      have hj0 : ((0 : Int) ≤ j) := by omega
      have hjb : j ≤ 1048577 := by omega
      have hiY : (Try.prog.info? 147).map (·.size) = some (ItemV y).toArray.size := by kernel_rfl
      have hiB : (Try.prog.info? 147).map (·.size) = some (ItemV b).toArray.size := by kernel_rfl
      have hoz : (ItemV y).toArray.toList.all (·.oneCell') = true := by simp [Value.oneCell']
      have hzz : (ItemV y).toArray.size = (ItemV b).toArray.size := (itemV_size y).trans (itemV_size b).symm
      generalize hYA : (ItemV y).toArray = YA at *
      generalize hBA : (ItemV b).toArray = BA at *
      replace hYA := Lib.hid hYA
      replace hBA := Lib.hid hBA
      replace CC := Lib.hid CC
      replace hb := Lib.hid hb
      replace hnx := Lib.hid hnx
      clear hlb hy
      replace hj := Lib.hid hj
      go_upto_region 7 with (fail)
      refine wp_region_grow 8 33 (by kernel_rfl) (by kernel_rfl) rfl (fun w5 hl5 => ?_)
      simp only [List.take_succ_cons, List.take_zero, List.drop_succ_cons, List.drop_zero]
      generalize ha : Act.mk _ _ = a0
      have k0 : a0.eval (.tmp 0) = .slice (some ad) n cap := by subst ha; rfl
      have k1 : a0.eval (.tmp 1) = .func (.func 92) #[] #[] := by subst ha; rfl
      have k5 : a0.eval (.tmp 5) = .pointer (some ⟨w.heap.size + 1, 0, none⟩) := by subst ha; rfl
      have k6 : a0.eval (.tmp 6) = .int .i64 j := by subst ha; rfl
      have ks : a0.tmps.size = 33 := by subst ha; rfl
      have ha0 := ha.symm
      clear ha
      refine wpG_move (fun a w hk => (hk 1 rfl : a.eval (.tmp 1) = a0.eval (.tmp 1)).trans k1) ?_
      refine wpG_move (fun a w hk => (hk 0 rfl : a.eval (.tmp 0) = a0.eval (.tmp 0)).trans k0) ?_
      refine wpG_move (fun a w hk => (hk 6 rfl : a.eval (.tmp 6) = a0.eval (.tmp 6)).trans k6) ?_
      apply wpG_value'
      · rfl
      · (intro a wx hlx hk K hK; have e21 : a.eval (.tmp 21) = _ := hk 21 rfl; have e22 : a.eval (.tmp 22) = _ := hk 22 rfl; simp only [execOp, e21, e22]; clear e21 e22 hk; go_simp; exact hK)
      refine wpG_loadAt (YA) (fun j v hj => hl5.cell (cy j v hj)) Try.underlying147 rfl (by first | assumption | kernel_rfl) (fun a w hk => hk 23 rfl) ?_
      refine wpG_loadW (hl5.whole hO) Try.underlying147 rfl (hiB) (fun a w hk => (hk 5 rfl : a.eval (.tmp 5) = a0.eval (.tmp 5)).trans k5) ?_
      refine wpG_callv _ _ (En) (fun w _ => CC.out w) (fun a w hk => by have e20 : a.eval (.tmp 20) = _ := hk 20 rfl; have e24 : a.eval (.tmp 24) = _ := hk 24 rfl; have e25 : a.eval (.tmp 25) = _ := hk 25 rfl; exact ⟨e20, by simp [e24, e25]⟩) ?_
      apply wpG_value'
      · rfl
      · (intro a wx hlx hk K hK; have e26 : a.eval (.tmp 26) = _ := hk 26 rfl; simp only [execOp, e26]; clear e26 hk; go_simp; exact hK)
      refine wpG_nil (fun w5' hl5' => ?_)
      refine fin_is ?_
      refine fin_is ?_
      refine fin_is ?_
      refine fin_is ?_
      refine fin_is ?_
      refine fin_is ?_
      refine fin_is ?_
      refine fin_is ?_
      refine fin_nil ?_
      subst ha0
      clear k0 k1 k5 k6 ks
      simp only [Act.put, List.setIfInBounds_toArray, List.set_cons_succ, List.set_cons_zero]
      have hlq := hl5.trans hl5'
      replace hO := Later.whole hlq hO
      replace hR := Later.whole hlq hR
      replace hB := hB.trans hlq
      have cz : ∀ j' v, YA.toList[j']? = some v → w5'.cell? ((ad.add (j * 3)).add j') = some v := fun j' v hj' => Later.cell hlq (cy j' v hj')
      generalize w5' = W5 at *
      clear hl5 hl5' cy
      by_cases hbl : r < 0
      · have hnx' := hnx.out
        rw [decide_eq_true hbl, if_pos rfl] at hnx'
        replace hnx' := Lib.hid hnx'
        go_wp2_with (first | ((with_reducible apply wl_loadAt (ty := 147) YA cz Try.underlying147); rfl; rfl; rfl; exact hiY) | ((with_reducible apply wl_storeW (ty := 147) hO); rfl; rfl; rfl; exact hiB; exact hzz; exact hoz; intro w7 hs7 hg7 hz7))
        go_roundg (l.length - k)
        case measure => go_light; rw [hkg.out]; omega
        case rel => go_light; exact ⟨k + 1, j + 1, y, by rw [hj.out], by go_num, by omega, by omega, hnx'.out.symm, by rw [hYA.out]; exact hs7, Whole.only hR hg7 (fun q => by have := Option.some.inj q; omega), below_only' hB hg7 (by omega)⟩
      · have hnx' := hnx.out
        rw [decide_eq_false hbl, if_neg (by decide)] at hnx'
        replace hnx' := Lib.hid hnx'
        go_wp2_with (fail)
        go_roundg (l.length - k)
        case measure => go_light; rw [hkg.out]; omega
        case rel => go_light; exact ⟨k + 1, j + 1, b, by rw [hj.out], by go_num, by omega, by omega, hnx'.out.symm, by rw [hBA.out]; exact hO, hR, hB⟩
    · obtain rfl : k = l.length := by omega
      have hjn : ¬ ((j : Int) < n) := by have := hn.out; omega
      rw [List.take_length] at hb
      subst hb
      go_wp2_with (first | (first | ((with_reducible apply wl_loadW (ty := 147) hO Try.underlying147); rfl; rfl; rfl; kernel_rfl) | ((with_reducible apply wl_loadW (ty := 147) (hO.alloc _) Try.underlying147); rfl; rfl; rfl; kernel_rfl) | ((with_reducible apply wl_loadW (ty := 147) ((hO.alloc _).alloc _) Try.underlying147); rfl; rfl; rfl; kernel_rfl)) | ((with_reducible apply wl_storeW (ty := 147) hR); rfl; rfl; rfl; kernel_rfl; rfl; rfl; intro w7 hs7 hg7 hz7))
      refine bodyPost_ret (res_cell1 rfl _ _ _ _ _ _ rfl hs7 Try.underlying147 rfl (by kernel_rfl)) rfl ?_
      go_light
      exact ⟨rfl, below_only' hB hg7 (by omega)⟩
end Go.Proofs.Ytknjbkbbhgjnlaa
