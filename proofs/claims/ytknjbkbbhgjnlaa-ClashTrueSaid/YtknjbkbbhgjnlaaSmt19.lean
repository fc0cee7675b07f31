/- The statements of layer 5: made. Conditions: at most 2^20 pairs; texts of at most 2^30 bytes. -/
import Derived.Test.YtknjbkbbhgjnlaaSmtMap
import Derived.Test.YtknjbkbbhgjnlaaToolA
import Derived.Test.YtknjbkbbhgjnlaaSmt4
namespace Go.Proofs.Ytknjbkbbhgjnlaa
open Go.RowKit
set_option linter.unusedVariables false
set_option linter.unusedSimpArgs false
theorem ownsMap_later {H : Type} {P : Program} {k : TypeId} {R : Value → Option (DataW H × List MemPlace)} {w w' : World} {b n : Nat} {D : DataW H} (h : w.ownsMap P k R b n D) (hb : Later w w') : w'.ownsMap P k R b n D :=
  h.kept (row := none) ⟨hb.os, hb.tape, hb.output, hb.size, fun i hi _ => hb.block i hi⟩ (by simp)
def MadeAt (w w' : World) (e : Ending) (l : List KV) : Prop := ∃ b, e = .returned (.map (some b)) ∧ w.heap.size ≤ b ∧ MapW w' b l.length (lastV l) ∧ Later w w'
theorem lastV_take {l : List KV} {k : Nat} (hk : k < l.length) : lastV (l.take (k + 1)) = setF (lastV (l.take k)) l[k].1 l[k].2 := by
  rw [List.take_succ_eq_append_getElem hk]
  funext x
  exact lastV_snoc _ _ _
theorem made0 (w : World) : MapW (w.alloc (.map #[] 0)) w.heap.size 0 (lastV []) := ⟨.map [], World.ownsMap_made _ _ _ _, MapF.empty⟩
set_option maxHeartbeats 2000000 in
set_option maxRecDepth 100000 in
theorem made_calls (A : Option Addr) (l : List KV) (cap : Nat) (w : World) (hcap : l.length ≤ cap) (hl : l.length ≤ 1048576) (hs : ∀ p ∈ l, p.1.size ≤ 1073741824 ∧ p.2.size ≤ 1073741824) (hr : PK.Rows w A l) :
    Calls Try.prog 20 #[.slice A l.length cap] w fun e w' => MadeAt w w' e l := by
  have hmm := @run_makeMap Try.prog
  have KS := Maps.string_keyed (P := Try.prog) (k := 9) Try.underlying9
  have hB : Later w (w.alloc (.map #[] 0)) := (Later.refl w).alloc _
  have hM0 := made0 w
  have b3 : ((l.length : Int) ≤ cap) = True := eq_true (by omega)
  replace hs := Lib.hid hs
  replace hr := Lib.hid hr
  go_enter Try.func20, Try.ntmps20
  go_upto_region 2 with (fail)
  generalize w.alloc (.map #[] 0) = W1 at *
  clear hmm
  go_wp2_with (fail)
  go_loopg [4] (l.length + 1) (fun kg i wr => ∃ (k : Nat), i = .int .i64 k ∧ k ≤ l.length ∧ kg = l.length + 1 - k ∧ MapW wr w.heap.size k (lastV (l.take k)) ∧ Later w wr)
  case atStart => exact ⟨0, rfl, Nat.zero_le _, rfl, hM0, hB⟩
  case round =>
    clear hM0 hB
    obtain ⟨k, rfl, hk, hkg, hM, hB⟩ := hrel
    replace hkg := Lib.hid hkg
    by_cases hlt : k < l.length
    · obtain ⟨ad, rfl, hadlt, c0, c1⟩ := PK.pair_ (hr.out.below hB) hlt
      have hsx := hs.out _ (List.getElem_mem hlt)
      have hnx := lastV_take hlt
      generalize l[k] = x at *
      obtain ⟨D, hown, hf⟩ := hM
      have hkey : keyOf Try.prog 9 (.string x.1) = some (keyL x.1) := WideMaps.keyOf_string_mk Try.underlying9 (by unfold maxLen; omega)
      have hval : plainElem (H := Unit) Try.prog 9 (.string x.2) = some (valD x.2, []) := plainElem_string Try.underlying9 (by unfold maxLen; omega)
      have hput := hf.put hown.isMap x.1 x.2
      rw [← hnx] at hput
      replace hput := Lib.hid hput
      have hkk : (k : Int) < l.length := by omega
      clear hnx hf
      go_upto_region 5 with (fail)
      refine wp_region_grow 11 24 (by kernel_rfl) (by kernel_rfl) rfl (fun w5 hl5 => ?_)
      simp only [List.take_succ_cons, List.take_zero, List.drop_succ_cons, List.drop_zero]
      generalize ha : Act.mk _ _ = a0
      have k0 : a0.eval (.tmp 0) = .slice (some ad) l.length cap := by subst ha; rfl
      have k3 : a0.eval (.tmp 3) = .map (some w.heap.size) := by subst ha; rfl
      have k4 : a0.eval (.tmp 4) = .int .i64 k := by subst ha; rfl
      have ks : a0.tmps.size = 24 := by subst ha; rfl
      have ha0 := ha.symm
      clear ha
      refine wpG_move (fun a w hk => (hk 3 rfl : a.eval (.tmp 3) = a0.eval (.tmp 3)).trans k3) ?_
      refine wpG_move (fun a w hk => (hk 0 rfl : a.eval (.tmp 0) = a0.eval (.tmp 0)).trans k0) ?_
      refine wpG_move (fun a w hk => (hk 4 rfl : a.eval (.tmp 4) = a0.eval (.tmp 4)).trans k4) ?_
      apply wpG_value'
      · rfl
      · (intro a wx hlx hk K hK; have e13 : a.eval (.tmp 13) = _ := hk 13 rfl; have e14 : a.eval (.tmp 14) = _ := hk 14 rfl; simp only [execOp, e13, e14]; clear e13 e14 hk; go_simp; exact hK)
      apply wpG_value'
      · rfl
      · (intro a wx hlx hk K hK; have e15 : a.eval (.tmp 15) = _ := hk 15 rfl; simp only [execOp, e15]; clear e15 hk; go_simp; exact hK)
      refine wpG_load1 (hl5.cell c0) Try.underlying9 rfl (fun a w hk => hk 16 rfl) ?_
      refine wpG_move (fun a w hk => (hk 0 rfl : a.eval (.tmp 0) = a0.eval (.tmp 0)).trans k0) ?_
      refine wpG_move (fun a w hk => (hk 4 rfl : a.eval (.tmp 4) = a0.eval (.tmp 4)).trans k4) ?_
      apply wpG_value'
      · rfl
      · (intro a wx hlx hk K hK; have e18 : a.eval (.tmp 18) = _ := hk 18 rfl; have e19 : a.eval (.tmp 19) = _ := hk 19 rfl; simp only [execOp, e18, e19]; clear e18 e19 hk; go_simp; exact hK)
      apply wpG_value'
      · rfl
      · (intro a wx hlx hk K hK; have e20 : a.eval (.tmp 20) = _ := hk 20 rfl; simp only [execOp, e20]; clear e20 hk; go_simp; exact hK)
      refine wpG_load1 (hl5.cell c1) Try.underlying9 rfl (fun a w hk => hk 21 rfl) ?_
      refine wpG_nil (fun w5' hl5' => ?_)
      refine fin_is ?_
      refine fin_is ?_
      refine fin_is ?_
      refine fin_is ?_
      refine fin_is ?_
      refine fin_is ?_
      refine fin_is ?_
      refine fin_is ?_
      refine fin_is ?_
      refine fin_is ?_
      refine fin_is ?_
      refine fin_nil ?_
      have hlq := hl5.trans hl5'
      have hown5 := ownsMap_later hown hlq
      have hB5 := hB.trans hlq
      refine wpList_mapUpdate_own _ rfl _ _ _ 36 rfl 9 9 KS Try.underlying36 _ w.heap.size k D (by simp [eval_put, put_size, put_none, ks, k3]) hown5 (by unfold maxLen; omega) (.string x.1) (.string x.2) (keyL x.1) (by simp [eval_put, put_size, put_none, ks]) (by simp [eval_put, put_size, put_none, ks]) hkey (valD x.2) [] hval (fun w6 hown6 hg6 => ?_)
      have hB6 : Later w w6 := below_only' hB5 hg6 (Nat.le_refl _)
      subst ha0
      clear k0 k3 k4 ks hown5 hB5 hlq hl5 hl5' hown
      simp only [Act.put, List.setIfInBounds_toArray, List.set_cons_succ, List.set_cons_zero]
      go_wp2_with (fail)
      go_roundg (l.length - k)
      case measure => go_light; rw [hkg.out]; omega
      case rel => go_light; exact ⟨k + 1, by go_num, by omega, by omega, ⟨_, hown6, hput.out⟩, hB6⟩
    · obtain rfl : k = l.length := by omega
      rw [List.take_length] at hM
      go_wp2_with (fail)
      go_returns
      go_light
      exact ⟨_, rfl, Nat.le_refl _, hM, hB⟩
end Go.Proofs.Ytknjbkbbhgjnlaa
