/- The program's tree: a proof taken from its end. Conditions: none but the block's shape. -/
import Derived.Test.YtfkafejoacpclaaMerkPub
namespace Go.Proofs.Ytfkafejoacpclaa
open Go.RowKit
set_option linter.unusedVariables false
set_option linter.unusedSimpArgs false
/-- A taker's cells: the table, the proof, whether it was too short. -/
def tkA (tb : Array Value) (v : Value) (b : Bool) : Array Value := (tb.push v).push (.bool b)
theorem tkA_72 {tb : Array Value} (ht : tb.size = 72) (v : Value) (b : Bool) : (tkA tb v b)[72]? = some v := by
  unfold tkA
  rw [Array.getElem?_push, Array.getElem?_push]
  simp [ht]
theorem tkA_73 {tb : Array Value} (ht : tb.size = 72) (v : Value) (b : Bool) : (tkA tb v b)[73]? = some (.bool b) := by
  unfold tkA
  rw [Array.getElem?_push]
  simp [ht]
theorem tkA_set72 {tb : Array Value} (ht : tb.size = 72) (v u : Value) (b : Bool) : (tkA tb v b).setIfInBounds 72 u = tkA tb u b := by
  apply Array.ext_getElem?
  intro i
  unfold tkA
  rw [Array.getElem?_setIfInBounds]
  simp only [Array.getElem?_push, Array.size_push, ht]
  by_cases h : 72 = i
  · subst h; simp
  · rw [if_neg h]
    by_cases h2 : i = 73
    · simp [h2]
    · rw [if_neg h2, if_neg h2, if_neg (Ne.symm h), if_neg (Ne.symm h)]
theorem tkA_set73 {tb : Array Value} (ht : tb.size = 72) (v : Value) (b c : Bool) : (tkA tb v b).setIfInBounds 73 (.bool c) = tkA tb v c := by
  apply Array.ext_getElem?
  intro i
  unfold tkA
  rw [Array.getElem?_setIfInBounds]
  simp only [Array.getElem?_push, Array.size_push, ht]
  by_cases h : 73 = i
  · subst h; simp
  · rw [if_neg h, if_neg (Ne.symm h), if_neg (Ne.symm h)]
theorem tkA_size {tb : Array Value} (ht : tb.size = 72) (v : Value) (b : Bool) : (tkA tb v b).size = 74 := by simp [tkA, ht]
theorem tkA_tb {tb : Array Value} (ht : tb.size = 72) (v : Value) (b : Bool) : ((tkA tb v b).toList.drop 0).take tb.toList.length = tb.toList := by
  simp [tkA, List.take_append]
/-- Block g is a taker that holds p; what it reads lay there at W0. -/
structure TkAt (W0 W : World) (g : Nat) (tb : Array Value) (p : Tk) : Prop where
  ex : ∃ A cap, Whole W g 104 (tkA tb (.slice A p.l.length cap) p.bad) ∧ p.l.length ≤ cap ∧ Kn.str.Rows W0 A p.l
  below : Below W0.heap.size W0 W
  ge : W0.heap.size ≤ g
theorem TkAt.later {W0 W W' : World} {g : Nat} {tb : Array Value} {p : Tk} (h : TkAt W0 W g tb p) (hl : Later W W') : TkAt W0 W' g tb p := by
  obtain ⟨⟨A, cap, h1, h2, h3⟩, hb, hg⟩ := h
  exact ⟨⟨A, cap, hl.whole h1, h2, h3⟩, below_next' hb hl, hg⟩
set_option maxHeartbeats 2000000 in
set_option maxRecDepth 100000 in
theorem take_nil {tb : Array Value} (ht : tb.size = 72) (W0 W : World) (g : Nat) (bad : Bool) (h : TkAt W0 W g tb ⟨[], bad⟩) :
    Calls Try.prog 104 #[.pointer (some ⟨g, 0, none⟩)] W fun e w' => e = .returned (.string ⟨#[]⟩) ∧ TkAt W0 w' g tb ⟨[], true⟩ ∧ W.grownBy w' (some g) := by
  obtain ⟨⟨A, cap, h1, h2, h3⟩, hb, hg⟩ := h
  have c72 : W.cell? ⟨g, 72, none⟩ = some (.slice A 0 cap) := (h1.cell 72).trans (tkA_72 ht _ _)
  have c73 : W.cell? ⟨g, 73, none⟩ = some (.bool bad) := (h1.cell 73).trans (tkA_73 ht _ _)
  have f73 := h1.frozen 73
  have k1 : Whole (W.setCell ⟨g, 73, none⟩ (.bool true)) g 104 (tkA tb (.slice A 0 cap) true) := h1.put' 73 _ (tkA_set73 ht _ _ _)
  have k2 : W.grownBy (W.setCell ⟨g, 73, none⟩ (.bool true)) (some g) := only_put (only_same _ _) (.inl rfl) _
  clear h1
  go_enter Try.func104, Try.ntmps104
  go_wp2_with (fail)
  go_returns
  go_light
  exact ⟨rfl, ⟨⟨A, cap, k1, h2, h3⟩, below_only' hb k2 hg, hg⟩, k2⟩
set_option maxHeartbeats 2000000 in
set_option maxRecDepth 100000 in
theorem take_some {tb : Array Value} (ht : tb.size = 72) (W0 W : World) (g : Nat) (q : List ByteArray) (x : ByteArray) (bad : Bool) (h : TkAt W0 W g tb ⟨q ++ [x], bad⟩) :
    Calls Try.prog 104 #[.pointer (some ⟨g, 0, none⟩)] W fun e w' => e = .returned (.string x) ∧ TkAt W0 w' g tb ⟨q, bad⟩ ∧ W.grownBy w' (some g) := by
  obtain ⟨⟨A, cap, h1, h2, h3⟩, hb, hg⟩ := h
  simp only [List.length_append, List.length_singleton] at h1 h2
  obtain ⟨ad, rfl, hlt, hc⟩ := Kn.Rows.one_ h3 (k := q.length) (by simp)
  rw [List.getElem_append_right (Nat.le_refl _)] at hc
  simp only [Nat.sub_self, List.getElem_singleton] at hc
  have hc2 := (hb.cell (by rw [block_add]; exact hlt)).trans hc
  have h3' : Kn.str.Rows W0 (some ad) q := by
    have := rows_take h3 q.length
    rwa [List.take_left] at this
  have hq : q.length + 1 ≤ 9223372036854775807 := by have := h3.1; simpa using this
  have c72 : W.cell? ⟨g, 72, none⟩ = some (.slice (some ad) (q.length + 1) cap) := (h1.cell 72).trans (tkA_72 ht _ _)
  generalize hn : q.length = n at *
  have w1 : IntKind.i64.wrap ((n : Int) + 1 - 1) = n := by simp [IntKind.wrap, IntKind.signed, IntKind.bits]; omega
  have w2 : (((n : Int) + 1) == 0) = false := by rw [beq_eq_false_iff_ne]; omega
  have w3 : (n : Int) + 1 - 1 = n := by omega
  have w4 : ((n : Int) ≤ cap) = True := eq_true (by omega)
  have w5 : ((n : Int) < (n : Int) + 1) = True := eq_true (by omega)
  have w6 : IntKind.i64.wrap (n : Int) = n := by simp [IntKind.wrap, IntKind.signed, IntKind.bits]; omega
  obtain ⟨ii, q1, q2⟩ : ∃ ii, Try.prog.info? 22 = some ii ∧ ii.size = 1 := by
    have h : (Try.prog.info? 22).map (·.size) = some 1 := by kernel_rfl
    cases hi : Try.prog.info? 22 with
    | none => rw [hi] at h; cases h
    | some ii => rw [hi] at h; exact ⟨ii, rfl, Option.some.inj h⟩
  go_enter Try.func104, Try.ntmps104
  go_upto_region 4 with (fail)
  refine wp_region_grow 12 40 (by kernel_rfl) (by kernel_rfl) rfl (fun w3 hl3 => ?_)
  simp only [List.take_succ_cons, List.take_zero, List.drop_succ_cons, List.drop_zero]
  generalize ha : Act.mk _ _ = a0
  have k0 : a0.eval (.tmp 0) = .pointer (some ⟨g, 0, none⟩) := by subst ha; rfl
  have ks : a0.tmps.size = 40 := by subst ha; rfl
  have ha0 := ha.symm
  clear ha
  refine wpG_move (fun a w hk => (hk 0 rfl : a.eval (.tmp 0) = a0.eval (.tmp 0)).trans k0) ?_
  apply wpG_value'
  · rfl
  · (intro a wx hlx hk K hK; have e13 : a.eval (.tmp 13) = _ := hk 13 rfl; simp only [execOp, e13]; clear e13 hk; go_simp; exact hK)
  apply wpG_value'
  · rfl
  · (intro a wx hlx hk K hK; have e14 : a.eval (.tmp 14) = _ := hk 14 rfl; simp only [execOp, e14]; clear e14 hk; go_simp; exact hK)
  refine wpG_load1 (hl3.cell c72) Try.underlying22 rfl (fun a w hk => hk 15 rfl) ?_
  refine wpG_move (fun a w hk => (hk 0 rfl : a.eval (.tmp 0) = a0.eval (.tmp 0)).trans k0) ?_
  apply wpG_value'
  · rfl
  · (intro a wx hlx hk K hK; have e17 : a.eval (.tmp 17) = _ := hk 17 rfl; simp only [execOp, e17]; clear e17 hk; go_simp; exact hK)
  apply wpG_value'
  · rfl
  · (intro a wx hlx hk K hK; have e18 : a.eval (.tmp 18) = _ := hk 18 rfl; simp only [execOp, e18]; clear e18 hk; go_simp; exact hK)
  refine wpG_load1 (hl3.cell c72) Try.underlying22 rfl (fun a w hk => hk 19 rfl) ?_
  apply wpG_value'
  · rfl
  · (intro a wx hlx hk K hK; have e20 : a.eval (.tmp 20) = _ := hk 20 rfl; simp only [execOp, resolve, List.map_toArray, List.map_cons, List.map_nil, Option.map_some, Option.map_none, e20]; clear e20 hk; go_simp; exact hK)
  apply wpG_value'
  · rfl
  · (intro a wx hlx hk K hK; have e21 : a.eval (.tmp 21) = _ := hk 21 rfl; simp only [execOp, e21]; clear e21 hk; go_simp; exact hK)
  apply wpG_value'
  · rfl
  · (intro a wx hlx hk K hK; have e16 : a.eval (.tmp 16) = _ := hk 16 rfl; have e22 : a.eval (.tmp 22) = _ := hk 22 rfl; simp only [execOp, e16, e22]; clear e16 e22 hk; go_simp; exact hK)
  refine wpG_load1 (hl3.cell hc2) Try.underlying9 rfl (fun a w hk => hk 23 rfl) ?_
  refine wpG_nil (fun w3' hl3' => ?_)
  refine fin_is ?_
  refine fin_is ?_
  refine fin_is ?_
  refine fin_is ?_
  refine fin_is ?_
  refine fin_is ?_
  refine fin_is ?_
  refine fin_is ?_
  refine fin_is ?_
  refine fin_is ?_
  refine fin_is ?_
  refine fin_is ?_
  refine fin_nil ?_
  subst ha0
  clear k0 ks
  have hl4 := hl3.trans hl3'
  go_upto_region 5 with (fail)
  refine wp_region_grow 14 40 (by kernel_rfl) (by kernel_rfl) rfl (fun w5 hl5 => ?_)
  simp only [List.take_succ_cons, List.take_zero, List.drop_succ_cons, List.drop_zero]
  generalize ha : Act.mk _ _ = a0
  have k0 : a0.eval (.tmp 0) = .pointer (some ⟨g, 0, none⟩) := by subst ha; rfl
  have ks : a0.tmps.size = 40 := by subst ha; rfl
  have ha0 := ha.symm
  clear ha
  refine wpG_move (fun a w hk => (hk 0 rfl : a.eval (.tmp 0) = a0.eval (.tmp 0)).trans k0) ?_
  refine wpG_move (fun a w hk => (hk 0 rfl : a.eval (.tmp 0) = a0.eval (.tmp 0)).trans k0) ?_
  apply wpG_value'
  · rfl
  · (intro a wx hlx hk K hK; have e26 : a.eval (.tmp 26) = _ := hk 26 rfl; simp only [execOp, e26]; clear e26 hk; go_simp; exact hK)
  apply wpG_value'
  · rfl
  · (intro a wx hlx hk K hK; have e27 : a.eval (.tmp 27) = _ := hk 27 rfl; simp only [execOp, e27]; clear e27 hk; go_simp; exact hK)
  refine wpG_load1 ((hl4.trans hl5).cell c72) Try.underlying22 rfl (fun a w hk => hk 28 rfl) ?_
  refine wpG_move (fun a w hk => (hk 0 rfl : a.eval (.tmp 0) = a0.eval (.tmp 0)).trans k0) ?_
  apply wpG_value'
  · rfl
  · (intro a wx hlx hk K hK; have e30 : a.eval (.tmp 30) = _ := hk 30 rfl; simp only [execOp, e30]; clear e30 hk; go_simp; exact hK)
  apply wpG_value'
  · rfl
  · (intro a wx hlx hk K hK; have e31 : a.eval (.tmp 31) = _ := hk 31 rfl; simp only [execOp, e31]; clear e31 hk; go_simp; exact hK)
  refine wpG_load1 ((hl4.trans hl5).cell c72) Try.underlying22 rfl (fun a w hk => hk 32 rfl) ?_
  apply wpG_value'
  · rfl
  · (intro a wx hlx hk K hK; have e33 : a.eval (.tmp 33) = _ := hk 33 rfl; simp only [execOp, resolve, List.map_toArray, List.map_cons, List.map_nil, Option.map_some, Option.map_none, e33]; clear e33 hk; go_simp; exact hK)
  apply wpG_value'
  · rfl
  · (intro a wx hlx hk K hK; have e34 : a.eval (.tmp 34) = _ := hk 34 rfl; simp only [execOp, e34]; clear e34 hk; go_simp; exact hK)
  apply wpG_value'
  · rfl
  · (intro a wx hlx hk K hK; have e29 : a.eval (.tmp 29) = _ := hk 29 rfl; have e35 : a.eval (.tmp 35) = _ := hk 35 rfl; simp only [execOp, resolve, List.map_toArray, List.map_cons, List.map_nil, Option.map_some, Option.map_none, e29, e35]; clear e29 e35 hk; go_simp; exact hK)
  apply wpG_value'
  · rfl
  · (intro a wx hlx hk K hK; have e25 : a.eval (.tmp 25) = _ := hk 25 rfl; simp only [execOp, e25]; clear e25 hk; go_simp; exact hK)
  apply wpG_value'
  · rfl
  · (intro a wx hlx hk K hK; have e37 : a.eval (.tmp 37) = _ := hk 37 rfl; simp only [execOp, e37]; clear e37 hk; go_simp; exact hK)
  refine wpG_nil (fun w5' hl5' => ?_)
  refine fin_is ?_
  refine fin_is ?_
  refine fin_is ?_
  refine fin_is ?_
  refine fin_is ?_
  refine fin_is ?_
  refine fin_is ?_
  refine fin_is ?_
  refine fin_is ?_
  refine fin_is ?_
  refine fin_is ?_
  refine fin_is ?_
  refine fin_is ?_
  refine fin_is ?_
  refine fin_nil ?_
  have hl := hl4.trans (hl5.trans hl5')
  refine wl_store1 (p := ⟨g, 72, none⟩) (v := .slice (some ad) n cap) (hl.cell c72) ((hl.whole h1).frozen 72) q1 q2 (by simp [eval_put, put_size, ks]) (by simp [eval_put, put_size, ks]) rfl rfl ?_
  have k1 : Whole (w5'.setCell ⟨g, 72, none⟩ (.slice (some ad) n cap)) g 104 (tkA tb (.slice (some ad) n cap) bad) := (hl.whole h1).put' 72 _ (tkA_set72 ht _ _ _)
  have k2 : W.grownBy (w5'.setCell ⟨g, 72, none⟩ (.slice (some ad) n cap)) (some g) := only_put (only_below hl _) (.inl rfl) _
  subst ha0
  clear k0 ks h1
  subst hn
  go_wp2_with (fail)
  go_returns
  go_light
  exact ⟨rfl, ⟨⟨_, cap, k1, by show q.length ≤ cap; omega, h3'⟩, below_only' hb k2 hg, hg⟩, k2⟩
end Go.Proofs.Ytfkafejoacpclaa
