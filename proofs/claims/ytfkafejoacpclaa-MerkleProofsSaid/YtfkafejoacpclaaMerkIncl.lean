/- The program's tree: a leaf's proof. Conditions: texts of at most 1000 bytes, at most 2^20 of them. -/
import Derived.Test.YtfkafejoacpclaaMerkRoot
import Derived.Test.YtfkafejoacpclaaGrowS
import Derived.Test.YtfkafejoacpclaaSteps
namespace Go.Proofs.Ytfkafejoacpclaa
open Go.RowKit
set_option linter.unusedVariables false
set_option linter.unusedSimpArgs false
theorem inclN_len (l : List ByteArray) : ∀ (n : Nat) (l : List ByteArray) (i : Nat), l.length = n → (inclN l i).length ≤ n := by
  intro n
  induction n using Nat.strongRecOn with
  | _ n ih =>
    intro l i hl
    rw [inclN]
    split
    · simp
    · obtain ⟨h1, h3⟩ := sp_lt (n := l.length) (by omega)
      split
      · have := ih (sp l.length) (by omega) (l.take (sp l.length)) i (by rw [List.length_take]; omega)
        rw [List.length_append, List.length_singleton]
        omega
      · have := ih (l.length - sp l.length) (by omega) (l.drop (sp l.length)) (i - sp l.length) (by rw [List.length_drop])
        rw [List.length_append, List.length_singleton]
        omega
set_option maxHeartbeats 2000000 in
set_option maxRecDepth 100000 in
theorem incl_calls : ∀ (n : Nat) (l : List ByteArray) (A : Option Addr) (cap i : Nat) (w : World), l.length = n → i < n → n ≤ 1048575 → n ≤ cap → (∀ x ∈ l, x.size ≤ 1000) → Kn.str.Rows w A l →
    Calls Try.prog 62 #[.agg (arr .u32 (K64 ++ H8.L)), .slice A n cap, .int .i64 i] w fun e w' => (∃ v, e = .returned v ∧ TextRow 9 w.heap.size (inclN l i) v w') ∧ Below w.heap.size w w' := by
  intro n
  induction n using Nat.strongRecOn with
  | _ n ih =>
    intro l A cap i w hn hi hn20 hcap h1000 hr
    have hsz : (Try.prog.info? 29).map (·.size) = some (arr .u32 (K64 ++ H8.L)).size := by kernel_rfl
    have RC := fun (m : Nat) (l' : List ByteArray) (A' : Option Addr) (c' : Nat) (w' : World) h1 h2 h3 h4 h5 => root_calls m l' A' c' w' h1 h2 h3 h4 h5
    generalize arr .u32 (K64 ++ H8.L) = tb at *
    have h1 := Whole.new w 29 tb
    have hB1 : Below w.heap.size w (w.alloc (.cells tb 29)) := by go_grown
    replace RC := Lib.hid RC
    replace ih := Lib.hid ih
    by_cases h1' : n = 1
    · have q1 : ((n : Int) == 1) = true := by rw [beq_iff_eq]; omega
      have e : inclN l i = [] := by rw [inclN, dif_pos (by omega)]
      rw [e]
      clear ih hr RC e
      have ho : TextRow 9 w.heap.size [] (.slice none 0 0) (w.alloc (.cells tb 29)) := World.ownsRow_nil _ _ _ _
      subst h1'
      go_enter Try.func62, Try.ntmps62
      go_wp2_with (fail)
      go_returns
      go_light
      exact ⟨⟨_, rfl, ho⟩, hB1⟩
    · have q1 : ((n : Int) == 1) = false := by rw [beq_eq_false_iff_ne]; omega
      obtain ⟨k1, k2⟩ := sp_lt (n := n) (by omega)
      have SP := fun w => split_calls n (by omega) w
      have hincl : inclN l i = if i < sp n then inclN (l.take (sp n)) i ++ [rootN (l.drop (sp n))] else inclN (l.drop (sp n)) (i - sp n) ++ [rootN (l.take (sp n))] := by
        conv => lhs; rw [inclN]
        rw [dif_neg (by omega), hn]
      obtain ⟨ad, rfl, -, -⟩ := Kn.Rows.one_ hr (k := 0) (by omega)
      generalize sp n = k at *
      have hr1 := rows_take hr k
      have hr2 := rows_drop hr (k := k) (by omega)
      have z1 : ∀ x ∈ l.take k, x.size ≤ 1000 := fun x hx => h1000 x (List.mem_of_mem_take hx)
      have z2 : ∀ x ∈ l.drop k, x.size ≤ 1000 := fun x hx => h1000 x (List.mem_of_mem_drop hx)
      have hl1 : (l.take k).length = k := by rw [List.length_take]; omega
      have hl2 : (l.drop k).length = n - k := by rw [List.length_drop]; omega
      have b1 : ((k : Int) ≤ cap) = True := eq_true (by omega)
      have b2 : ((k : Int) ≤ n) = True := eq_true (by omega)
      have b3 : ((n : Int) ≤ cap) = True := eq_true (by omega)
      have hck : ¬ cap = k := by omega
      have hck' : (cap = k) = False := eq_false hck
      have hck2 : ¬ ((cap : Int) = (k : Int)) := by omega
      replace hr1 := Lib.hid (hr1.below hB1)
      replace hr2 := Lib.hid (hr2.below hB1)
      replace SP := Lib.hid SP
      by_cases hik : i < k
      · rw [if_pos hik] at hincl
        have qik : ((i : Int) < k) = True := eq_true (by omega)
        have IC := fun W hW => ih.out k k2 (l.take k) (some ad) cap i W hl1 hik (by omega) (by omega) z1 hW
        have RT := fun W hW => RC.out (n - k) (l.drop k) (some (ad.add k)) (cap - k) W hl2 (by omega) (by omega) z2 hW
        have hlen := inclN_len [] k (l.take k) i hl1
        rw [hincl]
        generalize inclN (l.take k) i = il at *
        generalize rootN (l.drop k) = x2 at *
        clear ih RC hincl z1 z2 h1000 hr hl1 hl2
        replace IC := Lib.hid IC
        replace RT := Lib.hid RT
        go_enter Try.func62, Try.ntmps62
        go_upto_region 5 with ((with_reducible refine (SP.out _).mono ?_); rintro e w4 ⟨rfl, rfl⟩)
        generalize hG : w.heap.size = G at *
        have hGs := hB1.size
        generalize w.alloc (.cells tb 29) = W1 at *
        refine wp_region_grow 12 45 (by kernel_rfl) (by kernel_rfl) rfl (fun w4 hl4 => ?_)
        simp only [List.take_succ_cons, List.take_zero, List.drop_succ_cons, List.drop_zero]
        generalize ha : Act.mk _ _ = a0
        have k1 : a0.eval (.tmp 1) = .slice (some ad) n cap := by subst ha; rfl
        have k2 : a0.eval (.tmp 2) = .int .i64 (i : Int) := by subst ha; rfl
        have k3 : a0.eval (.tmp 3) = .pointer (some ⟨G, 0, none⟩) := by subst ha; rfl
        have k7 : a0.eval (.tmp 7) = .int .i64 (k : Int) := by subst ha; rfl
        have ks : a0.tmps.size = 45 := by subst ha; rfl
        have ha0 := ha.symm
        clear ha
        refine wpG_loadW (hl4.whole h1) Try.underlying29 rfl (hsz) (fun a w hk => (hk 3 rfl : a.eval (.tmp 3) = a0.eval (.tmp 3)).trans k3) ?_
        refine wpG_move (fun a w hk => (hk 1 rfl : a.eval (.tmp 1) = a0.eval (.tmp 1)).trans k1) ?_
        refine wpG_move (fun a w hk => (hk 7 rfl : a.eval (.tmp 7) = a0.eval (.tmp 7)).trans k7) ?_
        apply wpG_value'
        · rfl
        · (intro a wx hlx hk K hK; have e18 : a.eval (.tmp 18) = _ := hk 18 rfl; have e19 : a.eval (.tmp 19) = _ := hk 19 rfl; simp only [execOp, resolve, List.map_toArray, List.map_cons, List.map_nil, Option.map_some, Option.map_none, e18, e19]; clear e18 e19 hk; go_simp; exact hK)
        refine wpG_move (fun a w hk => (hk 2 rfl : a.eval (.tmp 2) = a0.eval (.tmp 2)).trans k2) ?_
        refine wpG_callF (TextRow 9 w4.heap.size il) (TextRow.later) Try.func62 (by kernel_rfl) (by kernel_rfl) (fun a wx hlx hk => by have e17 : a.eval (.tmp 17) = _ := hk 17 rfl; have e20 : a.eval (.tmp 20) = _ := hk 20 rfl; have e21 : a.eval (.tmp 21) = _ := hk 21 rfl; simp only [List.map_toArray, List.map_cons, List.map_nil, e17, e20, e21]; exact ((IC.out wx (hr1.out.below (hl4.trans hlx))).mono fun e w' hh => by obtain ⟨⟨v, he, hv⟩, hb⟩ := hh; exact ⟨v, he, TextRow.base hv hlx.size, hb⟩)) ?_
        refine wpG_loadW (hl4.whole h1) Try.underlying29 rfl (hsz) (fun a w hk => (hk 3 rfl : a.eval (.tmp 3) = a0.eval (.tmp 3)).trans k3) ?_
        refine wpG_move (fun a w hk => (hk 1 rfl : a.eval (.tmp 1) = a0.eval (.tmp 1)).trans k1) ?_
        refine wpG_move (fun a w hk => (hk 7 rfl : a.eval (.tmp 7) = a0.eval (.tmp 7)).trans k7) ?_
        apply wpG_value'
        · rfl
        · (intro a wx hlx hk K hK; have e24 : a.eval (.tmp 24) = _ := hk 24 rfl; have e25 : a.eval (.tmp 25) = _ := hk 25 rfl; simp only [execOp, resolve, List.map_toArray, List.map_cons, List.map_nil, Option.map_some, Option.map_none, e24, e25]; clear e24 e25 hk; go_simp; exact hK)
        refine wpG_call _ _ Try.func19 (by kernel_rfl) (by kernel_rfl) (fun W hW => RT.out W (hr2.out.below (hl4.trans hW))) (fun a w hk => by have e23 : a.eval (.tmp 23) = _ := hk 23 rfl; have e26 : a.eval (.tmp 26) = _ := hk 26 rfl; simp [e23, e26]) ?_
        refine wpG_buildS Try.underlying22 (by unfold StrT; kernel_rfl) (fun a w hk => hk 27 rfl) ?_
        refine wpG_nil (fun w4' hl4' => ?_)
        refine fin_is ?_
        refine fin_is ?_
        refine fin_is ?_
        refine fin_is ?_
        refine fin_is ?_
        refine fin_some (fun v22 hv22 => ?_)
        refine fin_is ?_
        refine fin_is ?_
        refine fin_is ?_
        refine fin_is ?_
        refine fin_is ?_
        refine fin_some (fun v28 hv28 => ?_)
        refine fin_nil ?_
        obtain ⟨g28, rfl, hw28⟩ := hv28
        refine wl_appendS Try.underlying22 (by unfold StrT; kernel_rfl) hv22 hw28 (by omega) hl4'.size (by simp [eval_put, put_size, ks]) (by simp [eval_put, put_size, ks]) (fun v' w5 ho5 hg5 => ?_)
        subst ha0
        clear k1 k2 k3 k7 ks
        go_wp2_with (fail)
        go_returns
        go_light
        have hB4 := below_next' (hG ▸ hB1) (hl4.trans hl4')
        have hG4 : w.heap.size ≤ w4.heap.size := Nat.le_trans hGs hl4.size
        have hB5 := below_own hB4 hv22 hG4 hg5
        exact ⟨⟨_, rfl, ho5.base hG4⟩, hG ▸ hB5⟩
      · rw [if_neg hik] at hincl
        have qik : ((i : Int) < k) = False := eq_false (by omega)
        have IC := fun W hW => ih.out (n - k) (by omega) (l.drop k) (some (ad.add k)) (cap - k) (i - k) W hl2 (by omega) (by omega) (by omega) z2 hW
        have RT := fun W hW => RC.out k (l.take k) (some ad) cap W hl1 (by omega) (by omega) z1 hW
        have hlen := inclN_len [] (n - k) (l.drop k) (i - k) hl2
        rw [hincl]
        generalize inclN (l.drop k) (i - k) = il at *
        generalize rootN (l.take k) = x2 at *
        clear ih RC hincl z1 z2 h1000 hr hl1 hl2
        have wik : IntKind.i64.wrap ((i : Int) - k) = ((i - k : Nat) : Int) := by simp [IntKind.wrap, IntKind.signed, IntKind.bits]; omega
        replace IC := Lib.hid IC
        replace RT := Lib.hid RT
        go_enter Try.func62, Try.ntmps62
        go_upto_region 6 with ((with_reducible refine (SP.out _).mono ?_); rintro e w4 ⟨rfl, rfl⟩)
        generalize hG : w.heap.size = G at *
        have hGs := hB1.size
        generalize w.alloc (.cells tb 29) = W1 at *
        refine wp_region_grow 14 45 (by kernel_rfl) (by kernel_rfl) rfl (fun w4 hl4 => ?_)
        simp only [List.take_succ_cons, List.take_zero, List.drop_succ_cons, List.drop_zero]
        generalize ha : Act.mk _ _ = a0
        have k1 : a0.eval (.tmp 1) = .slice (some ad) n cap := by subst ha; rfl
        have k2 : a0.eval (.tmp 2) = .int .i64 (i : Int) := by subst ha; rfl
        have k3 : a0.eval (.tmp 3) = .pointer (some ⟨G, 0, none⟩) := by subst ha; rfl
        have k7 : a0.eval (.tmp 7) = .int .i64 (k : Int) := by subst ha; rfl
        have ks : a0.tmps.size = 45 := by subst ha; rfl
        have ha0 := ha.symm
        clear ha
        refine wpG_loadW (hl4.whole h1) Try.underlying29 rfl (hsz) (fun a w hk => (hk 3 rfl : a.eval (.tmp 3) = a0.eval (.tmp 3)).trans k3) ?_
        refine wpG_move (fun a w hk => (hk 1 rfl : a.eval (.tmp 1) = a0.eval (.tmp 1)).trans k1) ?_
        refine wpG_move (fun a w hk => (hk 7 rfl : a.eval (.tmp 7) = a0.eval (.tmp 7)).trans k7) ?_
        apply wpG_value'
        · rfl
        · (intro a wx hlx hk K hK; have e31 : a.eval (.tmp 31) = _ := hk 31 rfl; have e32 : a.eval (.tmp 32) = _ := hk 32 rfl; simp only [execOp, resolve, List.map_toArray, List.map_cons, List.map_nil, Option.map_some, Option.map_none, e31, e32]; clear e31 e32 hk; go_simp; exact hK)
        refine wpG_move (fun a w hk => (hk 2 rfl : a.eval (.tmp 2) = a0.eval (.tmp 2)).trans k2) ?_
        refine wpG_move (fun a w hk => (hk 7 rfl : a.eval (.tmp 7) = a0.eval (.tmp 7)).trans k7) ?_
        apply wpG_value'
        · rfl
        · (intro a wx hlx hk K hK; have e34 : a.eval (.tmp 34) = _ := hk 34 rfl; have e35 : a.eval (.tmp 35) = _ := hk 35 rfl; simp only [execOp, e34, e35]; clear e34 e35 hk; go_simp; exact hK)
        refine wpG_callF (TextRow 9 w4.heap.size il) (TextRow.later) Try.func62 (by kernel_rfl) (by kernel_rfl) (fun a wx hlx hk => by have e30 : a.eval (.tmp 30) = _ := hk 30 rfl; have e33 : a.eval (.tmp 33) = _ := hk 33 rfl; have e36 : a.eval (.tmp 36) = _ := hk 36 rfl; simp only [List.map_toArray, List.map_cons, List.map_nil, e30, e33, e36]; exact ((IC.out wx (hr2.out.below (hl4.trans hlx))).mono fun e w' hh => by obtain ⟨⟨v, he, hv⟩, hb⟩ := hh; exact ⟨v, he, TextRow.base hv hlx.size, hb⟩)) ?_
        refine wpG_loadW (hl4.whole h1) Try.underlying29 rfl (hsz) (fun a w hk => (hk 3 rfl : a.eval (.tmp 3) = a0.eval (.tmp 3)).trans k3) ?_
        refine wpG_move (fun a w hk => (hk 1 rfl : a.eval (.tmp 1) = a0.eval (.tmp 1)).trans k1) ?_
        refine wpG_move (fun a w hk => (hk 7 rfl : a.eval (.tmp 7) = a0.eval (.tmp 7)).trans k7) ?_
        apply wpG_value'
        · rfl
        · (intro a wx hlx hk K hK; have e39 : a.eval (.tmp 39) = _ := hk 39 rfl; have e40 : a.eval (.tmp 40) = _ := hk 40 rfl; simp only [execOp, resolve, List.map_toArray, List.map_cons, List.map_nil, Option.map_some, Option.map_none, e39, e40]; clear e39 e40 hk; go_simp; exact hK)
        refine wpG_call _ _ Try.func19 (by kernel_rfl) (by kernel_rfl) (fun W hW => RT.out W (hr1.out.below (hl4.trans hW))) (fun a w hk => by have e38 : a.eval (.tmp 38) = _ := hk 38 rfl; have e41 : a.eval (.tmp 41) = _ := hk 41 rfl; simp [e38, e41]) ?_
        refine wpG_buildS Try.underlying22 (by unfold StrT; kernel_rfl) (fun a w hk => hk 42 rfl) ?_
        refine wpG_nil (fun w4' hl4' => ?_)
        refine fin_is ?_
        refine fin_is ?_
        refine fin_is ?_
        refine fin_is ?_
        refine fin_is ?_
        refine fin_is ?_
        refine fin_is ?_
        refine fin_some (fun v37 hv37 => ?_)
        refine fin_is ?_
        refine fin_is ?_
        refine fin_is ?_
        refine fin_is ?_
        refine fin_is ?_
        refine fin_some (fun v43 hv43 => ?_)
        refine fin_nil ?_
        obtain ⟨g28, rfl, hw28⟩ := hv43
        refine wl_appendS Try.underlying22 (by unfold StrT; kernel_rfl) hv37 hw28 (by omega) hl4'.size (by simp [eval_put, put_size, ks]) (by simp [eval_put, put_size, ks]) (fun v' w5 ho5 hg5 => ?_)
        subst ha0
        clear k1 k2 k3 k7 ks
        go_wp2_with (fail)
        go_returns
        go_light
        have hB4 := below_next' (hG ▸ hB1) (hl4.trans hl4')
        have hG4 : w.heap.size ≤ w4.heap.size := Nat.le_trans hGs hl4.size
        have hB5 := below_own hB4 hv37 hG4 hg5
        exact ⟨⟨_, rfl, ho5.base hG4⟩, hG ▸ hB5⟩
end Go.Proofs.Ytfkafejoacpclaa
