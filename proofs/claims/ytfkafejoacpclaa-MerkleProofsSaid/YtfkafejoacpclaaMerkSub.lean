/- The program's tree: the first ones' proof. Conditions: texts of at most 1000 bytes, at most 2^20 of them. -/
import Derived.Test.YtfkafejoacpclaaMerkIncl
import Derived.Test.YtfkafejoacpclaaMerkCons
namespace Go.Proofs.Ytfkafejoacpclaa
open Go.RowKit
set_option linter.unusedVariables false
set_option linter.unusedSimpArgs false
theorem consN_len : ∀ (n : Nat) (l : List ByteArray) (m : Nat) (whole : Bool), l.length = n → 1 ≤ n → (consN l m whole).length ≤ n := by
  intro n
  induction n using Nat.strongRecOn with
  | _ n ih =>
    intro l m whole hl h1
    rw [consN]
    split
    · split
      · simp
      · simpa using h1
    · split
      · simp
      · obtain ⟨h2, h3⟩ := sp_lt (n := l.length) (by omega)
        split
        · have := ih (sp l.length) (by omega) (l.take (sp l.length)) m whole (by rw [List.length_take]; omega) h2
          rw [List.length_append, List.length_singleton]
          omega
        · have := ih (l.length - sp l.length) (by omega) (l.drop (sp l.length)) (m - sp l.length) false (by rw [List.length_drop]) (by omega)
          rw [List.length_append, List.length_singleton]
          omega
theorem textRow_one {e : TypeId} {base g : Nat} {s : ByteArray} {w : World} (h : Whole w g e #[.string s]) (hb : base ≤ g) : TextRow e base [s] (.slice (some ⟨g, 0, none⟩) 1 1) w :=
  ⟨rfl, .inr ⟨g, 1, #[.string s], rfl, hb, h, Nat.le_refl 1, by unfold maxLen; omega, rfl, rfl⟩⟩
set_option maxHeartbeats 2000000 in
set_option maxRecDepth 100000 in
theorem sub_calls : ∀ (n : Nat) (l : List ByteArray) (A : Option Addr) (cap m : Nat) (whole : Bool) (w : World), l.length = n → 1 ≤ m → m ≤ n → n ≤ 1048575 → n ≤ cap → (∀ x ∈ l, x.size ≤ 1000) → Kn.str.Rows w A l →
    Calls Try.prog 66 #[.agg (arr .u32 (K64 ++ H8.L)), .slice A n cap, .int .i64 m, .bool whole] w fun e w' => (∃ v, e = .returned v ∧ TextRow 9 w.heap.size (consN l m whole) v w') ∧ Below w.heap.size w w' := by
  intro n
  induction n using Nat.strongRecOn with
  | _ n ih =>
    intro l A cap m whole w hn hm1 hmn hn20 hcap h1000 hr
    have hsz : (Try.prog.info? 29).map (·.size) = some (arr .u32 (K64 ++ H8.L)).size := by kernel_rfl
    have RC := fun (m : Nat) (l' : List ByteArray) (A' : Option Addr) (c' : Nat) (w' : World) h1 h2 h3 h4 h5 => root_calls m l' A' c' w' h1 h2 h3 h4 h5
    generalize arr .u32 (K64 ++ H8.L) = tb at *
    have h1 := Whole.new w 29 tb
    have hB1 : Below w.heap.size w (w.alloc (.cells tb 29)) := by go_grown
    replace RC := Lib.hid RC
    replace ih := Lib.hid ih
    by_cases h1' : m = n
    · have q1 : ((m : Int) == n) = true := by rw [beq_iff_eq]; omega
      cases whole
      · have e : consN l m false = [rootN l] := by rw [consN, if_pos (by omega)]; rfl
        rw [e]
        have RT := fun W hW => RC.out n l A cap W hn (by omega) hcap h1000 hW
        generalize rootN l = X at *
        clear ih RC e
        replace RT := Lib.hid RT
        replace hr := Lib.hid (hr.below hB1)
        subst h1'
        go_enter Try.func66, Try.ntmps66
        go_wp2_with (first | ((with_reducible apply wl_loadW (ty := 29) h1 Try.underlying29); rfl; rfl; rfl; exact hsz) | ((with_reducible refine (RT.out _ hr.out).mono ?_); rintro e w2 ⟨rfl, hb2⟩; replace hB1 := below_next' hB1 hb2))
        go_returns
        go_light
        exact ⟨⟨_, rfl, textRow_one (Whole.new _ _ _) hB1.size⟩, hB1.alloc hB1.size _⟩
      · have e : consN l m true = [] := by rw [consN, if_pos (by omega)]; rfl
        rw [e]
        clear ih hr RC e
        have ho : TextRow 9 w.heap.size [] (.slice none 0 0) (w.alloc (.cells tb 29)) := World.ownsRow_nil _ _ _ _
        subst h1'
        go_enter Try.func66, Try.ntmps66
        go_wp2_with (fail)
        go_returns
        go_light
        exact ⟨⟨_, rfl, ho⟩, hB1⟩
    · have q1 : ((m : Int) == n) = false := by rw [beq_eq_false_iff_ne]; omega
      obtain ⟨k1, k2⟩ := sp_lt (n := n) (by omega)
      have SP := fun w => split_calls n (by omega) w
      have hincl : consN l m whole = if m ≤ sp n then consN (l.take (sp n)) m whole ++ [rootN (l.drop (sp n))] else consN (l.drop (sp n)) (m - sp n) false ++ [rootN (l.take (sp n))] := by
        conv => lhs; rw [consN]
        rw [if_neg (by omega), dif_neg (by omega), hn]
      obtain ⟨ad, rfl, -, -⟩ := Kn.Rows.one_ hr (k := 0) (by omega)
      generalize sp n = k at *
      have hr1 := rows_take hr k
      have hr2 := rows_drop hr (k := k) (by omega)
      have z1 : ∀ x ∈ l.take k, x.size ≤ 1000 := fun x hx => h1000 x (List.mem_of_mem_take hx)
      have z2 : ∀ x ∈ l.drop k, x.size ≤ 1000 := fun x hx => h1000 x (List.mem_of_mem_drop hx)
      have hl1 : (l.take k).length = k := by rw [List.length_take]; omega
      have hl2 : (l.drop k).length = n - k := by rw [List.length_drop]; omega
      have b1 : ((k : Int) ≤ cap) = True := eq_true (by omega)
      have b2 : ((k : Int) ≤ n) = True := eq_true (by omega)
      have b3 : ((n : Int) ≤ cap) = True := eq_true (by omega)
      have hck : ¬ cap = k := by omega
      have hck' : (cap = k) = False := eq_false hck
      have hck2 : ¬ ((cap : Int) = (k : Int)) := by omega
      replace hr1 := Lib.hid (hr1.below hB1)
      replace hr2 := Lib.hid (hr2.below hB1)
      replace SP := Lib.hid SP
      by_cases hik : m ≤ k
      · rw [if_pos hik] at hincl
        have qik : ((m : Int) ≤ k) = True := eq_true (by omega)
        have IC := fun W hW => ih.out k k2 (l.take k) (some ad) cap m whole W hl1 hm1 hik (by omega) (by omega) z1 hW
        have RT := fun W hW => RC.out (n - k) (l.drop k) (some (ad.add k)) (cap - k) W hl2 (by omega) (by omega) z2 hW
        have hlen := consN_len k (l.take k) m whole hl1 k1
        rw [hincl]
        generalize consN (l.take k) m whole = il at *
        generalize rootN (l.drop k) = x2 at *
        clear ih RC hincl z1 z2 h1000 hr hl1 hl2
        replace IC := Lib.hid IC
        replace RT := Lib.hid RT
        go_enter Try.func66, Try.ntmps66
        go_upto_region 7 with ((with_reducible refine (SP.out _).mono ?_); rintro e w4 ⟨rfl, rfl⟩)
        generalize hG : w.heap.size = G at *
        have hGs := hB1.size
        generalize w.alloc (.cells tb 29) = W1 at *
        refine wp_region_grow 13 54 (by kernel_rfl) (by kernel_rfl) rfl (fun w4 hl4 => ?_)
        simp only [List.take_succ_cons, List.take_zero, List.drop_succ_cons, List.drop_zero]
        generalize ha : Act.mk _ _ = a0
        have k1 : a0.eval (.tmp 1) = .slice (some ad) n cap := by subst ha; rfl
        have k2 : a0.eval (.tmp 2) = .int .i64 (m : Int) := by subst ha; rfl
        have k3 : a0.eval (.tmp 3) = .bool whole := by subst ha; rfl
        have k4 : a0.eval (.tmp 4) = .pointer (some ⟨G, 0, none⟩) := by subst ha; rfl
        have k9 : a0.eval (.tmp 9) = .int .i64 (k : Int) := by subst ha; rfl
        have ks : a0.tmps.size = 54 := by subst ha; rfl
        have ha0 := ha.symm
        clear ha
        refine wpG_loadW (hl4.whole h1) Try.underlying29 rfl (hsz) (fun a w hk => (hk 4 rfl : a.eval (.tmp 4) = a0.eval (.tmp 4)).trans k4) ?_
        refine wpG_move (fun a w hk => (hk 1 rfl : a.eval (.tmp 1) = a0.eval (.tmp 1)).trans k1) ?_
        refine wpG_move (fun a w hk => (hk 9 rfl : a.eval (.tmp 9) = a0.eval (.tmp 9)).trans k9) ?_
        apply wpG_value'
        · rfl
        · (intro a wx hlx hk K hK; have e26 : a.eval (.tmp 26) = _ := hk 26 rfl; have e27 : a.eval (.tmp 27) = _ := hk 27 rfl; simp only [execOp, resolve, List.map_toArray, List.map_cons, List.map_nil, Option.map_some, Option.map_none, e26, e27]; clear e26 e27 hk; go_simp; exact hK)
        refine wpG_move (fun a w hk => (hk 2 rfl : a.eval (.tmp 2) = a0.eval (.tmp 2)).trans k2) ?_
        refine wpG_move (fun a w hk => (hk 3 rfl : a.eval (.tmp 3) = a0.eval (.tmp 3)).trans k3) ?_
        refine wpG_callF (TextRow 9 w4.heap.size il) (TextRow.later) Try.func66 (by kernel_rfl) (by kernel_rfl) (fun a wx hlx hk => by have e25 : a.eval (.tmp 25) = _ := hk 25 rfl; have e28 : a.eval (.tmp 28) = _ := hk 28 rfl; have e29 : a.eval (.tmp 29) = _ := hk 29 rfl; have e30 : a.eval (.tmp 30) = _ := hk 30 rfl; simp only [List.map_toArray, List.map_cons, List.map_nil, e25, e28, e29, e30]; exact ((IC.out wx (hr1.out.below (hl4.trans hlx))).mono fun e w' hh => by obtain ⟨⟨v, he, hv⟩, hb⟩ := hh; exact ⟨v, he, TextRow.base hv hlx.size, hb⟩)) ?_
        refine wpG_loadW (hl4.whole h1) Try.underlying29 rfl (hsz) (fun a w hk => (hk 4 rfl : a.eval (.tmp 4) = a0.eval (.tmp 4)).trans k4) ?_
        refine wpG_move (fun a w hk => (hk 1 rfl : a.eval (.tmp 1) = a0.eval (.tmp 1)).trans k1) ?_
        refine wpG_move (fun a w hk => (hk 9 rfl : a.eval (.tmp 9) = a0.eval (.tmp 9)).trans k9) ?_
        apply wpG_value'
        · rfl
        · (intro a wx hlx hk K hK; have e33 : a.eval (.tmp 33) = _ := hk 33 rfl; have e34 : a.eval (.tmp 34) = _ := hk 34 rfl; simp only [execOp, resolve, List.map_toArray, List.map_cons, List.map_nil, Option.map_some, Option.map_none, e33, e34]; clear e33 e34 hk; go_simp; exact hK)
        refine wpG_call _ _ Try.func19 (by kernel_rfl) (by kernel_rfl) (fun W hW => RT.out W (hr2.out.below (hl4.trans hW))) (fun a w hk => by have e32 : a.eval (.tmp 32) = _ := hk 32 rfl; have e35 : a.eval (.tmp 35) = _ := hk 35 rfl; simp [e32, e35]) ?_
        refine wpG_buildS Try.underlying22 (by unfold StrT; kernel_rfl) (fun a w hk => hk 36 rfl) ?_
        refine wpG_nil (fun w4' hl4' => ?_)
        refine fin_is ?_
        refine fin_is ?_
        refine fin_is ?_
        refine fin_is ?_
        refine fin_is ?_
        refine fin_is ?_
        refine fin_some (fun v31 hv31 => ?_)
        refine fin_is ?_
        refine fin_is ?_
        refine fin_is ?_
        refine fin_is ?_
        refine fin_is ?_
        refine fin_some (fun v37 hv37 => ?_)
        refine fin_nil ?_
        obtain ⟨g28, rfl, hw28⟩ := hv37
        refine wl_appendS Try.underlying22 (by unfold StrT; kernel_rfl) hv31 hw28 (by omega) hl4'.size (by simp [eval_put, put_size, ks]) (by simp [eval_put, put_size, ks]) (fun v' w5 ho5 hg5 => ?_)
        subst ha0
        clear k1 k2 k3 k4 k9 ks
        go_wp2_with (fail)
        go_returns
        go_light
        have hB4 := below_next' (hG ▸ hB1) (hl4.trans hl4')
        have hG4 : w.heap.size ≤ w4.heap.size := Nat.le_trans hGs hl4.size
        have hB5 := below_own hB4 hv31 hG4 hg5
        exact ⟨⟨_, rfl, ho5.base hG4⟩, hG ▸ hB5⟩
      · rw [if_neg hik] at hincl
        have qik : ((m : Int) ≤ k) = False := eq_false (by omega)
        have IC := fun W hW => ih.out (n - k) (by omega) (l.drop k) (some (ad.add k)) (cap - k) (m - k) false W hl2 (by omega) (by omega) (by omega) (by omega) z2 hW
        have RT := fun W hW => RC.out k (l.take k) (some ad) cap W hl1 (by omega) (by omega) z1 hW
        have hlen := consN_len (n - k) (l.drop k) (m - k) false hl2 (by omega)
        rw [hincl]
        generalize consN (l.drop k) (m - k) false = il at *
        generalize rootN (l.take k) = x2 at *
        have wik : IntKind.i64.wrap ((m : Int) - k) = ((m - k : Nat) : Int) := by simp [IntKind.wrap, IntKind.signed, IntKind.bits]; omega
        clear ih RC hincl z1 z2 h1000 hr hl1 hl2
        replace IC := Lib.hid IC
        replace RT := Lib.hid RT
        go_enter Try.func66, Try.ntmps66
        go_upto_region 8 with ((with_reducible refine (SP.out _).mono ?_); rintro e w4 ⟨rfl, rfl⟩)
        generalize hG : w.heap.size = G at *
        have hGs := hB1.size
        generalize w.alloc (.cells tb 29) = W1 at *
        refine wp_region_grow 14 54 (by kernel_rfl) (by kernel_rfl) rfl (fun w4 hl4 => ?_)
        simp only [List.take_succ_cons, List.take_zero, List.drop_succ_cons, List.drop_zero]
        generalize ha : Act.mk _ _ = a0
        have k1 : a0.eval (.tmp 1) = .slice (some ad) n cap := by subst ha; rfl
        have k2 : a0.eval (.tmp 2) = .int .i64 (m : Int) := by subst ha; rfl
        have k4 : a0.eval (.tmp 4) = .pointer (some ⟨G, 0, none⟩) := by subst ha; rfl
        have k9 : a0.eval (.tmp 9) = .int .i64 (k : Int) := by subst ha; rfl
        have ks : a0.tmps.size = 54 := by subst ha; rfl
        have ha0 := ha.symm
        clear ha
        refine wpG_loadW (hl4.whole h1) Try.underlying29 rfl (hsz) (fun a w hk => (hk 4 rfl : a.eval (.tmp 4) = a0.eval (.tmp 4)).trans k4) ?_
        refine wpG_move (fun a w hk => (hk 1 rfl : a.eval (.tmp 1) = a0.eval (.tmp 1)).trans k1) ?_
        refine wpG_move (fun a w hk => (hk 9 rfl : a.eval (.tmp 9) = a0.eval (.tmp 9)).trans k9) ?_
        apply wpG_value'
        · rfl
        · (intro a wx hlx hk K hK; have e40 : a.eval (.tmp 40) = _ := hk 40 rfl; have e41 : a.eval (.tmp 41) = _ := hk 41 rfl; simp only [execOp, resolve, List.map_toArray, List.map_cons, List.map_nil, Option.map_some, Option.map_none, e40, e41]; clear e40 e41 hk; go_simp; exact hK)
        refine wpG_move (fun a w hk => (hk 2 rfl : a.eval (.tmp 2) = a0.eval (.tmp 2)).trans k2) ?_
        refine wpG_move (fun a w hk => (hk 9 rfl : a.eval (.tmp 9) = a0.eval (.tmp 9)).trans k9) ?_
        apply wpG_value'
        · rfl
        · (intro a wx hlx hk K hK; have e43 : a.eval (.tmp 43) = _ := hk 43 rfl; have e44 : a.eval (.tmp 44) = _ := hk 44 rfl; simp only [execOp, e43, e44]; clear e43 e44 hk; go_simp; exact hK)
        refine wpG_callF (TextRow 9 w4.heap.size il) (TextRow.later) Try.func66 (by kernel_rfl) (by kernel_rfl) (fun a wx hlx hk => by have e39 : a.eval (.tmp 39) = _ := hk 39 rfl; have e42 : a.eval (.tmp 42) = _ := hk 42 rfl; have e45 : a.eval (.tmp 45) = _ := hk 45 rfl; simp only [List.map_toArray, List.map_cons, List.map_nil, e39, e42, e45]; exact ((IC.out wx (hr2.out.below (hl4.trans hlx))).mono fun e w' hh => by obtain ⟨⟨v, he, hv⟩, hb⟩ := hh; exact ⟨v, he, TextRow.base hv hlx.size, hb⟩)) ?_
        refine wpG_loadW (hl4.whole h1) Try.underlying29 rfl (hsz) (fun a w hk => (hk 4 rfl : a.eval (.tmp 4) = a0.eval (.tmp 4)).trans k4) ?_
        refine wpG_move (fun a w hk => (hk 1 rfl : a.eval (.tmp 1) = a0.eval (.tmp 1)).trans k1) ?_
        refine wpG_move (fun a w hk => (hk 9 rfl : a.eval (.tmp 9) = a0.eval (.tmp 9)).trans k9) ?_
        apply wpG_value'
        · rfl
        · (intro a wx hlx hk K hK; have e48 : a.eval (.tmp 48) = _ := hk 48 rfl; have e49 : a.eval (.tmp 49) = _ := hk 49 rfl; simp only [execOp, resolve, List.map_toArray, List.map_cons, List.map_nil, Option.map_some, Option.map_none, e48, e49]; clear e48 e49 hk; go_simp; exact hK)
        refine wpG_call _ _ Try.func19 (by kernel_rfl) (by kernel_rfl) (fun W hW => RT.out W (hr1.out.below (hl4.trans hW))) (fun a w hk => by have e47 : a.eval (.tmp 47) = _ := hk 47 rfl; have e50 : a.eval (.tmp 50) = _ := hk 50 rfl; simp [e47, e50]) ?_
        refine wpG_buildS Try.underlying22 (by unfold StrT; kernel_rfl) (fun a w hk => hk 51 rfl) ?_
        refine wpG_nil (fun w4' hl4' => ?_)
        refine fin_is ?_
        refine fin_is ?_
        refine fin_is ?_
        refine fin_is ?_
        refine fin_is ?_
        refine fin_is ?_
        refine fin_is ?_
        refine fin_some (fun v46 hv46 => ?_)
        refine fin_is ?_
        refine fin_is ?_
        refine fin_is ?_
        refine fin_is ?_
        refine fin_is ?_
        refine fin_some (fun v52 hv52 => ?_)
        refine fin_nil ?_
        obtain ⟨g28, rfl, hw28⟩ := hv52
        refine wl_appendS Try.underlying22 (by unfold StrT; kernel_rfl) hv46 hw28 (by omega) hl4'.size (by simp [eval_put, put_size, ks]) (by simp [eval_put, put_size, ks]) (fun v' w5 ho5 hg5 => ?_)
        subst ha0
        clear k1 k2 k4 k9 ks
        go_wp2_with (fail)
        go_returns
        go_light
        have hB4 := below_next' (hG ▸ hB1) (hl4.trans hl4')
        have hG4 : w.heap.size ≤ w4.heap.size := Nat.le_trans hGs hl4.size
        have hB5 := below_own hB4 hv46 hG4 hg5
        exact ⟨⟨_, rfl, ho5.base hG4⟩, hG ▸ hB5⟩
end Go.Proofs.Ytfkafejoacpclaa
