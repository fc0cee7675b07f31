/- The reference's tree: proofs. Conditions: texts of at most 1000 bytes, at most 64 of them. -/
import Derived.Test.YtfkafejoacpclaaMerkRef2
namespace Go.Proofs.Ytfkafejoacpclaa
open Go.RowKit
set_option linter.unusedVariables false
set_option linter.unusedSimpArgs false
set_option maxHeartbeats 2000000 in
set_option maxRecDepth 100000 in
theorem refIncl_calls : ∀ (n : Nat) (l : List ByteArray) (A : Option Addr) (cap i : Nat) (w : World), l.length = n → i < n → n < 65 → n ≤ cap → (∀ x ∈ l, x.size ≤ 1000) → Kn.str.Rows w A l →
    Calls Try.prog 31 #[.slice A n cap, .int .i64 i] w fun e w' => (∃ v, e = .returned v ∧ TextRow 9 w.heap.size (inclN l i) v w') ∧ Below w.heap.size w w' := by
  intro n
  induction n using Nat.strongRecOn with
  | _ n ih =>
    intro l A cap i w hn hi hn20 hcap h1000 hr
    have RC := fun (m : Nat) (l' : List ByteArray) (A' : Option Addr) (c' : Nat) (w' : World) h1 h2 h3 h4 h5 => refRoot_calls m l' A' c' w' h1 h2 h3 h4 h5
    replace RC := Lib.hid RC
    replace ih := Lib.hid ih
    by_cases h1' : n = 1
    · have q1 : ((n : Int) == 1) = true := by rw [beq_iff_eq]; omega
      have e : inclN l i = [] := by rw [inclN, dif_pos (by omega)]
      rw [e]
      clear ih hr RC e
      have ho : TextRow 9 w.heap.size [] (.slice none 0 0) w := World.ownsRow_nil _ _ _ _
      subst h1'
      go_enter Try.func31, Try.ntmps31
      go_wp2_with (fail)
      go_returns
      go_light
      exact ⟨⟨_, rfl, ho⟩, Later.refl _⟩
    · have q1 : ((n : Int) == 1) = false := by rw [beq_eq_false_iff_ne]; omega
      obtain ⟨k1, k2⟩ := sp_lt (n := n) (by omega)
      have SP := fun w => half_calls n (by omega) hn20 w
      have hincl : inclN l i = if i < sp n then inclN (l.take (sp n)) i ++ [rootN (l.drop (sp n))] else inclN (l.drop (sp n)) (i - sp n) ++ [rootN (l.take (sp n))] := by
        conv => lhs; rw [inclN]
        rw [dif_neg (by omega), hn]
      obtain ⟨ad, rfl, -, -⟩ := Kn.Rows.one_ hr (k := 0) (by omega)
      generalize sp n = k at *
      have hr1 := rows_take hr k
      have hr2 := rows_drop hr (k := k) (by omega)
      have z1 : ∀ x ∈ l.take k, x.size ≤ 1000 := fun x hx => h1000 x (List.mem_of_mem_take hx)
      have z2 : ∀ x ∈ l.drop k, x.size ≤ 1000 := fun x hx => h1000 x (List.mem_of_mem_drop hx)
      have hl1 : (l.take k).length = k := by rw [List.length_take]; omega
      have hl2 : (l.drop k).length = n - k := by rw [List.length_drop]; omega
      have b1 : ((k : Int) ≤ cap) = True := eq_true (by omega)
      have b2 : ((k : Int) ≤ n) = True := eq_true (by omega)
      have b3 : ((n : Int) ≤ cap) = True := eq_true (by omega)
      have hck : ¬ cap = k := by omega
      have hck' : (cap = k) = False := eq_false hck
      have hck2 : ¬ ((cap : Int) = (k : Int)) := by omega
      replace hr1 := Lib.hid hr1
      replace hr2 := Lib.hid hr2
      replace SP := Lib.hid SP
      by_cases hik : i < k
      · rw [if_pos hik] at hincl
        have qik : ((i : Int) < k) = True := eq_true (by omega)
        have IC := fun W hW => ih.out k k2 (l.take k) (some ad) cap i W hl1 hik (by omega) (by omega) z1 hW
        have RT := fun W hW => RC.out (n - k) (l.drop k) (some (ad.add k)) (cap - k) W hl2 (by omega) (by omega) z2 hW
        have hlen := inclN_len [] k (l.take k) i hl1
        rw [hincl]
        generalize inclN (l.take k) i = il at *
        generalize rootN (l.drop k) = x2 at *
        clear ih RC hincl z1 z2 h1000 hr hl1 hl2
        replace IC := Lib.hid IC
        replace RT := Lib.hid RT
        go_enter Try.func31, Try.ntmps31
        go_upto_region 5 with ((with_reducible refine (SP.out _).mono ?_); rintro e w4 ⟨rfl, hw⟩; obtain rfl := hw.symm)
        refine wp_region_grow 10 39 (by kernel_rfl) (by kernel_rfl) rfl (fun w5 hl5 => ?_)
        simp only [List.take_succ_cons, List.take_zero, List.drop_succ_cons, List.drop_zero]
        generalize ha : Act.mk _ _ = a0
        have k0 : a0.eval (.tmp 0) = .slice (some ad) n cap := by subst ha; rfl
        have k1 : a0.eval (.tmp 1) = .int .i64 (i : Int) := by subst ha; rfl
        have k5 : a0.eval (.tmp 5) = .int .i64 (k : Int) := by subst ha; rfl
        have ks : a0.tmps.size = 39 := by subst ha; rfl
        have ha0 := ha.symm
        clear ha
        refine wpG_move (fun a w hk => (hk 0 rfl : a.eval (.tmp 0) = a0.eval (.tmp 0)).trans k0) ?_
        refine wpG_move (fun a w hk => (hk 5 rfl : a.eval (.tmp 5) = a0.eval (.tmp 5)).trans k5) ?_
        apply wpG_value'
        · rfl
        · (intro a wx hlx hk K hK; have e15 : a.eval (.tmp 15) = _ := hk 15 rfl; have e16 : a.eval (.tmp 16) = _ := hk 16 rfl; simp only [execOp, resolve, List.map_toArray, List.map_cons, List.map_nil, Option.map_some, Option.map_none, e15, e16]; clear e15 e16 hk; go_simp; exact hK)
        refine wpG_move (fun a w hk => (hk 1 rfl : a.eval (.tmp 1) = a0.eval (.tmp 1)).trans k1) ?_
        refine wpG_callF (TextRow 9 w5.heap.size il) (TextRow.later) Try.func31 (by kernel_rfl) (by kernel_rfl) (fun a wx hlx hk => by have e17 : a.eval (.tmp 17) = _ := hk 17 rfl; have e18 : a.eval (.tmp 18) = _ := hk 18 rfl; simp only [List.map_toArray, List.map_cons, List.map_nil, e17, e18]; exact ((IC.out wx (hr1.out.below (hl5.trans hlx))).mono fun e w' hh => by obtain ⟨⟨v, he, hv⟩, hb⟩ := hh; exact ⟨v, he, TextRow.base hv hlx.size, hb⟩)) ?_
        refine wpG_move (fun a w hk => (hk 0 rfl : a.eval (.tmp 0) = a0.eval (.tmp 0)).trans k0) ?_
        refine wpG_move (fun a w hk => (hk 5 rfl : a.eval (.tmp 5) = a0.eval (.tmp 5)).trans k5) ?_
        apply wpG_value'
        · rfl
        · (intro a wx hlx hk K hK; have e20 : a.eval (.tmp 20) = _ := hk 20 rfl; have e21 : a.eval (.tmp 21) = _ := hk 21 rfl; simp only [execOp, resolve, List.map_toArray, List.map_cons, List.map_nil, Option.map_some, Option.map_none, e20, e21]; clear e20 e21 hk; go_simp; exact hK)
        refine wpG_call _ _ Try.func29 (by kernel_rfl) (by kernel_rfl) (fun W hW => RT.out W (hr2.out.below (hl5.trans hW))) (fun a w hk => by have e22 : a.eval (.tmp 22) = _ := hk 22 rfl; simp [e22]) ?_
        refine wpG_buildS Try.underlying22 (by unfold StrT; kernel_rfl) (fun a w hk => hk 23 rfl) ?_
        refine wpG_nil (fun w5' hl5' => ?_)
        refine fin_is ?_
        refine fin_is ?_
        refine fin_is ?_
        refine fin_is ?_
        refine fin_some (fun v19 hv19 => ?_)
        refine fin_is ?_
        refine fin_is ?_
        refine fin_is ?_
        refine fin_is ?_
        refine fin_some (fun v24 hv24 => ?_)
        refine fin_nil ?_
        obtain ⟨g28, rfl, hw28⟩ := hv24
        refine wl_appendS Try.underlying22 (by unfold StrT; kernel_rfl) hv19 hw28 (by omega) hl5'.size (by simp [eval_put, put_size, ks]) (by simp [eval_put, put_size, ks]) (fun v' w6 ho6 hg6 => ?_)
        subst ha0
        clear k0 k1 k5 ks
        go_wp2_with (fail)
        go_returns
        go_light
        have hB5 := hl5.trans hl5'
        have hB6 := below_own hB5 hv19 hl5.size hg6
        exact ⟨⟨_, rfl, ho6.base hl5.size⟩, hB6⟩
      · rw [if_neg hik] at hincl
        have qik : ((i : Int) < k) = False := eq_false (by omega)
        have IC := fun W hW => ih.out (n - k) (by omega) (l.drop k) (some (ad.add k)) (cap - k) (i - k) W hl2 (by omega) (by omega) (by omega) z2 hW
        have RT := fun W hW => RC.out k (l.take k) (some ad) cap W hl1 (by omega) (by omega) z1 hW
        have hlen := inclN_len [] (n - k) (l.drop k) (i - k) hl2
        rw [hincl]
        generalize inclN (l.drop k) (i - k) = il at *
        generalize rootN (l.take k) = x2 at *
        clear ih RC hincl z1 z2 h1000 hr hl1 hl2
        have wik : IntKind.i64.wrap ((i : Int) - k) = ((i - k : Nat) : Int) := by simp [IntKind.wrap, IntKind.signed, IntKind.bits]; omega
        replace IC := Lib.hid IC
        replace RT := Lib.hid RT
        go_enter Try.func31, Try.ntmps31
        go_upto_region 6 with ((with_reducible refine (SP.out _).mono ?_); rintro e w4 ⟨rfl, hw⟩; obtain rfl := hw.symm)
        refine wp_region_grow 12 39 (by kernel_rfl) (by kernel_rfl) rfl (fun w5 hl5 => ?_)
        simp only [List.take_succ_cons, List.take_zero, List.drop_succ_cons, List.drop_zero]
        generalize ha : Act.mk _ _ = a0
        have k0 : a0.eval (.tmp 0) = .slice (some ad) n cap := by subst ha; rfl
        have k1 : a0.eval (.tmp 1) = .int .i64 (i : Int) := by subst ha; rfl
        have k5 : a0.eval (.tmp 5) = .int .i64 (k : Int) := by subst ha; rfl
        have ks : a0.tmps.size = 39 := by subst ha; rfl
        have ha0 := ha.symm
        clear ha
        refine wpG_move (fun a w hk => (hk 0 rfl : a.eval (.tmp 0) = a0.eval (.tmp 0)).trans k0) ?_
        refine wpG_move (fun a w hk => (hk 5 rfl : a.eval (.tmp 5) = a0.eval (.tmp 5)).trans k5) ?_
        apply wpG_value'
        · rfl
        · (intro a wx hlx hk K hK; have e26 : a.eval (.tmp 26) = _ := hk 26 rfl; have e27 : a.eval (.tmp 27) = _ := hk 27 rfl; simp only [execOp, resolve, List.map_toArray, List.map_cons, List.map_nil, Option.map_some, Option.map_none, e26, e27]; clear e26 e27 hk; go_simp; exact hK)
        refine wpG_move (fun a w hk => (hk 1 rfl : a.eval (.tmp 1) = a0.eval (.tmp 1)).trans k1) ?_
        refine wpG_move (fun a w hk => (hk 5 rfl : a.eval (.tmp 5) = a0.eval (.tmp 5)).trans k5) ?_
        apply wpG_value'
        · rfl
        · (intro a wx hlx hk K hK; have e29 : a.eval (.tmp 29) = _ := hk 29 rfl; have e30 : a.eval (.tmp 30) = _ := hk 30 rfl; simp only [execOp, e29, e30]; clear e29 e30 hk; go_simp; exact hK)
        refine wpG_callF (TextRow 9 w5.heap.size il) (TextRow.later) Try.func31 (by kernel_rfl) (by kernel_rfl) (fun a wx hlx hk => by have e28 : a.eval (.tmp 28) = _ := hk 28 rfl; have e31 : a.eval (.tmp 31) = _ := hk 31 rfl; simp only [List.map_toArray, List.map_cons, List.map_nil, e28, e31]; exact ((IC.out wx (hr2.out.below (hl5.trans hlx))).mono fun e w' hh => by obtain ⟨⟨v, he, hv⟩, hb⟩ := hh; exact ⟨v, he, TextRow.base hv hlx.size, hb⟩)) ?_
        refine wpG_move (fun a w hk => (hk 0 rfl : a.eval (.tmp 0) = a0.eval (.tmp 0)).trans k0) ?_
        refine wpG_move (fun a w hk => (hk 5 rfl : a.eval (.tmp 5) = a0.eval (.tmp 5)).trans k5) ?_
        apply wpG_value'
        · rfl
        · (intro a wx hlx hk K hK; have e33 : a.eval (.tmp 33) = _ := hk 33 rfl; have e34 : a.eval (.tmp 34) = _ := hk 34 rfl; simp only [execOp, resolve, List.map_toArray, List.map_cons, List.map_nil, Option.map_some, Option.map_none, e33, e34]; clear e33 e34 hk; go_simp; exact hK)
        refine wpG_call _ _ Try.func29 (by kernel_rfl) (by kernel_rfl) (fun W hW => RT.out W (hr1.out.below (hl5.trans hW))) (fun a w hk => by have e35 : a.eval (.tmp 35) = _ := hk 35 rfl; simp [e35]) ?_
        refine wpG_buildS Try.underlying22 (by unfold StrT; kernel_rfl) (fun a w hk => hk 36 rfl) ?_
        refine wpG_nil (fun w5' hl5' => ?_)
        refine fin_is ?_
        refine fin_is ?_
        refine fin_is ?_
        refine fin_is ?_
        refine fin_is ?_
        refine fin_is ?_
        refine fin_some (fun v32 hv32 => ?_)
        refine fin_is ?_
        refine fin_is ?_
        refine fin_is ?_
        refine fin_is ?_
        refine fin_some (fun v37 hv37 => ?_)
        refine fin_nil ?_
        obtain ⟨g28, rfl, hw28⟩ := hv37
        refine wl_appendS Try.underlying22 (by unfold StrT; kernel_rfl) hv32 hw28 (by omega) hl5'.size (by simp [eval_put, put_size, ks]) (by simp [eval_put, put_size, ks]) (fun v' w6 ho6 hg6 => ?_)
        subst ha0
        clear k0 k1 k5 ks
        go_wp2_with (fail)
        go_returns
        go_light
        have hB5 := hl5.trans hl5'
        have hB6 := below_own hB5 hv32 hl5.size hg6
        exact ⟨⟨_, rfl, ho6.base hl5.size⟩, hB6⟩
set_option maxHeartbeats 2000000 in
set_option maxRecDepth 100000 in
theorem refCons_calls : ∀ (n : Nat) (l : List ByteArray) (A : Option Addr) (cap m : Nat) (whole : Bool) (w : World), l.length = n → 1 ≤ m → m ≤ n → n < 65 → n ≤ cap → (∀ x ∈ l, x.size ≤ 1000) → Kn.str.Rows w A l →
    Calls Try.prog 32 #[.slice A n cap, .int .i64 m, .bool whole] w fun e w' => (∃ v, e = .returned v ∧ TextRow 9 w.heap.size (consN l m whole) v w') ∧ Below w.heap.size w w' := by
  intro n
  induction n using Nat.strongRecOn with
  | _ n ih =>
    intro l A cap m whole w hn hm1 hmn hn20 hcap h1000 hr
    have RC := fun (m : Nat) (l' : List ByteArray) (A' : Option Addr) (c' : Nat) (w' : World) h1 h2 h3 h4 h5 => refRoot_calls m l' A' c' w' h1 h2 h3 h4 h5
    replace RC := Lib.hid RC
    replace ih := Lib.hid ih
    by_cases h1' : m = n
    · have q1 : ((m : Int) == n) = true := by rw [beq_iff_eq]; omega
      cases whole
      · have e : consN l m false = [rootN l] := by rw [consN, if_pos (by omega)]; rfl
        rw [e]
        have RT := fun W hW => RC.out n l A cap W hn (by omega) hcap h1000 hW
        generalize rootN l = X at *
        clear ih RC e
        replace RT := Lib.hid RT
        replace hr := Lib.hid hr
        subst h1'
        go_enter Try.func32, Try.ntmps32
        go_wp2_with ((with_reducible refine (RT.out _ hr.out).mono ?_); rintro e w2 ⟨rfl, hb2⟩)
        go_returns
        go_light
        exact ⟨⟨_, rfl, textRow_one (Whole.new _ _ _) hb2.size⟩, hb2.alloc hb2.size _⟩
      · have e : consN l m true = [] := by rw [consN, if_pos (by omega)]; rfl
        rw [e]
        clear ih hr RC e
        have ho : TextRow 9 w.heap.size [] (.slice none 0 0) w := World.ownsRow_nil _ _ _ _
        subst h1'
        go_enter Try.func32, Try.ntmps32
        go_wp2_with (fail)
        go_returns
        go_light
        exact ⟨⟨_, rfl, ho⟩, Later.refl _⟩
    · have q1 : ((m : Int) == n) = false := by rw [beq_eq_false_iff_ne]; omega
      obtain ⟨k1, k2⟩ := sp_lt (n := n) (by omega)
      have SP := fun w => half_calls n (by omega) hn20 w
      have hincl : consN l m whole = if m ≤ sp n then consN (l.take (sp n)) m whole ++ [rootN (l.drop (sp n))] else consN (l.drop (sp n)) (m - sp n) false ++ [rootN (l.take (sp n))] := by
        conv => lhs; rw [consN]
        rw [if_neg (by omega), dif_neg (by omega), hn]
      obtain ⟨ad, rfl, -, -⟩ := Kn.Rows.one_ hr (k := 0) (by omega)
      generalize sp n = k at *
      have hr1 := rows_take hr k
      have hr2 := rows_drop hr (k := k) (by omega)
      have z1 : ∀ x ∈ l.take k, x.size ≤ 1000 := fun x hx => h1000 x (List.mem_of_mem_take hx)
      have z2 : ∀ x ∈ l.drop k, x.size ≤ 1000 := fun x hx => h1000 x (List.mem_of_mem_drop hx)
      have hl1 : (l.take k).length = k := by rw [List.length_take]; omega
      have hl2 : (l.drop k).length = n - k := by rw [List.length_drop]; omega
      have b1 : ((k : Int) ≤ cap) = True := eq_true (by omega)
      have b2 : ((k : Int) ≤ n) = True := eq_true (by omega)
      have b3 : ((n : Int) ≤ cap) = True := eq_true (by omega)
      have hck : ¬ cap = k := by omega
      have hck' : (cap = k) = False := eq_false hck
      have hck2 : ¬ ((cap : Int) = (k : Int)) := by omega
      replace hr1 := Lib.hid hr1
      replace hr2 := Lib.hid hr2
      replace SP := Lib.hid SP
      by_cases hik : m ≤ k
      · rw [if_pos hik] at hincl
        have qik : ((m : Int) ≤ k) = True := eq_true (by omega)
        have IC := fun W hW => ih.out k k2 (l.take k) (some ad) cap m whole W hl1 hm1 hik (by omega) (by omega) z1 hW
        have RT := fun W hW => RC.out (n - k) (l.drop k) (some (ad.add k)) (cap - k) W hl2 (by omega) (by omega) z2 hW
        have hlen := consN_len k (l.take k) m whole hl1 k1
        rw [hincl]
        generalize consN (l.take k) m whole = il at *
        generalize rootN (l.drop k) = x2 at *
        clear ih RC hincl z1 z2 h1000 hr hl1 hl2
        replace IC := Lib.hid IC
        replace RT := Lib.hid RT
        go_enter Try.func32, Try.ntmps32
        go_upto_region 7 with ((with_reducible refine (SP.out _).mono ?_); rintro e w4 ⟨rfl, hw⟩; obtain rfl := hw.symm)
        refine wp_region_grow 11 53 (by kernel_rfl) (by kernel_rfl) rfl (fun w5 hl5 => ?_)
        simp only [List.take_succ_cons, List.take_zero, List.drop_succ_cons, List.drop_zero]
        generalize ha : Act.mk _ _ = a0
        have k0 : a0.eval (.tmp 0) = .slice (some ad) n cap := by subst ha; rfl
        have k1 : a0.eval (.tmp 1) = .int .i64 (m : Int) := by subst ha; rfl
        have k2 : a0.eval (.tmp 2) = .bool whole := by subst ha; rfl
        have k7 : a0.eval (.tmp 7) = .int .i64 (k : Int) := by subst ha; rfl
        have ks : a0.tmps.size = 53 := by subst ha; rfl
        have ha0 := ha.symm
        clear ha
        refine wpG_move (fun a w hk => (hk 0 rfl : a.eval (.tmp 0) = a0.eval (.tmp 0)).trans k0) ?_
        refine wpG_move (fun a w hk => (hk 7 rfl : a.eval (.tmp 7) = a0.eval (.tmp 7)).trans k7) ?_
        apply wpG_value'
        · rfl
        · (intro a wx hlx hk K hK; have e28 : a.eval (.tmp 28) = _ := hk 28 rfl; have e29 : a.eval (.tmp 29) = _ := hk 29 rfl; simp only [execOp, resolve, List.map_toArray, List.map_cons, List.map_nil, Option.map_some, Option.map_none, e28, e29]; clear e28 e29 hk; go_simp; exact hK)
        refine wpG_move (fun a w hk => (hk 1 rfl : a.eval (.tmp 1) = a0.eval (.tmp 1)).trans k1) ?_
        refine wpG_move (fun a w hk => (hk 2 rfl : a.eval (.tmp 2) = a0.eval (.tmp 2)).trans k2) ?_
        refine wpG_callF (TextRow 9 w5.heap.size il) (TextRow.later) Try.func32 (by kernel_rfl) (by kernel_rfl) (fun a wx hlx hk => by have e30 : a.eval (.tmp 30) = _ := hk 30 rfl; have e31 : a.eval (.tmp 31) = _ := hk 31 rfl; have e32 : a.eval (.tmp 32) = _ := hk 32 rfl; simp only [List.map_toArray, List.map_cons, List.map_nil, e30, e31, e32]; exact ((IC.out wx (hr1.out.below (hl5.trans hlx))).mono fun e w' hh => by obtain ⟨⟨v, he, hv⟩, hb⟩ := hh; exact ⟨v, he, TextRow.base hv hlx.size, hb⟩)) ?_
        refine wpG_move (fun a w hk => (hk 0 rfl : a.eval (.tmp 0) = a0.eval (.tmp 0)).trans k0) ?_
        refine wpG_move (fun a w hk => (hk 7 rfl : a.eval (.tmp 7) = a0.eval (.tmp 7)).trans k7) ?_
        apply wpG_value'
        · rfl
        · (intro a wx hlx hk K hK; have e34 : a.eval (.tmp 34) = _ := hk 34 rfl; have e35 : a.eval (.tmp 35) = _ := hk 35 rfl; simp only [execOp, resolve, List.map_toArray, List.map_cons, List.map_nil, Option.map_some, Option.map_none, e34, e35]; clear e34 e35 hk; go_simp; exact hK)
        refine wpG_call _ _ Try.func29 (by kernel_rfl) (by kernel_rfl) (fun W hW => RT.out W (hr2.out.below (hl5.trans hW))) (fun a w hk => by have e36 : a.eval (.tmp 36) = _ := hk 36 rfl; simp [e36]) ?_
        refine wpG_buildS Try.underlying22 (by unfold StrT; kernel_rfl) (fun a w hk => hk 37 rfl) ?_
        refine wpG_nil (fun w5' hl5' => ?_)
        refine fin_is ?_
        refine fin_is ?_
        refine fin_is ?_
        refine fin_is ?_
        refine fin_is ?_
        refine fin_some (fun v33 hv33 => ?_)
        refine fin_is ?_
        refine fin_is ?_
        refine fin_is ?_
        refine fin_is ?_
        refine fin_some (fun v38 hv38 => ?_)
        refine fin_nil ?_
        obtain ⟨g28, rfl, hw28⟩ := hv38
        refine wl_appendS Try.underlying22 (by unfold StrT; kernel_rfl) hv33 hw28 (by omega) hl5'.size (by simp [eval_put, put_size, ks]) (by simp [eval_put, put_size, ks]) (fun v' w6 ho6 hg6 => ?_)
        subst ha0
        clear k0 k1 k2 k7 ks
        go_wp2_with (fail)
        go_returns
        go_light
        have hB5 := hl5.trans hl5'
        have hB6 := below_own hB5 hv33 hl5.size hg6
        exact ⟨⟨_, rfl, ho6.base hl5.size⟩, hB6⟩
      · rw [if_neg hik] at hincl
        have qik : ((m : Int) ≤ k) = False := eq_false (by omega)
        have IC := fun W hW => ih.out (n - k) (by omega) (l.drop k) (some (ad.add k)) (cap - k) (m - k) false W hl2 (by omega) (by omega) (by omega) (by omega) z2 hW
        have RT := fun W hW => RC.out k (l.take k) (some ad) cap W hl1 (by omega) (by omega) z1 hW
        have hlen := consN_len (n - k) (l.drop k) (m - k) false hl2 (by omega)
        rw [hincl]
        generalize consN (l.drop k) (m - k) false = il at *
        generalize rootN (l.take k) = x2 at *
        have wik : IntKind.i64.wrap ((m : Int) - k) = ((m - k : Nat) : Int) := by simp [IntKind.wrap, IntKind.signed, IntKind.bits]; omega
        clear ih RC hincl z1 z2 h1000 hr hl1 hl2
        replace IC := Lib.hid IC
        replace RT := Lib.hid RT
        go_enter Try.func32, Try.ntmps32
        go_upto_region 8 with ((with_reducible refine (SP.out _).mono ?_); rintro e w4 ⟨rfl, hw⟩; obtain rfl := hw.symm)
        refine wp_region_grow 12 53 (by kernel_rfl) (by kernel_rfl) rfl (fun w5 hl5 => ?_)
        simp only [List.take_succ_cons, List.take_zero, List.drop_succ_cons, List.drop_zero]
        generalize ha : Act.mk _ _ = a0
        have k0 : a0.eval (.tmp 0) = .slice (some ad) n cap := by subst ha; rfl
        have k1 : a0.eval (.tmp 1) = .int .i64 (m : Int) := by subst ha; rfl
        have k7 : a0.eval (.tmp 7) = .int .i64 (k : Int) := by subst ha; rfl
        have ks : a0.tmps.size = 53 := by subst ha; rfl
        have ha0 := ha.symm
        clear ha
        refine wpG_move (fun a w hk => (hk 0 rfl : a.eval (.tmp 0) = a0.eval (.tmp 0)).trans k0) ?_
        refine wpG_move (fun a w hk => (hk 7 rfl : a.eval (.tmp 7) = a0.eval (.tmp 7)).trans k7) ?_
        apply wpG_value'
        · rfl
        · (intro a wx hlx hk K hK; have e40 : a.eval (.tmp 40) = _ := hk 40 rfl; have e41 : a.eval (.tmp 41) = _ := hk 41 rfl; simp only [execOp, resolve, List.map_toArray, List.map_cons, List.map_nil, Option.map_some, Option.map_none, e40, e41]; clear e40 e41 hk; go_simp; exact hK)
        refine wpG_move (fun a w hk => (hk 1 rfl : a.eval (.tmp 1) = a0.eval (.tmp 1)).trans k1) ?_
        refine wpG_move (fun a w hk => (hk 7 rfl : a.eval (.tmp 7) = a0.eval (.tmp 7)).trans k7) ?_
        apply wpG_value'
        · rfl
        · (intro a wx hlx hk K hK; have e43 : a.eval (.tmp 43) = _ := hk 43 rfl; have e44 : a.eval (.tmp 44) = _ := hk 44 rfl; simp only [execOp, e43, e44]; clear e43 e44 hk; go_simp; exact hK)
        refine wpG_callF (TextRow 9 w5.heap.size il) (TextRow.later) Try.func32 (by kernel_rfl) (by kernel_rfl) (fun a wx hlx hk => by have e42 : a.eval (.tmp 42) = _ := hk 42 rfl; have e45 : a.eval (.tmp 45) = _ := hk 45 rfl; simp only [List.map_toArray, List.map_cons, List.map_nil, e42, e45]; exact ((IC.out wx (hr2.out.below (hl5.trans hlx))).mono fun e w' hh => by obtain ⟨⟨v, he, hv⟩, hb⟩ := hh; exact ⟨v, he, TextRow.base hv hlx.size, hb⟩)) ?_
        refine wpG_move (fun a w hk => (hk 0 rfl : a.eval (.tmp 0) = a0.eval (.tmp 0)).trans k0) ?_
        refine wpG_move (fun a w hk => (hk 7 rfl : a.eval (.tmp 7) = a0.eval (.tmp 7)).trans k7) ?_
        apply wpG_value'
        · rfl
        · (intro a wx hlx hk K hK; have e47 : a.eval (.tmp 47) = _ := hk 47 rfl; have e48 : a.eval (.tmp 48) = _ := hk 48 rfl; simp only [execOp, resolve, List.map_toArray, List.map_cons, List.map_nil, Option.map_some, Option.map_none, e47, e48]; clear e47 e48 hk; go_simp; exact hK)
        refine wpG_call _ _ Try.func29 (by kernel_rfl) (by kernel_rfl) (fun W hW => RT.out W (hr1.out.below (hl5.trans hW))) (fun a w hk => by have e49 : a.eval (.tmp 49) = _ := hk 49 rfl; simp [e49]) ?_
        refine wpG_buildS Try.underlying22 (by unfold StrT; kernel_rfl) (fun a w hk => hk 50 rfl) ?_
        refine wpG_nil (fun w5' hl5' => ?_)
        refine fin_is ?_
        refine fin_is ?_
        refine fin_is ?_
        refine fin_is ?_
        refine fin_is ?_
        refine fin_is ?_
        refine fin_some (fun v46 hv46 => ?_)
        refine fin_is ?_
        refine fin_is ?_
        refine fin_is ?_
        refine fin_is ?_
        refine fin_some (fun v51 hv51 => ?_)
        refine fin_nil ?_
        obtain ⟨g28, rfl, hw28⟩ := hv51
        refine wl_appendS Try.underlying22 (by unfold StrT; kernel_rfl) hv46 hw28 (by omega) hl5'.size (by simp [eval_put, put_size, ks]) (by simp [eval_put, put_size, ks]) (fun v' w6 ho6 hg6 => ?_)
        subst ha0
        clear k0 k1 k7 ks
        go_wp2_with (fail)
        go_returns
        go_light
        have hB5 := hl5.trans hl5'
        have hB6 := below_own hB5 hv46 hl5.size hg6
        exact ⟨⟨_, rfl, ho6.base hl5.size⟩, hB6⟩
end Go.Proofs.Ytfkafejoacpclaa
