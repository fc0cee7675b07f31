/- The reference's tree: roots, depths, lengths. Conditions: texts of at most 1000 bytes, at most 64 of them. -/
import Derived.Test.YtfkafejoacpclaaMerkRef1
namespace Go.Proofs.Ytfkafejoacpclaa
open Go.RowKit
set_option linter.unusedVariables false
set_option linter.unusedSimpArgs false
set_option maxHeartbeats 2000000 in
set_option maxRecDepth 100000 in
theorem refRoot_calls : ∀ (n : Nat) (l : List ByteArray) (A : Option Addr) (cap : Nat) (w : World), l.length = n → n < 65 → n ≤ cap → (∀ x ∈ l, x.size ≤ 1000) → Kn.str.Rows w A l →
    Calls Try.prog 29 #[.slice A n cap] w fun e w' => e = .returned (.string (rootN l)) ∧ Below w.heap.size w w' := by
  intro n
  induction n using Nat.strongRecOn with
  | _ n ih =>
    intro l A cap w hn hn20 hcap h1000 hr
    replace ih := Lib.hid ih
    by_cases h0 : n = 0
    · subst h0
      obtain rfl : l = [] := List.length_eq_zero_iff.1 hn
      rw [rootN_nil]
      have SS := fun w => refH_calls ⟨#[]⟩ (by decide) w
      generalize shaN ⟨#[]⟩ = X at *
      clear ih hr
      replace SS := Lib.hid SS
      go_enter Try.func29, Try.ntmps29
      go_wp2_with ((with_reducible refine (SS.out _).mono ?_); rintro e w2 ⟨rfl, hb2⟩)
      go_returns
      go_light
      exact ⟨rfl, hb2⟩
    · have q0 : ((n : Int) == 0) = false := by rw [beq_eq_false_iff_ne]; omega
      by_cases h1' : n = 1
      · subst h1'
        obtain ⟨x, rfl⟩ : ∃ x, l = [x] := List.length_eq_one_iff.1 hn
        obtain ⟨ad, rfl, hadlt, e0⟩ := Kn.Rows.one_ hr (k := 0) (by simp)
        have ha : ad.add 0 = ad := by unfold Addr.add; split <;> simp_all
        have e1 : w.cell? ad = some (.string x) := by rw [← ha]; exact e0
        have hx : rootN [x] = x := rootN_one rfl
        rw [hx]
        clear ih hr hx
        go_enter Try.func29, Try.ntmps29
        clear ha e0
        go_wp2_with (fail)
        go_returns
        go_light
        exact ⟨rfl, Later.refl _⟩
      · have q1 : ((n : Int) == 1) = false := by rw [beq_eq_false_iff_ne]; omega
        obtain ⟨k1, k2⟩ := sp_lt (n := n) (by omega)
        have SP := fun w => half_calls n (by omega) hn20 w
        have hroot := rootN_two (l := l) (by omega)
        rw [hn] at hroot
        obtain ⟨ad, rfl, -, -⟩ := Kn.Rows.one_ hr (k := 0) (by omega)
        generalize sp n = k at *
        have hr1 := rows_take hr k
        have hr2 := rows_drop hr (k := k) (by omega)
        have z1 : ∀ x ∈ l.take k, x.size ≤ 1000 := fun x hx => h1000 x (List.mem_of_mem_take hx)
        have z2 : ∀ x ∈ l.drop k, x.size ≤ 1000 := fun x hx => h1000 x (List.mem_of_mem_drop hx)
        have I1 := fun W hW => ih.out k k2 (l.take k) (some ad) cap W (by rw [List.length_take]; omega) (by omega) (by omega) z1 hW
        have I2 := fun W hW => ih.out (n - k) (by omega) (l.drop k) (some (ad.add k)) (cap - k) W (by rw [List.length_drop]; omega) (by omega) (by omega) z2 hW
        have r1 := rootN_size z1
        have r2 := rootN_size z2
        unfold pairN at hroot
        generalize rootN (l.take k) = x1 at *
        generalize rootN (l.drop k) = x2 at *
        have hs1 : ((⟨#[1]⟩ : ByteArray) ++ x1).size = 1 + x1.size := ByteArray.size_append
        have hs : (((⟨#[1]⟩ : ByteArray) ++ x1) ++ x2).size = 1 + x1.size + x2.size := by rw [ByteArray.size_append, hs1]
        have nolen : (9223372036854775807 < 1 + x1.size) = False := eq_false (by omega)
        have nolen2 : (9223372036854775807 < 1 + x1.size + x2.size) = False := eq_false (by omega)
        have PP := fun W => refH_calls (((⟨#[1]⟩ : ByteArray) ++ x1) ++ x2) (by omega) W
        rw [← hroot] at PP
        generalize rootN l = X at *
        clear ih hroot z1 z2 h1000 hr hs hs1
        replace SP := Lib.hid SP
        replace I1 := Lib.hid I1
        replace I2 := Lib.hid I2
        replace PP := Lib.hid PP
        replace hr1 := Lib.hid hr1
        replace hr2 := Lib.hid hr2
        have b1 : ((k : Int) ≤ cap) = True := eq_true (by omega)
        have b2 : ((k : Int) ≤ n) = True := eq_true (by omega)
        have b3 : ((n : Int) ≤ cap) = True := eq_true (by omega)
        have hck : ¬ cap = k := by omega
        have hck' : (cap = k) = False := eq_false hck
        have hck2 : ¬ ((cap : Int) = (k : Int)) := by omega
        go_enter Try.func29, Try.ntmps29
        go_upto_region 6 with ((with_reducible refine (SP.out _).mono ?_); rintro e w4 ⟨rfl, hw⟩; obtain rfl := hw.symm)
        refine wp_region_grow 12 28 (by kernel_rfl) (by kernel_rfl) rfl (fun w4 hl4 => ?_)
        simp only [List.take_succ_cons, List.take_zero, List.drop_succ_cons, List.drop_zero]
        generalize ha : Act.mk _ _ = a0
        have k0 : a0.eval (.tmp 0) = .slice (some ad) n cap := by subst ha; rfl
        have k3 : a0.eval (.tmp 3) = .int .i64 (k : Int) := by subst ha; rfl
        have ks : a0.tmps.size = 28 := by subst ha; rfl
        have ha0 := ha.symm
        clear ha
        refine wpG_move (fun a w hk => (hk 0 rfl : a.eval (.tmp 0) = a0.eval (.tmp 0)).trans k0) ?_
        refine wpG_move (fun a w hk => (hk 3 rfl : a.eval (.tmp 3) = a0.eval (.tmp 3)).trans k3) ?_
        apply wpG_value'
        · rfl
        · (intro a wx hlx hk K hK; have e17 : a.eval (.tmp 17) = _ := hk 17 rfl; have e18 : a.eval (.tmp 18) = _ := hk 18 rfl; simp only [execOp, resolve, List.map_toArray, List.map_cons, List.map_nil, Option.map_some, Option.map_none, e17, e18]; clear e17 e18 hk; go_simp; exact hK)
        refine wpG_call _ _ Try.func29 (by kernel_rfl) (by kernel_rfl) (fun W hW => I1.out W (hr1.out.below (hl4.trans hW))) (fun a w hk => by have e19 : a.eval (.tmp 19) = _ := hk 19 rfl; simp [e19]) ?_
        apply wpG_value'
        · rfl
        · (intro a wx hlx hk K hK; have e20 : a.eval (.tmp 20) = _ := hk 20 rfl; simp only [execOp, e20]; clear e20 hk; go_simp; exact hK)
        refine wpG_move (fun a w hk => (hk 0 rfl : a.eval (.tmp 0) = a0.eval (.tmp 0)).trans k0) ?_
        refine wpG_move (fun a w hk => (hk 3 rfl : a.eval (.tmp 3) = a0.eval (.tmp 3)).trans k3) ?_
        apply wpG_value'
        · rfl
        · (intro a wx hlx hk K hK; have e22 : a.eval (.tmp 22) = _ := hk 22 rfl; have e23 : a.eval (.tmp 23) = _ := hk 23 rfl; simp only [execOp, resolve, List.map_toArray, List.map_cons, List.map_nil, Option.map_some, Option.map_none, e22, e23]; clear e22 e23 hk; go_simp; exact hK)
        refine wpG_call _ _ Try.func29 (by kernel_rfl) (by kernel_rfl) (fun W hW => I2.out W (hr2.out.below (hl4.trans hW))) (fun a w hk => by have e24 : a.eval (.tmp 24) = _ := hk 24 rfl; simp [e24]) ?_
        apply wpG_value'
        · rfl
        · (intro a wx hlx hk K hK; have e21 : a.eval (.tmp 21) = _ := hk 21 rfl; have e25 : a.eval (.tmp 25) = _ := hk 25 rfl; simp only [execOp, e21, e25]; clear e21 e25 hk; go_simp; exact hK)
        refine wpG_call _ _ Try.func58 (by kernel_rfl) (by kernel_rfl) (fun W _ => PP.out W) (fun a w hk => by have e26 : a.eval (.tmp 26) = _ := hk 26 rfl; simp [e26]) ?_
        refine wpG_assign (fun a w hk => hk 27 rfl) ?_
        refine wpG_nil (fun w4' hl4' => ?_)
        refine fin_is ?_
        refine fin_is ?_
        refine fin_is ?_
        refine fin_is ?_
        refine fin_is ?_
        refine fin_is ?_
        refine fin_is ?_
        refine fin_is ?_
        refine fin_is ?_
        refine fin_is ?_
        refine fin_is ?_
        refine fin_is ?_
        refine fin_nil ?_
        subst ha0
        clear k0 k3 ks
        go_wp2_with (fail)
        go_returns
        go_light
        exact ⟨by kernel_rfl, hl4.trans hl4'⟩
set_option maxHeartbeats 2000000 in
set_option maxRecDepth 100000 in
theorem refDepth_calls : ∀ (n i : Nat) (w : World), i < n → n < 65 →
    Calls Try.prog 22 #[.int .i64 i, .int .i64 n] w fun e w' => (e = .returned (.int .i64 (depthN i n : Nat)) ∧ depthN i n < n) ∧ w' = w := by
  intro n
  induction n using Nat.strongRecOn with
  | _ n ih =>
    intro i w hi hn
    replace ih := Lib.hid ih
    by_cases h1 : n = 1
    · have q1 : ((n : Int) == 1) = true := by rw [beq_iff_eq]; omega
      have e : depthN i n = 0 := by rw [depthN, dif_pos (by omega)]
      rw [e]
      subst h1
      clear ih e
      go_enter Try.func22, Try.ntmps22
      go_wp2_with (fail)
      go_returns
      go_light
      exact ⟨⟨rfl, by omega⟩, rfl⟩
    · have q1 : ((n : Int) == 1) = false := by rw [beq_eq_false_iff_ne]; omega
      obtain ⟨k1, k2⟩ := sp_lt (n := n) (by omega)
      have SP := fun w => half_calls n (by omega) hn w
      have hd : depthN i n = if i < sp n then depthN i (sp n) + 1 else depthN (i - sp n) (n - sp n) + 1 := by
        conv => lhs; rw [depthN]
        rw [dif_neg (by omega)]
      rw [hd]
      clear hd
      generalize sp n = k at *
      replace SP := Lib.hid SP
      by_cases hik : i < k
      · rw [if_pos hik]
        have qik : ((i : Int) < k) = True := eq_true (by omega)
        have IC := fun W => ih.out k k2 i W hik (by omega)
        generalize depthN i k = d at *
        clear ih
        replace IC := Lib.hid IC
        go_enter Try.func22, Try.ntmps22
        go_wp2_with (first | ((with_reducible refine (SP.out _).mono ?_); rintro e w4 ⟨rfl, hw⟩; obtain rfl := hw.symm) | ((with_reducible refine (IC.out _).mono ?_); rintro e w5 ⟨⟨rfl, hdk⟩, hw⟩; obtain rfl := hw.symm; have wd : IntKind.i64.wrap ((d : Int) + 1) = ((d + 1 : Nat) : Int) := (by simp [IntKind.wrap, IntKind.signed, IntKind.bits]; omega)))
        go_returns
        go_light
        exact ⟨⟨by first | rfl | exact ret_int (by omega), by omega⟩, rfl⟩
      · rw [if_neg hik]
        have qik : ((i : Int) < k) = False := eq_false (by omega)
        have IC := fun W => ih.out (n - k) (by omega) (i - k) W (by omega) (by omega)
        generalize depthN (i - k) (n - k) = d at *
        have wik : IntKind.i64.wrap ((i : Int) - k) = ((i - k : Nat) : Int) := by simp [IntKind.wrap, IntKind.signed, IntKind.bits]; omega
        have wnk : IntKind.i64.wrap ((n : Int) - k) = ((n - k : Nat) : Int) := by simp [IntKind.wrap, IntKind.signed, IntKind.bits]; omega
        clear ih
        replace IC := Lib.hid IC
        go_enter Try.func22, Try.ntmps22
        go_wp2_with (first | ((with_reducible refine (SP.out _).mono ?_); rintro e w4 ⟨rfl, hw⟩; obtain rfl := hw.symm) | ((with_reducible refine (IC.out _).mono ?_); rintro e w5 ⟨⟨rfl, hdk⟩, hw⟩; obtain rfl := hw.symm; have wd : IntKind.i64.wrap ((d : Int) + 1) = ((d + 1 : Nat) : Int) := (by simp [IntKind.wrap, IntKind.signed, IntKind.bits]; omega)))
        go_returns
        go_light
        exact ⟨⟨by first | rfl | exact ret_int (by omega), by omega⟩, rfl⟩
set_option maxHeartbeats 2000000 in
set_option maxRecDepth 100000 in
theorem refLength_calls : ∀ (n m : Nat) (whole : Bool) (w : World), 1 ≤ m → m ≤ n → n < 65 →
    Calls Try.prog 25 #[.int .i64 m, .int .i64 n, .bool whole] w fun e w' => (e = .returned (.int .i64 (lenN m n whole : Nat)) ∧ lenN m n whole ≤ n) ∧ w' = w := by
  intro n
  induction n using Nat.strongRecOn with
  | _ n ih =>
    intro m whole w hm hmn hn
    replace ih := Lib.hid ih
    by_cases h1 : m = n
    · have q1 : ((m : Int) == n) = true := by rw [beq_iff_eq]; omega
      cases whole
      · have e : lenN m n false = 1 := by rw [lenN, if_pos h1]; rfl
        rw [e]
        subst h1
        clear ih e
        go_enter Try.func25, Try.ntmps25
        go_wp2_with (fail)
        go_returns
        go_light
        exact ⟨⟨rfl, by omega⟩, rfl⟩
      · have e : lenN m n true = 0 := by rw [lenN, if_pos h1]; rfl
        rw [e]
        subst h1
        clear ih e
        go_enter Try.func25, Try.ntmps25
        go_wp2_with (fail)
        go_returns
        go_light
        exact ⟨⟨rfl, by omega⟩, rfl⟩
    · have q1 : ((m : Int) == n) = false := by rw [beq_eq_false_iff_ne]; omega
      obtain ⟨k1, k2⟩ := sp_lt (n := n) (by omega)
      have SP := fun w => half_calls n (by omega) hn w
      have hd : lenN m n whole = if m ≤ sp n then lenN m (sp n) whole + 1 else lenN (m - sp n) (n - sp n) false + 1 := by
        conv => lhs; rw [lenN]
        rw [if_neg h1, dif_neg (by omega)]
      rw [hd]
      clear hd
      generalize sp n = k at *
      replace SP := Lib.hid SP
      by_cases hik : m ≤ k
      · rw [if_pos hik]
        have qik : ((m : Int) ≤ k) = True := eq_true (by omega)
        have IC := fun W => ih.out k k2 m whole W hm hik (by omega)
        generalize lenN m k whole = d at *
        clear ih
        replace IC := Lib.hid IC
        go_enter Try.func25, Try.ntmps25
        go_wp2_with (first | ((with_reducible refine (SP.out _).mono ?_); rintro e w4 ⟨rfl, hw⟩; obtain rfl := hw.symm) | ((with_reducible refine (IC.out _).mono ?_); rintro e w5 ⟨⟨rfl, hdk⟩, hw⟩; obtain rfl := hw.symm; have wd : IntKind.i64.wrap ((d : Int) + 1) = ((d + 1 : Nat) : Int) := (by simp [IntKind.wrap, IntKind.signed, IntKind.bits]; omega)))
        go_returns
        go_light
        exact ⟨⟨by first | rfl | exact ret_int (by omega), by omega⟩, rfl⟩
      · rw [if_neg hik]
        have qik : ((m : Int) ≤ k) = False := eq_false (by omega)
        have IC := fun W => ih.out (n - k) (by omega) (m - k) false W (by omega) (by omega) (by omega)
        generalize lenN (m - k) (n - k) false = d at *
        have wik : IntKind.i64.wrap ((m : Int) - k) = ((m - k : Nat) : Int) := by simp [IntKind.wrap, IntKind.signed, IntKind.bits]; omega
        have wnk : IntKind.i64.wrap ((n : Int) - k) = ((n - k : Nat) : Int) := by simp [IntKind.wrap, IntKind.signed, IntKind.bits]; omega
        clear ih
        replace IC := Lib.hid IC
        go_enter Try.func25, Try.ntmps25
        go_wp2_with (first | ((with_reducible refine (SP.out _).mono ?_); rintro e w4 ⟨rfl, hw⟩; obtain rfl := hw.symm) | ((with_reducible refine (IC.out _).mono ?_); rintro e w5 ⟨⟨rfl, hdk⟩, hw⟩; obtain rfl := hw.symm; have wd : IntKind.i64.wrap ((d : Int) + 1) = ((d + 1 : Nat) : Int) := (by simp [IntKind.wrap, IntKind.signed, IntKind.bits]; omega)))
        go_returns
        go_light
        exact ⟨⟨by first | rfl | exact ret_int (by omega), by omega⟩, rfl⟩
theorem upN_size (leaf : ByteArray) (i n : Nat) (p : List ByteArray) (h : leaf.size ≤ 1000) : (upN leaf i n p).size ≤ 1000 := by
  rw [upN]
  split
  · exact h
  · split
    · unfold pairN; rw [shaN_32]; decide
    · unfold pairN; rw [shaN_32]; decide
set_option maxHeartbeats 2000000 in
set_option maxRecDepth 100000 in
theorem refUp_calls (leaf : ByteArray) (hleaf : leaf.size ≤ 1000) : ∀ (n i : Nat) (p : List ByteArray) (A : Option Addr) (cap : Nat) (w : World), i < n → n < 65 → p.length = depthN i n → p.length ≤ cap → (∀ x ∈ p, x.size ≤ 1000) → Kn.str.Rows w A p →
    Calls Try.prog 23 #[.string leaf, .int .i64 i, .int .i64 n, .slice A p.length cap] w fun e w' => e = .returned (.string (upN leaf i n p)) ∧ Below w.heap.size w w' := by
  intro n
  induction n using Nat.strongRecOn with
  | _ n ih =>
    intro i p A cap w hi hn hp hcap h1000 hr
    replace ih := Lib.hid ih
    by_cases h1 : n = 1
    · have q1 : ((n : Int) == 1) = true := by rw [beq_iff_eq]; omega
      have e : upN leaf i n p = leaf := by rw [upN, dif_pos (by omega)]
      rw [e]
      subst h1
      clear ih e hr
      go_enter Try.func23, Try.ntmps23
      go_wp2_with (fail)
      go_returns
      go_light
      exact ⟨rfl, Later.refl _⟩
    · have q1 : ((n : Int) == 1) = false := by rw [beq_eq_false_iff_ne]; omega
      obtain ⟨k1, k2⟩ := sp_lt (n := n) (by omega)
      have SP := fun w => half_calls n (by omega) hn w
      have hd : depthN i n = if i < sp n then depthN i (sp n) + 1 else depthN (i - sp n) (n - sp n) + 1 := by
        conv => lhs; rw [depthN]
        rw [dif_neg (by omega)]
      have hu : upN leaf i n p = if i < sp n then pairN (upN leaf i (sp n) p.dropLast) (p.getLastD ⟨#[]⟩) else pairN (p.getLastD ⟨#[]⟩) (upN leaf (i - sp n) (n - sp n) p.dropLast) := by
        conv => lhs; rw [upN]
        rw [dif_neg (by omega)]
      rcases List.eq_nil_or_concat p with rfl | ⟨q, x, rfl⟩
      · rw [hd] at hp
        split at hp <;> simp at hp
      rw [List.concat_eq_append] at *
      have ed : (q ++ [x]).dropLast = q := by simp
      have eg : (q ++ [x]).getLastD ⟨#[]⟩ = x := by simp
      rw [ed, eg] at hu
      obtain ⟨ad, rfl, hlt, hc⟩ := Kn.Rows.one_ hr (k := q.length) (by simp)
      rw [List.getElem_append_right (Nat.le_refl _)] at hc
      simp only [Nat.sub_self, List.getElem_singleton] at hc
      have hr1 : Kn.str.Rows w (some ad) q := by
        have := rows_take hr q.length
        rwa [List.take_left] at this
      have sx : x.size ≤ 1000 := h1000 x (by simp)
      have sq : ∀ y ∈ q, y.size ≤ 1000 := fun y hy => h1000 y (by simp [hy])
      have el : (q ++ [x]).length = q.length + 1 := by simp
      rw [el] at hp hcap ⊢
      have hq : q.length + 1 ≤ 9223372036854775807 := by have := hr.1; simpa using this
      rw [hu]
      clear hu ed eg el hr h1000
      generalize hqn : q.length = z at *
      have w1 : IntKind.i64.wrap ((z : Int) + 1 - 1) = z := by simp [IntKind.wrap, IntKind.signed, IntKind.bits]; omega
      have w4 : ((z : Int) ≤ cap) = True := eq_true (by omega)
      have w5 : ((z : Int) < (z : Int) + 1) = True := eq_true (by omega)
      have w6 : IntKind.i64.wrap (z : Int) = z := by simp [IntKind.wrap, IntKind.signed, IntKind.bits]; omega
      have w7 : (z : Int) + 1 - 1 = z := by omega
      generalize sp n = k at *
      replace SP := Lib.hid SP
      replace hr1 := Lib.hid hr1
      by_cases hik : i < k
      · rw [if_pos hik] at hd ⊢
        have qik : ((i : Int) < k) = True := eq_true (by omega)
        have IC := fun W hW => (hqn ▸ ih.out k k2 i q (some ad) cap W hik (by omega) (by omega) (by omega) sq hW : Calls Try.prog 23 #[.string leaf, .int .i64 i, .int .i64 k, .slice (some ad) z cap] W _)
        have sr := upN_size leaf i k q hleaf
        unfold pairN
        generalize upN leaf i k q = r at *
        have hs1 : ((⟨#[1]⟩ : ByteArray) ++ r).size = 1 + r.size := ByteArray.size_append
        have hs : (((⟨#[1]⟩ : ByteArray) ++ r) ++ x).size = 1 + r.size + x.size := by rw [ByteArray.size_append, hs1]
        have nolen : (9223372036854775807 < 1 + r.size) = False := eq_false (by omega)
        have nolen2 : (9223372036854775807 < 1 + r.size + x.size) = False := eq_false (by omega)
        have PP := fun W => refH_calls (((⟨#[1]⟩ : ByteArray) ++ r) ++ x) (by omega) W
        generalize shaN (((⟨#[1]⟩ : ByteArray) ++ r) ++ x) = X at *
        clear ih hs hs1 hd hp
        replace IC := Lib.hid IC
        replace PP := Lib.hid PP
        go_enter Try.func23, Try.ntmps23
        go_upto_region 6 with ((with_reducible refine (SP.out _).mono ?_); rintro e w4 ⟨rfl, hw⟩; obtain rfl := hw.symm)
        refine wp_region_grow 15 54 (by kernel_rfl) (by kernel_rfl) rfl (fun w4 hl4 => ?_)
        simp only [List.take_succ_cons, List.take_zero, List.drop_succ_cons, List.drop_zero]
        generalize ha : Act.mk _ _ = a0
        have k0 : a0.eval (.tmp 0) = .string leaf := by subst ha; rfl
        have k1 : a0.eval (.tmp 1) = .int .i64 i := by subst ha; rfl
        have k3 : a0.eval (.tmp 3) = .slice (some ad) (z + 1) cap := by subst ha; rfl
        have k9 : a0.eval (.tmp 9) = .int .i64 (k : Int) := by subst ha; rfl
        have k10 : a0.eval (.tmp 10) = .int .i64 z := by subst ha; rfl
        have ks : a0.tmps.size = 54 := by subst ha; rfl
        have ha0 := ha.symm
        clear ha
        refine wpG_move (fun a w hk => (hk 0 rfl : a.eval (.tmp 0) = a0.eval (.tmp 0)).trans k0) ?_
        refine wpG_move (fun a w hk => (hk 1 rfl : a.eval (.tmp 1) = a0.eval (.tmp 1)).trans k1) ?_
        refine wpG_move (fun a w hk => (hk 9 rfl : a.eval (.tmp 9) = a0.eval (.tmp 9)).trans k9) ?_
        refine wpG_move (fun a w hk => (hk 3 rfl : a.eval (.tmp 3) = a0.eval (.tmp 3)).trans k3) ?_
        refine wpG_move (fun a w hk => (hk 10 rfl : a.eval (.tmp 10) = a0.eval (.tmp 10)).trans k10) ?_
        apply wpG_value'
        · rfl
        · (intro a wx hlx hk K hK; have e25 : a.eval (.tmp 25) = _ := hk 25 rfl; have e26 : a.eval (.tmp 26) = _ := hk 26 rfl; simp only [execOp, resolve, List.map_toArray, List.map_cons, List.map_nil, Option.map_some, Option.map_none, e25, e26]; clear e25 e26 hk; go_simp; exact hK)
        refine wpG_call _ _ Try.func23 (by kernel_rfl) (by kernel_rfl) (fun W hW => IC.out W (hr1.out.below (hl4.trans hW))) (fun a w hk => by have e22 : a.eval (.tmp 22) = _ := hk 22 rfl; have e23 : a.eval (.tmp 23) = _ := hk 23 rfl; have e24 : a.eval (.tmp 24) = _ := hk 24 rfl; have e27 : a.eval (.tmp 27) = _ := hk 27 rfl; simp [e22, e23, e24, e27]) ?_
        apply wpG_value'
        · rfl
        · (intro a wx hlx hk K hK; have e28 : a.eval (.tmp 28) = _ := hk 28 rfl; simp only [execOp, e28]; clear e28 hk; go_simp; exact hK)
        refine wpG_move (fun a w hk => (hk 3 rfl : a.eval (.tmp 3) = a0.eval (.tmp 3)).trans k3) ?_
        refine wpG_move (fun a w hk => (hk 10 rfl : a.eval (.tmp 10) = a0.eval (.tmp 10)).trans k10) ?_
        apply wpG_value'
        · rfl
        · (intro a wx hlx hk K hK; have e30 : a.eval (.tmp 30) = _ := hk 30 rfl; have e31 : a.eval (.tmp 31) = _ := hk 31 rfl; simp only [execOp, e30, e31]; clear e30 e31 hk; go_simp; exact hK)
        refine wpG_load1 (hl4.cell hc) Try.underlying9 rfl (fun a w hk => hk 32 rfl) ?_
        apply wpG_value'
        · rfl
        · (intro a wx hlx hk K hK; have e29 : a.eval (.tmp 29) = _ := hk 29 rfl; have e33 : a.eval (.tmp 33) = _ := hk 33 rfl; simp only [execOp, e29, e33]; clear e29 e33 hk; go_simp; exact hK)
        refine wpG_call _ _ Try.func58 (by kernel_rfl) (by kernel_rfl) (fun W _ => PP.out W) (fun a w hk => by have e34 : a.eval (.tmp 34) = _ := hk 34 rfl; simp [e34]) ?_
        refine wpG_assign (fun a w hk => hk 35 rfl) ?_
        refine wpG_nil (fun w4' hl4' => ?_)
        refine fin_is ?_
        refine fin_is ?_
        refine fin_is ?_
        refine fin_is ?_
        refine fin_is ?_
        refine fin_is ?_
        refine fin_is ?_
        refine fin_is ?_
        refine fin_is ?_
        refine fin_is ?_
        refine fin_is ?_
        refine fin_is ?_
        refine fin_is ?_
        refine fin_is ?_
        refine fin_is ?_
        refine fin_nil ?_
        subst ha0
        clear k0 k1 k9 k3 k10 ks
        go_wp2_with (fail)
        go_returns
        go_light
        exact ⟨by kernel_rfl, hl4.trans hl4'⟩
      · rw [if_neg hik] at hd ⊢
        have qik : ((i : Int) < k) = False := eq_false (by omega)
        have IC := fun W hW => (hqn ▸ ih.out (n - k) (by omega) (i - k) q (some ad) cap W (by omega) (by omega) (by omega) (by omega) sq hW : Calls Try.prog 23 #[.string leaf, .int .i64 ((i - k : Nat) : Int), .int .i64 ((n - k : Nat) : Int), .slice (some ad) z cap] W _)
        have sr := upN_size leaf (i - k) (n - k) q hleaf
        unfold pairN
        generalize upN leaf (i - k) (n - k) q = r at *
        have hs1 : ((⟨#[1]⟩ : ByteArray) ++ x).size = 1 + x.size := ByteArray.size_append
        have hs : (((⟨#[1]⟩ : ByteArray) ++ x) ++ r).size = 1 + x.size + r.size := by rw [ByteArray.size_append, hs1]
        have nolen : (9223372036854775807 < 1 + x.size) = False := eq_false (by omega)
        have nolen2 : (9223372036854775807 < 1 + x.size + r.size) = False := eq_false (by omega)
        have PP := fun W => refH_calls (((⟨#[1]⟩ : ByteArray) ++ x) ++ r) (by omega) W
        generalize shaN (((⟨#[1]⟩ : ByteArray) ++ x) ++ r) = X at *
        have wik : IntKind.i64.wrap ((i : Int) - k) = ((i - k : Nat) : Int) := by simp [IntKind.wrap, IntKind.signed, IntKind.bits]; omega
        have wnk : IntKind.i64.wrap ((n : Int) - k) = ((n - k : Nat) : Int) := by simp [IntKind.wrap, IntKind.signed, IntKind.bits]; omega
        clear ih hs hs1 hd hp
        replace IC := Lib.hid IC
        replace PP := Lib.hid PP
        go_enter Try.func23, Try.ntmps23
        go_upto_region 7 with ((with_reducible refine (SP.out _).mono ?_); rintro e w4 ⟨rfl, hw⟩; obtain rfl := hw.symm)
        refine wp_region_grow 19 54 (by kernel_rfl) (by kernel_rfl) rfl (fun w4 hl4 => ?_)
        simp only [List.take_succ_cons, List.take_zero, List.drop_succ_cons, List.drop_zero]
        generalize ha : Act.mk _ _ = a0
        have k0 : a0.eval (.tmp 0) = .string leaf := by subst ha; rfl
        have k1 : a0.eval (.tmp 1) = .int .i64 i := by subst ha; rfl
        have k2 : a0.eval (.tmp 2) = .int .i64 n := by subst ha; rfl
        have k3 : a0.eval (.tmp 3) = .slice (some ad) (z + 1) cap := by subst ha; rfl
        have k9 : a0.eval (.tmp 9) = .int .i64 (k : Int) := by subst ha; rfl
        have k10 : a0.eval (.tmp 10) = .int .i64 z := by subst ha; rfl
        have ks : a0.tmps.size = 54 := by subst ha; rfl
        have ha0 := ha.symm
        clear ha
        refine wpG_move (fun a w hk => (hk 3 rfl : a.eval (.tmp 3) = a0.eval (.tmp 3)).trans k3) ?_
        refine wpG_move (fun a w hk => (hk 10 rfl : a.eval (.tmp 10) = a0.eval (.tmp 10)).trans k10) ?_
        apply wpG_value'
        · rfl
        · (intro a wx hlx hk K hK; have e36 : a.eval (.tmp 36) = _ := hk 36 rfl; have e37 : a.eval (.tmp 37) = _ := hk 37 rfl; simp only [execOp, e36, e37]; clear e36 e37 hk; go_simp; exact hK)
        refine wpG_load1 (hl4.cell hc) Try.underlying9 rfl (fun a w hk => hk 38 rfl) ?_
        apply wpG_value'
        · rfl
        · (intro a wx hlx hk K hK; have e39 : a.eval (.tmp 39) = _ := hk 39 rfl; simp only [execOp, e39]; clear e39 hk; go_simp; exact hK)
        refine wpG_move (fun a w hk => (hk 0 rfl : a.eval (.tmp 0) = a0.eval (.tmp 0)).trans k0) ?_
        refine wpG_move (fun a w hk => (hk 1 rfl : a.eval (.tmp 1) = a0.eval (.tmp 1)).trans k1) ?_
        refine wpG_move (fun a w hk => (hk 9 rfl : a.eval (.tmp 9) = a0.eval (.tmp 9)).trans k9) ?_
        apply wpG_value'
        · rfl
        · (intro a wx hlx hk K hK; have e42 : a.eval (.tmp 42) = _ := hk 42 rfl; have e43 : a.eval (.tmp 43) = _ := hk 43 rfl; simp only [execOp, e42, e43]; clear e42 e43 hk; go_simp; exact hK)
        refine wpG_move (fun a w hk => (hk 2 rfl : a.eval (.tmp 2) = a0.eval (.tmp 2)).trans k2) ?_
        refine wpG_move (fun a w hk => (hk 9 rfl : a.eval (.tmp 9) = a0.eval (.tmp 9)).trans k9) ?_
        apply wpG_value'
        · rfl
        · (intro a wx hlx hk K hK; have e45 : a.eval (.tmp 45) = _ := hk 45 rfl; have e46 : a.eval (.tmp 46) = _ := hk 46 rfl; simp only [execOp, e45, e46]; clear e45 e46 hk; go_simp; exact hK)
        refine wpG_move (fun a w hk => (hk 3 rfl : a.eval (.tmp 3) = a0.eval (.tmp 3)).trans k3) ?_
        refine wpG_move (fun a w hk => (hk 10 rfl : a.eval (.tmp 10) = a0.eval (.tmp 10)).trans k10) ?_
        apply wpG_value'
        · rfl
        · (intro a wx hlx hk K hK; have e48 : a.eval (.tmp 48) = _ := hk 48 rfl; have e49 : a.eval (.tmp 49) = _ := hk 49 rfl; simp only [execOp, resolve, List.map_toArray, List.map_cons, List.map_nil, Option.map_some, Option.map_none, e48, e49]; clear e48 e49 hk; go_simp; exact hK)
        refine wpG_call _ _ Try.func23 (by kernel_rfl) (by kernel_rfl) (fun W hW => IC.out W (hr1.out.below (hl4.trans hW))) (fun a w hk => by have e41 : a.eval (.tmp 41) = _ := hk 41 rfl; have e44 : a.eval (.tmp 44) = _ := hk 44 rfl; have e47 : a.eval (.tmp 47) = _ := hk 47 rfl; have e50 : a.eval (.tmp 50) = _ := hk 50 rfl; simp [e41, e44, e47, e50]) ?_
        apply wpG_value'
        · rfl
        · (intro a wx hlx hk K hK; have e40 : a.eval (.tmp 40) = _ := hk 40 rfl; have e51 : a.eval (.tmp 51) = _ := hk 51 rfl; simp only [execOp, e40, e51]; clear e40 e51 hk; go_simp; exact hK)
        refine wpG_call _ _ Try.func58 (by kernel_rfl) (by kernel_rfl) (fun W _ => PP.out W) (fun a w hk => by have e52 : a.eval (.tmp 52) = _ := hk 52 rfl; simp [e52]) ?_
        refine wpG_assign (fun a w hk => hk 53 rfl) ?_
        refine wpG_nil (fun w4' hl4' => ?_)
        refine fin_is ?_
        refine fin_is ?_
        refine fin_is ?_
        refine fin_is ?_
        refine fin_is ?_
        refine fin_is ?_
        refine fin_is ?_
        refine fin_is ?_
        refine fin_is ?_
        refine fin_is ?_
        refine fin_is ?_
        refine fin_is ?_
        refine fin_is ?_
        refine fin_is ?_
        refine fin_is ?_
        refine fin_is ?_
        refine fin_is ?_
        refine fin_is ?_
        refine fin_is ?_
        refine fin_nil ?_
        subst ha0
        clear k0 k1 k2 k9 k3 k10 ks
        go_wp2_with (fail)
        go_returns
        go_light
        exact ⟨by kernel_rfl, hl4.trans hl4'⟩
end Go.Proofs.Ytfkafejoacpclaa
