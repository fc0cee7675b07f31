/- The reference's tree: the two roots of a proof of the first ones. Conditions: texts of at most 1000 bytes, at most 64 leaves. -/
import Derived.Test.YtfkafejoacpclaaMerkRef3
namespace Go.Proofs.Ytfkafejoacpclaa
open Go.RowKit
set_option linter.unusedVariables false
set_option linter.unusedSimpArgs false
theorem pairN_le (a b : ByteArray) : (pairN a b).size ≤ 1000 := by unfold pairN; rw [shaN_32]; decide
theorem bothN_size (first : ByteArray) : ∀ (n m : Nat) (p : List ByteArray) (whole : Bool), first.size ≤ 1000 → (∀ x ∈ p, x.size ≤ 1000) → (bothN m n first p whole).1.size ≤ 1000 ∧ (bothN m n first p whole).2.size ≤ 1000 := by
  intro n
  induction n using Nat.strongRecOn with
  | _ n ih =>
    intro m p whole hf hp
    have z0 : (⟨#[]⟩ : ByteArray).size ≤ 1000 := by decide
    have s1 : (p.getLastD ⟨#[]⟩).size ≤ 1000 := by
      rcases List.eq_nil_or_concat p with rfl | ⟨q, x, rfl⟩
      · exact z0
      · rw [List.concat_eq_append] at *
        have : (q ++ [x]).getLastD ⟨#[]⟩ = x := by simp
        rw [this]
        exact hp x (by simp)
    have s2 : ∀ x ∈ p.dropLast, x.size ≤ 1000 := fun x hx => hp x ((List.dropLast_sublist p).subset hx)
    rw [bothN]
    split
    · split
      · exact ⟨hf, hf⟩
      · exact ⟨s1, s1⟩
    · split
      · exact ⟨z0, z0⟩
      · obtain ⟨k1, k2⟩ := sp_lt (n := n) (by omega)
        split
        · exact ⟨(ih (sp n) k2 m p.dropLast whole hf s2).1, pairN_le _ _⟩
        · exact ⟨pairN_le _ _, pairN_le _ _⟩
set_option maxHeartbeats 2000000 in
set_option maxRecDepth 100000 in
theorem refBoth_calls (first : ByteArray) (hfirst : first.size ≤ 1000) : ∀ (n m : Nat) (p : List ByteArray) (whole : Bool) (A : Option Addr) (cap : Nat) (w : World), 1 ≤ m → m ≤ n → n < 65 → p.length = lenN m n whole → p.length ≤ cap → (∀ x ∈ p, x.size ≤ 1000) → Kn.str.Rows w A p →
    Calls Try.prog 26 #[.int .i64 m, .int .i64 n, .string first, .slice A p.length cap, .bool whole] w fun e w' => e = .returned (.agg #[.string (bothN m n first p whole).1, .string (bothN m n first p whole).2]) ∧ Below w.heap.size w w' := by
  intro n
  induction n using Nat.strongRecOn with
  | _ n ih =>
    intro m p whole A cap w hm hmn hn hp hcap h1000 hr
    replace ih := Lib.hid ih
    obtain ⟨W0, hW0⟩ : ∃ W0, w.alloc (.cells #[.string ⟨#[]⟩, .string ⟨#[]⟩] 40) = W0 := ⟨_, rfl⟩
    have hP : Whole W0 w.heap.size 40 #[.string ⟨#[]⟩, .string ⟨#[]⟩] := by rw [← hW0]; exact Whole.new w _ _
    have hB : Later w W0 := by rw [← hW0]; exact (Later.refl w).alloc _
    by_cases h1 : m = n
    · have q1 : ((m : Int) == n) = true := by rw [beq_iff_eq]; omega
      cases whole
      · have hl : p.length = 1 := by rw [hp, lenN, if_pos h1]; rfl
        obtain ⟨x, rfl⟩ : ∃ x, p = [x] := List.length_eq_one_iff.1 hl
        have e : bothN m n first [x] false = (x, x) := by rw [bothN, if_pos h1]; rfl
        rw [e]
        obtain ⟨ad, rfl, hlt, hc⟩ := Kn.Rows.one_ hr (k := 0) (by simp)
        have ha : ad.add 0 = ad := by unfold Addr.add; split <;> simp_all
        rw [ha] at hc
        simp only [List.getElem_cons_zero] at hc
        have hc' := hB.cell hc
        have q1c : ((1 : Int) ≤ cap) = True := eq_true (by simp at hcap; omega)
        clear ih e hr hp
        simp only [List.length_singleton] at *
        subst h1
        go_enter Try.func26, Try.ntmps26
        go_upto_region 1 with (fail)
        try rw [hW0]
        clear hW0
        go_upto_region 5 with (fail)
        generalize hG : w.heap.size = G at *
        refine wp_region_grow 9 94 (by kernel_rfl) (by kernel_rfl) rfl (fun w5 hl5 => ?_)
        simp only [List.take_succ_cons, List.take_zero, List.drop_succ_cons, List.drop_zero]
        generalize ha : Act.mk _ _ = a0
        have k3 : a0.eval (.tmp 3) = .slice (some ad) 1 cap := by subst ha; rfl
        have k11 : a0.eval (.tmp 11) = .int .i64 0 := by subst ha; rfl
        have ks : a0.tmps.size = 94 := by subst ha; rfl
        have ha0 := ha.symm
        clear ha
        refine wpG_move (fun a w hk => (hk 3 rfl : a.eval (.tmp 3) = a0.eval (.tmp 3)).trans k3) ?_
        refine wpG_move (fun a w hk => (hk 11 rfl : a.eval (.tmp 11) = a0.eval (.tmp 11)).trans k11) ?_
        apply wpG_value'
        · rfl
        · (intro a wx hlx hk K hK; have e30 : a.eval (.tmp 30) = _ := hk 30 rfl; have e31 : a.eval (.tmp 31) = _ := hk 31 rfl; simp only [execOp, e30, e31]; clear e30 e31 hk; go_simp; exact hK)
        refine wpG_load1 (hl5.cell hc') Try.underlying9 rfl (fun a w hk => hk 32 rfl) ?_
        refine wpG_move (fun a w hk => (hk 3 rfl : a.eval (.tmp 3) = a0.eval (.tmp 3)).trans k3) ?_
        refine wpG_move (fun a w hk => (hk 11 rfl : a.eval (.tmp 11) = a0.eval (.tmp 11)).trans k11) ?_
        apply wpG_value'
        · rfl
        · (intro a wx hlx hk K hK; have e34 : a.eval (.tmp 34) = _ := hk 34 rfl; have e35 : a.eval (.tmp 35) = _ := hk 35 rfl; simp only [execOp, e34, e35]; clear e34 e35 hk; go_simp; exact hK)
        refine wpG_load1 (hl5.cell hc') Try.underlying9 rfl (fun a w hk => hk 36 rfl) ?_
        apply wpG_value'
        · rfl
        · (intro a wx hlx hk K hK; have e33 : a.eval (.tmp 33) = _ := hk 33 rfl; have e37 : a.eval (.tmp 37) = _ := hk 37 rfl; simp only [execOp, resolve, List.map_toArray, List.map_cons, List.map_nil, Option.map_some, Option.map_none, e33, e37]; clear e33 e37 hk; go_simp; exact hK)
        refine wpG_nil (fun w5' hl5' => ?_)
        refine fin_is ?_
        refine fin_is ?_
        refine fin_is ?_
        refine fin_is ?_
        refine fin_is ?_
        refine fin_is ?_
        refine fin_is ?_
        refine fin_is ?_
        refine fin_is ?_
        refine fin_nil ?_
        subst ha0
        have hP5 := (hl5.trans hl5').whole hP
        have p0 := hP5.cell 0
        have p1 := hP5.cell 1
        have r0 := hP5.frozen 0
        have r1 := hP5.frozen 1
        have hP2 := (hP5.put' 0 (.string x) rfl).put' 1 (.string x) rfl
        have hB2 : Later w _ := ((hB.trans (hl5.trans hl5')).setCell (p := ⟨G, 0, none⟩) (by simp; omega) (.string x)).setCell (p := ⟨G, 1, none⟩) (by simp; omega) (.string x)
        clear k3 k11 ks hP5
        go_wp2_with (fail)
        refine bodyPost_ret (results_cell_row rfl _ _ _ _ _ _ _ (by rfl) hP2 Try.underlying40 rfl (by kernel_rfl)) rfl ?_
        go_light
        exact ⟨rfl, hG ▸ hB2⟩
      · have e : bothN m n first p true = (first, first) := by rw [bothN, if_pos h1]; rfl
        rw [e]
        clear ih e hr
        subst h1
        have p0 := hP.cell 0
        have p1 := hP.cell 1
        have r0 := hP.frozen 0
        have r1 := hP.frozen 1
        have hP2 := (hP.put' 0 (.string first) rfl).put' 1 (.string first) rfl
        have hB2 : Later w _ := (hB.setCell (p := ⟨w.heap.size, 0, none⟩) (by simp) (.string first)).setCell (p := ⟨w.heap.size, 1, none⟩) (by simp) (.string first)
        go_enter Try.func26, Try.ntmps26
        go_upto_region 1 with (fail)
        try rw [hW0]
        clear hW0
        go_wp2_with (fail)
        refine bodyPost_ret (results_cell_row rfl _ _ _ _ _ _ _ (by rfl) hP2 Try.underlying40 rfl (by kernel_rfl)) rfl ?_
        go_light
        exact ⟨rfl, hB2⟩
    · have q1 : ((m : Int) == n) = false := by rw [beq_eq_false_iff_ne]; omega
      obtain ⟨k1, k2⟩ := sp_lt (n := n) (by omega)
      have SP := fun w => half_calls n (by omega) hn w
      have hd : lenN m n whole = if m ≤ sp n then lenN m (sp n) whole + 1 else lenN (m - sp n) (n - sp n) false + 1 := by
        conv => lhs; rw [lenN]
        rw [if_neg h1, dif_neg (by omega)]
      have hu : bothN m n first p whole = if m ≤ sp n then ((bothN m (sp n) first p.dropLast whole).1, pairN (bothN m (sp n) first p.dropLast whole).2 (p.getLastD ⟨#[]⟩)) else (pairN (p.getLastD ⟨#[]⟩) (bothN (m - sp n) (n - sp n) first p.dropLast false).1, pairN (p.getLastD ⟨#[]⟩) (bothN (m - sp n) (n - sp n) first p.dropLast false).2) := by
        conv => lhs; rw [bothN]
        rw [if_neg h1, dif_neg (by omega)]
      rcases List.eq_nil_or_concat p with rfl | ⟨q, x, rfl⟩
      · rw [hd] at hp
        split at hp <;> simp at hp
      rw [List.concat_eq_append] at *
      have ed : (q ++ [x]).dropLast = q := by simp
      have eg : (q ++ [x]).getLastD ⟨#[]⟩ = x := by simp
      rw [ed, eg] at hu
      obtain ⟨ad, rfl, hlt, hc⟩ := Kn.Rows.one_ hr (k := q.length) (by simp)
      rw [List.getElem_append_right (Nat.le_refl _)] at hc
      simp only [Nat.sub_self, List.getElem_singleton] at hc
      have hc0 := hB.cell hc
      have hr1 : Kn.str.Rows W0 (some ad) q := by
        have := rows_take hr q.length
        rw [List.take_left] at this
        exact this.below hB
      have sx : x.size ≤ 1000 := h1000 x (by simp)
      have sq : ∀ y ∈ q, y.size ≤ 1000 := fun y hy => h1000 y (by simp [hy])
      have el : (q ++ [x]).length = q.length + 1 := by simp
      rw [el] at hp hcap ⊢
      have hq : q.length + 1 ≤ 9223372036854775807 := by have := hr.1; simpa using this
      rw [hu]
      clear hu ed eg el hr h1000
      generalize hqn : q.length = z at *
      have jw1 : IntKind.i64.wrap ((z : Int) + 1 - 1) = z := by simp [IntKind.wrap, IntKind.signed, IntKind.bits]; omega
      have jw4 : ((z : Int) ≤ cap) = True := eq_true (by omega)
      have jw5 : ((z : Int) < (z : Int) + 1) = True := eq_true (by omega)
      have jw6 : IntKind.i64.wrap (z : Int) = z := by simp [IntKind.wrap, IntKind.signed, IntKind.bits]; omega
      have jw7 : (z : Int) + 1 - 1 = z := by omega
      generalize sp n = k at *
      replace SP := Lib.hid SP
      replace hr1 := Lib.hid hr1
      by_cases hik : m ≤ k
      · rw [if_pos hik] at hd ⊢
        have qik : ((m : Int) ≤ k) = True := eq_true (by omega)
        have IC := fun W hW => (hqn ▸ ih.out k k2 m q whole (some ad) cap W hm hik (by omega) (by omega) (by omega) sq hW : Calls Try.prog 26 #[.int .i64 m, .int .i64 k, .string first, .slice (some ad) z cap, .bool whole] W _)
        have sr := (bothN_size first k m q whole hfirst sq).2
        unfold pairN
        generalize bothN m k first q whole = r at *
        obtain ⟨ra, rb⟩ := r
        simp only at *
        have hs1 : ((⟨#[1]⟩ : ByteArray) ++ rb).size = 1 + rb.size := ByteArray.size_append
        have hs : (((⟨#[1]⟩ : ByteArray) ++ rb) ++ x).size = 1 + rb.size + x.size := by rw [ByteArray.size_append, hs1]
        have nolen : (9223372036854775807 < 1 + rb.size) = False := eq_false (by omega)
        have nolen2 : (9223372036854775807 < 1 + rb.size + x.size) = False := eq_false (by omega)
        have PP := fun W => refH_calls (((⟨#[1]⟩ : ByteArray) ++ rb) ++ x) (by omega) W
        generalize shaN (((⟨#[1]⟩ : ByteArray) ++ rb) ++ x) = X at *
        clear ih hs hs1 hd hp
        replace IC := Lib.hid (IC W0 hr1.out)
        replace PP := Lib.hid PP
        go_enter Try.func26, Try.ntmps26
        go_upto_region 1 with (fail)
        try rw [hW0]
        clear hW0
        go_upto_region 9 with (first | ((with_reducible refine (SP.out _).mono ?_); rintro e w4 ⟨rfl, hw⟩; obtain rfl := hw.symm) | ((with_reducible refine IC.out.mono ?_); rintro e w5 ⟨rfl, hb5⟩; replace hP := Later.whole hb5 hP; replace hB := Later.trans hB hb5; replace hc0 := Later.cell hb5 hc0; have hX := Whole.new w5 40 #[.string ra, .string rb]; replace hP := hP.alloc (.cells #[.string ra, .string rb] 40); replace hB := hB.alloc (.cells #[.string ra, .string rb] 40); replace hc0 := cell_alloc hc0 (.cells #[.string ra, .string rb] 40)))
        generalize hG6 : w5.heap.size = G6 at *
        generalize w5.alloc (.cells #[.string ra, .string rb] 40) = W7 at *
        generalize hG : w.heap.size = G at *
        have x0 := hX.cell 0
        have x1 := hX.cell 1
        refine wp_region_grow 12 94 (by kernel_rfl) (by kernel_rfl) rfl (fun w8 hl8 => ?_)
        simp only [List.take_succ_cons, List.take_zero, List.drop_succ_cons, List.drop_zero]
        generalize ha : Act.mk _ _ = a0
        have k3 : a0.eval (.tmp 3) = .slice (some ad) (z + 1) cap := by subst ha; rfl
        have k11 : a0.eval (.tmp 11) = .int .i64 z := by subst ha; rfl
        have k13 : a0.eval (.tmp 13) = .pointer (some ⟨G6, 0, none⟩) := by subst ha; rfl
        have ks : a0.tmps.size = 94 := by subst ha; rfl
        have ha0 := ha.symm
        clear ha
        apply wpG_value'
        · rfl
        · (intro a wx hlx hk K hK; have e13 : a.eval (.tmp 13) = _ := (hk 13 rfl : a.eval (.tmp 13) = a0.eval (.tmp 13)).trans k13; simp only [execOp, e13]; clear e13 hk; go_simp; exact hK)
        refine wpG_load1 (hl8.cell x0) Try.underlying9 rfl (fun a w hk => hk 52 rfl) ?_
        apply wpG_value'
        · rfl
        · (intro a wx hlx hk K hK; have e13 : a.eval (.tmp 13) = _ := (hk 13 rfl : a.eval (.tmp 13) = a0.eval (.tmp 13)).trans k13; simp only [execOp, e13]; clear e13 hk; go_simp; exact hK)
        refine wpG_load1 (hl8.cell x1) Try.underlying9 rfl (fun a w hk => hk 54 rfl) ?_
        apply wpG_value'
        · rfl
        · (intro a wx hlx hk K hK; have e55 : a.eval (.tmp 55) = _ := hk 55 rfl; simp only [execOp, e55]; clear e55 hk; go_simp; exact hK)
        refine wpG_move (fun a w hk => (hk 3 rfl : a.eval (.tmp 3) = a0.eval (.tmp 3)).trans k3) ?_
        refine wpG_move (fun a w hk => (hk 11 rfl : a.eval (.tmp 11) = a0.eval (.tmp 11)).trans k11) ?_
        apply wpG_value'
        · rfl
        · (intro a wx hlx hk K hK; have e57 : a.eval (.tmp 57) = _ := hk 57 rfl; have e58 : a.eval (.tmp 58) = _ := hk 58 rfl; simp only [execOp, e57, e58]; clear e57 e58 hk; go_simp; exact hK)
        refine wpG_load1 (hl8.cell hc0) Try.underlying9 rfl (fun a w hk => hk 59 rfl) ?_
        apply wpG_value'
        · rfl
        · (intro a wx hlx hk K hK; have e56 : a.eval (.tmp 56) = _ := hk 56 rfl; have e60 : a.eval (.tmp 60) = _ := hk 60 rfl; simp only [execOp, e56, e60]; clear e56 e60 hk; go_simp; exact hK)
        refine wpG_call _ _ Try.func58 (by kernel_rfl) (by kernel_rfl) (fun W _ => PP.out W) (fun a w hk => by have e61 : a.eval (.tmp 61) = _ := hk 61 rfl; simp [e61]) ?_
        apply wpG_value'
        · rfl
        · (intro a wx hlx hk K hK; have e53 : a.eval (.tmp 53) = _ := hk 53 rfl; have e62 : a.eval (.tmp 62) = _ := hk 62 rfl; simp only [execOp, resolve, List.map_toArray, List.map_cons, List.map_nil, Option.map_some, Option.map_none, e53, e62]; clear e53 e62 hk; go_simp; exact hK)
        refine wpG_nil (fun w8' hl8' => ?_)
        refine fin_is ?_
        refine fin_is ?_
        refine fin_is ?_
        refine fin_is ?_
        refine fin_is ?_
        refine fin_is ?_
        refine fin_is ?_
        refine fin_is ?_
        refine fin_is ?_
        refine fin_is ?_
        refine fin_is ?_
        refine fin_is ?_
        refine fin_nil ?_
        subst ha0
        have hP5 := (hl8.trans hl8').whole hP
        have p0 := hP5.cell 0
        have p1 := hP5.cell 1
        have r0 := hP5.frozen 0
        have r1 := hP5.frozen 1
        have hP2 := (hP5.put' 0 (.string ra) rfl).put' 1 (.string X) rfl
        have hB2 : Later w _ := ((hB.trans (hl8.trans hl8')).setCell (p := ⟨G, 0, none⟩) (by simp; omega) (.string ra)).setCell (p := ⟨G, 1, none⟩) (by simp; omega) (.string X)
        clear k3 k11 k13 ks hP5 hX x0 x1
        go_wp2_with (fail)
        refine bodyPost_ret (results_cell_row rfl _ _ _ _ _ _ _ (by rfl) hP2 Try.underlying40 rfl (by kernel_rfl)) rfl ?_
        go_light
        exact ⟨rfl, hG ▸ hB2⟩
      · rw [if_neg hik] at hd ⊢
        have qik : ((m : Int) ≤ k) = False := eq_false (by omega)
        have IC := fun W hW => (hqn ▸ ih.out (n - k) (by omega) (m - k) q false (some ad) cap W (by omega) (by omega) (by omega) (by omega) (by omega) sq hW : Calls Try.prog 26 #[.int .i64 ((m - k : Nat) : Int), .int .i64 ((n - k : Nat) : Int), .string first, .slice (some ad) z cap, .bool false] W _)
        have sr := bothN_size first (n - k) (m - k) q false hfirst sq
        unfold pairN
        generalize bothN (m - k) (n - k) first q false = r at *
        obtain ⟨ra, rb⟩ := r
        simp only at *
        have hs1 : ((⟨#[1]⟩ : ByteArray) ++ x).size = 1 + x.size := ByteArray.size_append
        have hsa : (((⟨#[1]⟩ : ByteArray) ++ x) ++ ra).size = 1 + x.size + ra.size := by rw [ByteArray.size_append, hs1]
        have hsb : (((⟨#[1]⟩ : ByteArray) ++ x) ++ rb).size = 1 + x.size + rb.size := by rw [ByteArray.size_append, hs1]
        have nolen : (9223372036854775807 < 1 + x.size) = False := eq_false (by omega)
        have nolena : (9223372036854775807 < 1 + x.size + ra.size) = False := eq_false (by omega)
        have nolenb : (9223372036854775807 < 1 + x.size + rb.size) = False := eq_false (by omega)
        have PA := fun W => refH_calls (((⟨#[1]⟩ : ByteArray) ++ x) ++ ra) (by omega) W
        have PB := fun W => refH_calls (((⟨#[1]⟩ : ByteArray) ++ x) ++ rb) (by omega) W
        generalize shaN (((⟨#[1]⟩ : ByteArray) ++ x) ++ ra) = XA at *
        generalize shaN (((⟨#[1]⟩ : ByteArray) ++ x) ++ rb) = XB at *
        have wik : IntKind.i64.wrap ((m : Int) - k) = ((m - k : Nat) : Int) := by simp [IntKind.wrap, IntKind.signed, IntKind.bits]; omega
        have wnk : IntKind.i64.wrap ((n : Int) - k) = ((n - k : Nat) : Int) := by simp [IntKind.wrap, IntKind.signed, IntKind.bits]; omega
        clear ih hsa hsb hs1 hd hp
        replace IC := Lib.hid (IC W0 hr1.out)
        replace PA := Lib.hid PA
        replace PB := Lib.hid PB
        go_enter Try.func26, Try.ntmps26
        go_upto_region 1 with (fail)
        try rw [hW0]
        clear hW0
        go_upto_region 11 with (first | ((with_reducible refine (SP.out _).mono ?_); rintro e w4 ⟨rfl, hw⟩; obtain rfl := hw.symm) | ((with_reducible refine IC.out.mono ?_); rintro e w5 ⟨rfl, hb5⟩; replace hP := Later.whole hb5 hP; replace hB := Later.trans hB hb5; replace hc0 := Later.cell hb5 hc0; have hX := Whole.new w5 40 #[.string ra, .string rb]; replace hP := hP.alloc (.cells #[.string ra, .string rb] 40); replace hB := hB.alloc (.cells #[.string ra, .string rb] 40); replace hc0 := cell_alloc hc0 (.cells #[.string ra, .string rb] 40)))
        generalize hG6 : w5.heap.size = G6 at *
        generalize w5.alloc (.cells #[.string ra, .string rb] 40) = W7 at *
        generalize hG : w.heap.size = G at *
        have x0 := hX.cell 0
        have x1 := hX.cell 1
        refine wp_region_grow 19 94 (by kernel_rfl) (by kernel_rfl) rfl (fun w8 hl8 => ?_)
        simp only [List.take_succ_cons, List.take_zero, List.drop_succ_cons, List.drop_zero]
        generalize ha : Act.mk _ _ = a0
        have k3 : a0.eval (.tmp 3) = .slice (some ad) (z + 1) cap := by subst ha; rfl
        have k11 : a0.eval (.tmp 11) = .int .i64 z := by subst ha; rfl
        have k14 : a0.eval (.tmp 14) = .pointer (some ⟨G6, 0, none⟩) := by subst ha; rfl
        have ks : a0.tmps.size = 94 := by subst ha; rfl
        have ha0 := ha.symm
        clear ha
        refine wpG_move (fun a w hk => (hk 3 rfl : a.eval (.tmp 3) = a0.eval (.tmp 3)).trans k3) ?_
        refine wpG_move (fun a w hk => (hk 11 rfl : a.eval (.tmp 11) = a0.eval (.tmp 11)).trans k11) ?_
        apply wpG_value'
        · rfl
        · (intro a wx hlx hk K hK; have e75 : a.eval (.tmp 75) = _ := hk 75 rfl; have e76 : a.eval (.tmp 76) = _ := hk 76 rfl; simp only [execOp, e75, e76]; clear e75 e76 hk; go_simp; exact hK)
        refine wpG_load1 (hl8.cell hc0) Try.underlying9 rfl (fun a w hk => hk 77 rfl) ?_
        apply wpG_value'
        · rfl
        · (intro a wx hlx hk K hK; have e78 : a.eval (.tmp 78) = _ := hk 78 rfl; simp only [execOp, e78]; clear e78 hk; go_simp; exact hK)
        apply wpG_value'
        · rfl
        · (intro a wx hlx hk K hK; have e14 : a.eval (.tmp 14) = _ := (hk 14 rfl : a.eval (.tmp 14) = a0.eval (.tmp 14)).trans k14; simp only [execOp, e14]; clear e14 hk; go_simp; exact hK)
        refine wpG_load1 (hl8.cell x0) Try.underlying9 rfl (fun a w hk => hk 80 rfl) ?_
        apply wpG_value'
        · rfl
        · (intro a wx hlx hk K hK; have e79 : a.eval (.tmp 79) = _ := hk 79 rfl; have e81 : a.eval (.tmp 81) = _ := hk 81 rfl; simp only [execOp, e79, e81]; clear e79 e81 hk; go_simp; exact hK)
        refine wpG_call _ _ Try.func58 (by kernel_rfl) (by kernel_rfl) (fun W _ => PA.out W) (fun a w hk => by have e82 : a.eval (.tmp 82) = _ := hk 82 rfl; simp [e82]) ?_
        refine wpG_move (fun a w hk => (hk 3 rfl : a.eval (.tmp 3) = a0.eval (.tmp 3)).trans k3) ?_
        refine wpG_move (fun a w hk => (hk 11 rfl : a.eval (.tmp 11) = a0.eval (.tmp 11)).trans k11) ?_
        apply wpG_value'
        · rfl
        · (intro a wx hlx hk K hK; have e84 : a.eval (.tmp 84) = _ := hk 84 rfl; have e85 : a.eval (.tmp 85) = _ := hk 85 rfl; simp only [execOp, e84, e85]; clear e84 e85 hk; go_simp; exact hK)
        refine wpG_load1 (hl8.cell hc0) Try.underlying9 rfl (fun a w hk => hk 86 rfl) ?_
        apply wpG_value'
        · rfl
        · (intro a wx hlx hk K hK; have e87 : a.eval (.tmp 87) = _ := hk 87 rfl; simp only [execOp, e87]; clear e87 hk; go_simp; exact hK)
        apply wpG_value'
        · rfl
        · (intro a wx hlx hk K hK; have e14 : a.eval (.tmp 14) = _ := (hk 14 rfl : a.eval (.tmp 14) = a0.eval (.tmp 14)).trans k14; simp only [execOp, e14]; clear e14 hk; go_simp; exact hK)
        refine wpG_load1 (hl8.cell x1) Try.underlying9 rfl (fun a w hk => hk 89 rfl) ?_
        apply wpG_value'
        · rfl
        · (intro a wx hlx hk K hK; have e88 : a.eval (.tmp 88) = _ := hk 88 rfl; have e90 : a.eval (.tmp 90) = _ := hk 90 rfl; simp only [execOp, e88, e90]; clear e88 e90 hk; go_simp; exact hK)
        refine wpG_call _ _ Try.func58 (by kernel_rfl) (by kernel_rfl) (fun W _ => PB.out W) (fun a w hk => by have e91 : a.eval (.tmp 91) = _ := hk 91 rfl; simp [e91]) ?_
        apply wpG_value'
        · rfl
        · (intro a wx hlx hk K hK; have e83 : a.eval (.tmp 83) = _ := hk 83 rfl; have e92 : a.eval (.tmp 92) = _ := hk 92 rfl; simp only [execOp, resolve, List.map_toArray, List.map_cons, List.map_nil, Option.map_some, Option.map_none, e83, e92]; clear e83 e92 hk; go_simp; exact hK)
        refine wpG_nil (fun w8' hl8' => ?_)
        refine fin_is ?_
        refine fin_is ?_
        refine fin_is ?_
        refine fin_is ?_
        refine fin_is ?_
        refine fin_is ?_
        refine fin_is ?_
        refine fin_is ?_
        refine fin_is ?_
        refine fin_is ?_
        refine fin_is ?_
        refine fin_is ?_
        refine fin_is ?_
        refine fin_is ?_
        refine fin_is ?_
        refine fin_is ?_
        refine fin_is ?_
        refine fin_is ?_
        refine fin_is ?_
        refine fin_nil ?_
        subst ha0
        have hP5 := (hl8.trans hl8').whole hP
        have p0 := hP5.cell 0
        have p1 := hP5.cell 1
        have r0 := hP5.frozen 0
        have r1 := hP5.frozen 1
        have hP2 := (hP5.put' 0 (.string XA) rfl).put' 1 (.string XB) rfl
        have hB2 : Later w _ := ((hB.trans (hl8.trans hl8')).setCell (p := ⟨G, 0, none⟩) (by simp; omega) (.string XA)).setCell (p := ⟨G, 1, none⟩) (by simp; omega) (.string XB)
        clear k3 k11 k14 ks hP5 hX x0 x1
        go_wp2_with (fail)
        refine bodyPost_ret (results_cell_row rfl _ _ _ _ _ _ _ (by rfl) hP2 Try.underlying40 rfl (by kernel_rfl)) rfl ?_
        go_light
        exact ⟨rfl, hG ▸ hB2⟩
end Go.Proofs.Ytfkafejoacpclaa
