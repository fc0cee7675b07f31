/- The program's tree: the two roots that a proof of the first ones makes. Conditions: texts of at most 1000 bytes, at most 2^20 leaves. -/
import Derived.Test.YtfkafejoacpclaaMerkUp
namespace Go.Proofs.Ytfkafejoacpclaa
open Go.RowKit
set_option linter.unusedVariables false
set_option linter.unusedSimpArgs false
theorem bothT_size (first : ByteArray) : ∀ (n m : Nat) (whole : Bool) (p : Tk), first.size ≤ 1000 → (∀ x ∈ p.l, x.size ≤ 1000) → (bothT m n first whole p).1.1.size ≤ 1000 ∧ (bothT m n first whole p).1.2.size ≤ 1000 := by
  intro n
  induction n using Nat.strongRecOn with
  | _ n ih =>
    intro m whole p hf hp
    have z0 : (⟨#[]⟩ : ByteArray).size ≤ 1000 := by decide
    have s1 := (take_sizes hp).1
    have s2 := (take_sizes hp).2
    rw [bothT]
    split
    · exact ⟨z0, z0⟩
    · split
      · split
        · exact ⟨hf, hf⟩
        · exact ⟨s1, s1⟩
      · split
        · exact ⟨z0, z0⟩
        · obtain ⟨k1, k2⟩ := sp_lt (n := n) (by omega)
          split
          · exact ⟨(ih (sp n) k2 m whole p.take.2 hf s2).1, pairN_size _ _⟩
          · exact ⟨pairN_size _ _, pairN_size _ _⟩
set_option maxHeartbeats 2000000 in
set_option maxRecDepth 100000 in
theorem bothT_calls (W0 : World) (g : Nat) (first : ByteArray) (hfirst : first.size ≤ 1000) : ∀ (n m : Nat) (whole : Bool) (p : Tk) (W : World), 1 ≤ m → m ≤ n → n ≤ 1048576 → (∀ x ∈ p.l, x.size ≤ 1000) → TkAt W0 W g (arr .u32 (K64 ++ H8.L)) p →
    Calls Try.prog 65 #[.pointer (some ⟨g, 0, none⟩), .int .i64 m, .int .i64 n, .string first, .bool whole] W fun e w' => e = .returned (.tuple #[.string (bothT m n first whole p).1.1, .string (bothT m n first whole p).1.2]) ∧ TkAt W0 w' g (arr .u32 (K64 ++ H8.L)) (bothT m n first whole p).2 ∧ W.grownBy w' (some g) := by
  intro n
  induction n using Nat.strongRecOn with
  | _ n ih =>
    intro m whole p W hm1 hmn hn20 hp h
    have ht : (arr .u32 (K64 ++ H8.L)).size = 72 := by kernel_rfl
    have hsz : (Try.prog.info? 29).map (·.size) = some (arr .u32 (K64 ++ H8.L)).size := by kernel_rfl
    have PC := fun (a b : ByteArray) (ha : a.size ≤ 1000) (hb : b.size ≤ 1000) w => pair_calls a b (by omega) (by omega) w
    generalize arr .u32 (K64 ++ H8.L) = tb at *
    replace PC := Lib.hid PC
    replace ih := Lib.hid ih
    obtain ⟨v0, h1⟩ := h.at_
    have c73 : W.cell? ⟨g, 73, none⟩ = some (.bool p.bad) := (h1.cell 73).trans (tkA_73 ht _ _)
    clear h1
    cases hbad : p.bad
    · rw [hbad] at c73
      by_cases h1 : m = n
      · have q1 : ((m : Int) == n) = true := by rw [beq_iff_eq]; omega
        cases whole
        · have e : bothT m n first false p = ((p.take.1, p.take.1), p.take.2) := by rw [bothT, hbad, if_neg (by simp), if_pos h1]; rfl
          rw [e]
          have TC := take_calls ht W0 W g p h
          generalize p.take.1 = x at *
          generalize p.take.2 = p2 at *
          clear ih PC e h hp
          replace TC := Lib.hid TC
          subst h1
          go_enter Try.func65, Try.ntmps65
          go_wp2_with ((with_reducible refine TC.out.mono ?_); rintro e w4 ⟨rfl, hT, hG⟩)
          go_returns
          go_light
          exact ⟨rfl, hT, hG⟩
        · have e : bothT m n first true p = ((first, first), p) := by rw [bothT, hbad, if_neg (by simp), if_pos h1]; rfl
          rw [e]
          clear ih PC e
          replace h := Lib.hid h
          subst h1
          go_enter Try.func65, Try.ntmps65
          go_wp2_with (fail)
          go_returns
          go_light
          exact ⟨rfl, h.out, only_same _ _⟩
      · have q1 : ((m : Int) == n) = false := by rw [beq_eq_false_iff_ne]; omega
        obtain ⟨k1, k2⟩ := sp_lt (n := n) (by omega)
        have SP := fun w => split_calls n (by omega) w
        have hroot : bothT m n first whole p = if m ≤ sp n then (((bothT m (sp n) first whole p.take.2).1.1, pairN (bothT m (sp n) first whole p.take.2).1.2 p.take.1), (bothT m (sp n) first whole p.take.2).2) else ((pairN p.take.1 (bothT (m - sp n) (n - sp n) first false p.take.2).1.1, pairN p.take.1 (bothT (m - sp n) (n - sp n) first false p.take.2).1.2), (bothT (m - sp n) (n - sp n) first false p.take.2).2) := by
          conv => lhs; rw [bothT]
          rw [hbad, if_neg (by simp), if_neg h1, dif_neg (by omega)]
        generalize sp n = k at *
        have TC := take_calls ht W0 W g p h
        obtain ⟨s1, s2⟩ := take_sizes hp
        generalize p.take.1 = x at *
        generalize p.take.2 = p2 at *
        clear hp h
        replace TC := Lib.hid TC
        replace SP := Lib.hid SP
        by_cases hik : m ≤ k
        · rw [if_pos hik] at hroot
          have qik : ((m : Int) ≤ k) = True := eq_true (by omega)
          have IC := fun W' hW => ih.out k k2 m whole p2 W' hm1 hik (by omega) s2 hW
          have sz := (bothT_size first k m whole p2 hfirst s2).2
          rw [hroot]
          generalize bothT m k first whole p2 = r at *
          have PP := fun w => PC.out r.1.2 x sz s1 w
          generalize pairN r.1.2 x = X at *
          clear ih PC hroot sz s1 s2
          replace IC := Lib.hid IC
          replace PP := Lib.hid PP
          go_enter Try.func65, Try.ntmps65
          go_wp2_with (first | ((with_reducible refine (SP.out _).mono ?_); rintro e w4 ⟨rfl, hw⟩; obtain rfl := hw.symm) | ((with_reducible refine TC.out.mono ?_); rintro e w4 ⟨rfl, hT, hG⟩) | ((with_reducible refine (IC.out _ hT).mono ?_); rintro e w6 ⟨rfl, hT6, hG6⟩; replace hT := hT6; replace hG := only_then hG hG6; clear hT6 hG6; obtain ⟨v6, h6⟩ := hT.at_) | ((with_reducible apply wl_loadIn (ty := 29) tb h6 (tkA_tb ht _ _) Try.underlying29); rfl; rfl; rfl; exact hsz) | ((with_reducible refine (PP.out _).mono ?_); rintro e w7 ⟨rfl, hb7⟩; replace hT := hT.later hb7; replace hG := only_then hG (only_below hb7 _); clear hb7))
          go_returns
          go_light
          exact ⟨rfl, hT, hG⟩
        · rw [if_neg hik] at hroot
          have qik : ((m : Int) ≤ k) = False := eq_false (by omega)
          have IC := fun W' hW => ih.out (n - k) (by omega) (m - k) false p2 W' (by omega) (by omega) (by omega) s2 hW
          have sz := bothT_size first (n - k) (m - k) false p2 hfirst s2
          rw [hroot]
          generalize bothT (m - k) (n - k) first false p2 = r at *
          have PA := fun w => PC.out x r.1.1 s1 sz.1 w
          have PB := fun w => PC.out x r.1.2 s1 sz.2 w
          generalize pairN x r.1.1 = XA at *
          generalize pairN x r.1.2 = XB at *
          have wik : IntKind.i64.wrap ((m : Int) - k) = ((m - k : Nat) : Int) := by simp [IntKind.wrap, IntKind.signed, IntKind.bits]; omega
          have wnk : IntKind.i64.wrap ((n : Int) - k) = ((n - k : Nat) : Int) := by simp [IntKind.wrap, IntKind.signed, IntKind.bits]; omega
          clear ih PC hroot sz s1 s2
          replace IC := Lib.hid IC
          replace PA := Lib.hid PA
          replace PB := Lib.hid PB
          go_enter Try.func65, Try.ntmps65
          go_upto_region 14 with (first | ((with_reducible refine (SP.out _).mono ?_); rintro e w4 ⟨rfl, hw⟩; obtain rfl := hw.symm) | ((with_reducible refine TC.out.mono ?_); rintro e w4 ⟨rfl, hT, hG⟩) | ((with_reducible refine (IC.out _ hT).mono ?_); rintro e w6 ⟨rfl, hT6, hG6⟩; replace hT := hT6; replace hG := only_then hG hG6; clear hT6 hG6; obtain ⟨v6, h6⟩ := hT.at_))
          refine wp_region_grow 16 83 (by kernel_rfl) (by kernel_rfl) rfl (fun w8 hl8 => ?_)
          simp only [List.take_succ_cons, List.take_zero, List.drop_succ_cons, List.drop_zero]
          generalize ha : Act.mk _ _ = a0
          have k0 : a0.eval (.tmp 0) = .pointer (some ⟨g, 0, none⟩) := by subst ha; rfl
          have k14 : a0.eval (.tmp 14) = .string x := by subst ha; rfl
          have k17 : a0.eval (.tmp 17) = .string r.1.1 := by subst ha; rfl
          have k18 : a0.eval (.tmp 18) = .string r.1.2 := by subst ha; rfl
          have ks : a0.tmps.size = 83 := by subst ha; rfl
          have ha0 := ha.symm
          clear ha
          refine wpG_move (fun a w hk => (hk 0 rfl : a.eval (.tmp 0) = a0.eval (.tmp 0)).trans k0) ?_
          apply wpG_value'
          · rfl
          · (intro a wx hlx hk K hK; have e69 : a.eval (.tmp 69) = _ := hk 69 rfl; simp only [execOp, e69]; clear e69 hk; go_simp; exact hK)
          apply wpG_value'
          · rfl
          · (intro a wx hlx hk K hK; have e70 : a.eval (.tmp 70) = _ := hk 70 rfl; simp only [execOp, e70]; clear e70 hk; go_simp; exact hK)
          refine wpG_loadIn (tb) (hl8.whole h6) (tkA_tb ht _ _) Try.underlying29 rfl (hsz) (fun a w hk => hk 71 rfl) ?_
          refine wpG_move (fun a w hk => (hk 14 rfl : a.eval (.tmp 14) = a0.eval (.tmp 14)).trans k14) ?_
          refine wpG_move (fun a w hk => (hk 17 rfl : a.eval (.tmp 17) = a0.eval (.tmp 17)).trans k17) ?_
          refine wpG_call _ _ Try.func61 (by kernel_rfl) (by kernel_rfl) (fun W _ => PA.out W) (fun a w hk => by have e72 : a.eval (.tmp 72) = _ := hk 72 rfl; have e73 : a.eval (.tmp 73) = _ := hk 73 rfl; have e74 : a.eval (.tmp 74) = _ := hk 74 rfl; simp [e72, e73, e74]) ?_
          refine wpG_move (fun a w hk => (hk 0 rfl : a.eval (.tmp 0) = a0.eval (.tmp 0)).trans k0) ?_
          apply wpG_value'
          · rfl
          · (intro a wx hlx hk K hK; have e76 : a.eval (.tmp 76) = _ := hk 76 rfl; simp only [execOp, e76]; clear e76 hk; go_simp; exact hK)
          apply wpG_value'
          · rfl
          · (intro a wx hlx hk K hK; have e77 : a.eval (.tmp 77) = _ := hk 77 rfl; simp only [execOp, e77]; clear e77 hk; go_simp; exact hK)
          refine wpG_loadIn (tb) (hl8.whole h6) (tkA_tb ht _ _) Try.underlying29 rfl (hsz) (fun a w hk => hk 78 rfl) ?_
          refine wpG_move (fun a w hk => (hk 14 rfl : a.eval (.tmp 14) = a0.eval (.tmp 14)).trans k14) ?_
          refine wpG_move (fun a w hk => (hk 18 rfl : a.eval (.tmp 18) = a0.eval (.tmp 18)).trans k18) ?_
          refine wpG_call _ _ Try.func61 (by kernel_rfl) (by kernel_rfl) (fun W _ => PB.out W) (fun a w hk => by have e79 : a.eval (.tmp 79) = _ := hk 79 rfl; have e80 : a.eval (.tmp 80) = _ := hk 80 rfl; have e81 : a.eval (.tmp 81) = _ := hk 81 rfl; simp [e79, e80, e81]) ?_
          refine wpG_assign (fun a w hk => hk 75 rfl) ?_
          refine wpG_assign (fun a w hk => hk 82 rfl) ?_
          refine wpG_nil (fun w8' hl8' => ?_)
          refine fin_is ?_
          refine fin_is ?_
          refine fin_is ?_
          refine fin_is ?_
          refine fin_is ?_
          refine fin_is ?_
          refine fin_is ?_
          refine fin_is ?_
          refine fin_is ?_
          refine fin_is ?_
          refine fin_is ?_
          refine fin_is ?_
          refine fin_is ?_
          refine fin_is ?_
          refine fin_is ?_
          refine fin_is ?_
          refine fin_nil ?_
          subst ha0
          clear k0 k14 k17 k18 ks
          go_wp2_with (fail)
          go_returns
          go_light
          exact ⟨by kernel_rfl, hT.later (hl8.trans hl8'), only_then hG (only_below (hl8.trans hl8') _)⟩
    · rw [hbad] at c73
      have e : bothT m n first whole p = ((⟨#[]⟩, ⟨#[]⟩), p) := bothT_bad _ _ _ _ _ hbad
      rw [e]
      clear ih PC e
      replace h := Lib.hid h
      go_enter Try.func65, Try.ntmps65
      go_wp2_with (fail)
      go_returns
      go_light
      exact ⟨rfl, h.out, only_same _ _⟩
end Go.Proofs.Ytfkafejoacpclaa
