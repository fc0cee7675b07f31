/- The program's tree: the root that a leaf's proof makes. Conditions: texts of at most 1000 bytes, at most 2^20 leaves. -/
import Derived.Test.YtfkafejoacpclaaMerkTake
namespace Go.Proofs.Ytfkafejoacpclaa
open Go.RowKit
set_option linter.unusedVariables false
set_option linter.unusedSimpArgs false
theorem take_calls {tb : Array Value} (ht : tb.size = 72) (W0 W : World) (g : Nat) (p : Tk) (h : TkAt W0 W g tb p) :
    Calls Try.prog 104 #[.pointer (some ⟨g, 0, none⟩)] W fun e w' => e = .returned (.string p.take.1) ∧ TkAt W0 w' g tb p.take.2 ∧ W.grownBy w' (some g) := by
  obtain ⟨l, bad⟩ := p
  rcases List.eq_nil_or_concat l with rfl | ⟨q, x, rfl⟩
  · exact take_nil ht W0 W g bad h
  · rw [List.concat_eq_append] at h ⊢
    have e : (⟨q ++ [x], bad⟩ : Tk).take = (x, ⟨q, bad⟩) := by unfold Tk.take; simp
    rw [e]
    exact take_some ht W0 W g q x bad h
theorem take_sizes {p : Tk} (h : ∀ x ∈ p.l, x.size ≤ 1000) : p.take.1.size ≤ 1000 ∧ ∀ x ∈ p.take.2.l, x.size ≤ 1000 := by
  obtain ⟨l, bad⟩ := p
  rcases List.eq_nil_or_concat l with rfl | ⟨q, x, rfl⟩
  · exact ⟨by show (⟨#[]⟩ : ByteArray).size ≤ 1000; decide, fun x hx => by simp [Tk.take] at hx⟩
  · rw [List.concat_eq_append] at h ⊢
    have e : (⟨q ++ [x], bad⟩ : Tk).take = (x, ⟨q, bad⟩) := by unfold Tk.take; simp
    rw [e]
    exact ⟨h x (by simp), fun y hy => h y (by simp [hy])⟩
theorem pairN_size (a b : ByteArray) : (pairN a b).size ≤ 1000 := by unfold pairN; rw [shaN_32]; decide
theorem rootT_size (leaf : ByteArray) (i n : Nat) (p : Tk) (h : leaf.size ≤ 1000) : (rootT leaf i n p).1.size ≤ 1000 := by
  rw [rootT]
  split
  · exact h
  · split
    · exact pairN_size _ _
    · exact pairN_size _ _
theorem TkAt.at_ {W0 W : World} {g : Nat} {tb : Array Value} {p : Tk} (h : TkAt W0 W g tb p) : ∃ v, Whole W g 104 (tkA tb v p.bad) := by
  obtain ⟨⟨A, cap, h1, -⟩, -, -⟩ := h
  exact ⟨_, h1⟩
theorem wpAny_cast {P : Program} {md : Region.Mode} {ops : Array Oper} {Q : Exit → Act → World → Prop} {fuel fuel' : Nat} {listed listed' : Array Bool} {a : Act} {w : World} (hf : fuel' = fuel) (hl : listed' = listed) (h : wpAny P md ops Q fuel listed a w) : wpAny P md ops Q fuel' listed' a w := by
  rw [hf, hl]
  exact h
theorem wpAny_gen {P : Program} {md : Region.Mode} {ops : Array Oper} {Q : Exit → Act → World → Prop} {fuel : Nat} {listed : Array Bool} {a : Act} {w : World} (h : ∀ a1, a1 = a → wpAny P md ops Q fuel listed a1 w) : wpAny P md ops Q fuel listed a w := h a rfl
set_option maxHeartbeats 2000000 in
set_option maxRecDepth 100000 in
theorem rootT_calls (W0 : World) (g : Nat) (leaf : ByteArray) (hleaf : leaf.size ≤ 1000) : ∀ (n i : Nat) (p : Tk) (W : World), i < n → n ≤ 1048576 → (∀ x ∈ p.l, x.size ≤ 1000) → TkAt W0 W g (arr .u32 (K64 ++ H8.L)) p →
    Calls Try.prog 63 #[.pointer (some ⟨g, 0, none⟩), .string leaf, .int .i64 i, .int .i64 n] W fun e w' => e = .returned (.string (rootT leaf i n p).1) ∧ TkAt W0 w' g (arr .u32 (K64 ++ H8.L)) (rootT leaf i n p).2 ∧ W.grownBy w' (some g) := by
  intro n
  induction n using Nat.strongRecOn with
  | _ n ih =>
    intro i p W hi hn20 hp h
    have ht : (arr .u32 (K64 ++ H8.L)).size = 72 := by kernel_rfl
    have hsz : (Try.prog.info? 29).map (·.size) = some (arr .u32 (K64 ++ H8.L)).size := by kernel_rfl
    have PC := fun (a b : ByteArray) (ha : a.size ≤ 1000) (hb : b.size ≤ 1000) w => pair_calls a b (by omega) (by omega) w
    generalize arr .u32 (K64 ++ H8.L) = tb at *
    replace PC := Lib.hid PC
    replace ih := Lib.hid ih
    obtain ⟨v0, h1⟩ := h.at_
    have c73 : W.cell? ⟨g, 73, none⟩ = some (.bool p.bad) := (h1.cell 73).trans (tkA_73 ht _ _)
    clear h1
    by_cases h1 : n = 1
    · have q1 : ((n : Int) == 1) = true := by rw [beq_iff_eq]; omega
      have e : rootT leaf i n p = (leaf, p) := by rw [rootT, dif_pos (.inl (by omega))]
      rw [e]
      subst h1
      clear ih PC e
      replace h := Lib.hid h
      go_enter Try.func63, Try.ntmps63
      go_wp2_with (fail)
      go_returns
      go_light
      exact ⟨rfl, h.out, only_same _ _⟩
    · have q1 : ((n : Int) == 1) = false := by rw [beq_eq_false_iff_ne]; omega
      cases hbad : p.bad
      · rw [hbad] at c73
        obtain ⟨k1', k2'⟩ := sp_lt (n := n) (by omega)
        have SP := fun w => split_calls n (by omega) w
        have hroot : rootT leaf i n p = if i < sp n then (pairN (rootT leaf i (sp n) p.take.2).1 p.take.1, (rootT leaf i (sp n) p.take.2).2) else (pairN p.take.1 (rootT leaf (i - sp n) (n - sp n) p.take.2).1, (rootT leaf (i - sp n) (n - sp n) p.take.2).2) := by
          conv => lhs; rw [rootT]
          rw [dif_neg (by rw [hbad]; simp; omega)]
        generalize sp n = k at *
        have TC := take_calls ht W0 W g p h
        obtain ⟨s1, s2⟩ := take_sizes hp
        generalize p.take.1 = x at *
        generalize p.take.2 = p2 at *
        clear hp h
        replace TC := Lib.hid TC
        replace SP := Lib.hid SP
        by_cases hik : i < k
        · rw [if_pos hik] at hroot
          have qik : ((i : Int) < k) = True := eq_true (by omega)
          have IC := fun W' hW => ih.out k k2' i p2 W' hik (by omega) s2 hW
          have sz := rootT_size leaf i k p2 hleaf
          rw [hroot]
          generalize rootT leaf i k p2 = r at *
          have PP := fun w => PC.out r.1 x sz s1 w
          generalize pairN r.1 x = X at *
          clear ih PC hroot sz s1 s2
          replace IC := Lib.hid IC
          replace PP := Lib.hid PP
          go_enter Try.func63, Try.ntmps63
          go_upto_region 6 with (first | ((with_reducible refine (SP.out _).mono ?_); rintro e w4 ⟨rfl, hw⟩; obtain rfl := hw.symm) | ((with_reducible refine TC.out.mono ?_); rintro e w4 ⟨rfl, hT, hG⟩))
          refine wp_region_any (by kernel_rfl) ?_
          change wpAny _ _ _ _ _ _ _ (World.drew _)
          replace hT := hT.later ((Later.refl _).drew)
          replace hG := only_drew hG
          generalize w4.drew = W5 at *
          generalize ha : Act.mk _ _ = a0
          have k0 : a0.eval (.tmp 0) = .pointer (some ⟨g, 0, none⟩) := by subst ha; rfl
          have k1 : a0.eval (.tmp 1) = .string leaf := by subst ha; rfl
          have k2 : a0.eval (.tmp 2) = .int .i64 i := by subst ha; rfl
          have k3 : a0.eval (.tmp 3) = .int .i64 n := by subst ha; rfl
          have k9 : a0.eval (.tmp 9) = .int .i64 k := by subst ha; rfl
          have k10 : a0.eval (.tmp 10) = .string x := by subst ha; rfl
          have ks : a0.tmps.size = 53 := by subst ha; rfl
          have ha0 := ha.symm
          clear ha
          refine wpAny_take (i := 0) (v := .pointer (some ⟨g, 0, none⟩)) rfl (by kernel_rfl) (by kernel_rfl) (by kernel_rfl) (fun _ _ _ h => h) (Or.inl ⟨by rfl, fun w => by simp only [execOp, eval_put, size_put, ks, k0, k1, k2, k3, k9, k10]; go_simp⟩) ?_
          refine wpAny_take (i := 1) (v := .pointer (some ⟨g, 0, none⟩)) rfl (by kernel_rfl) (by kernel_rfl) (by kernel_rfl) (fun _ _ _ h => h) (Or.inl ⟨by rfl, fun w => by simp only [execOp, eval_put, size_put, ks, k0, k1, k2, k3, k9, k10]; go_simp⟩) ?_
          refine wpAny_take (i := 2) (v := .pointer (some ⟨g, 0, none⟩)) rfl (by kernel_rfl) (by kernel_rfl) (by kernel_rfl) (fun _ _ _ h => h) (Or.inl ⟨by rfl, fun w => by simp only [execOp, eval_put, size_put, ks, k0, k1, k2, k3, k9, k10]; go_simp⟩) ?_
          refine wpAny_take (i := 4) (v := .pointer (some ⟨g, 0, none⟩)) rfl (by kernel_rfl) (by kernel_rfl) (by kernel_rfl) (fun _ _ _ h => h) (Or.inl ⟨by rfl, fun w => by simp only [execOp, eval_put, size_put, ks, k0, k1, k2, k3, k9, k10]; go_simp⟩) ?_
          refine wpAny_take (i := 5) (v := .string leaf) rfl (by kernel_rfl) (by kernel_rfl) (by kernel_rfl) (fun _ _ _ h => h) (Or.inl ⟨by rfl, fun w => by simp only [execOp, eval_put, size_put, ks, k0, k1, k2, k3, k9, k10]; go_simp⟩) ?_
          refine wpAny_take (i := 6) (v := .int .i64 i) rfl (by kernel_rfl) (by kernel_rfl) (by kernel_rfl) (fun _ _ _ h => h) (Or.inl ⟨by rfl, fun w => by simp only [execOp, eval_put, size_put, ks, k0, k1, k2, k3, k9, k10]; go_simp⟩) ?_
          refine wpAny_take (i := 7) (v := .int .i64 k) rfl (by kernel_rfl) (by kernel_rfl) (by kernel_rfl) (fun _ _ _ h => h) (Or.inl ⟨by rfl, fun w => by simp only [execOp, eval_put, size_put, ks, k0, k1, k2, k3, k9, k10]; go_simp⟩) ?_
          refine wpAny_take (i := 9) (v := .string x) rfl (by kernel_rfl) (by kernel_rfl) (by kernel_rfl) (fun _ _ _ h => h) (Or.inl ⟨by rfl, fun w => by simp only [execOp, eval_put, size_put, ks, k0, k1, k2, k3, k9, k10]; go_simp⟩) ?_
          refine wpAny_cast (fuel := 4) (listed := #[true, true, true, false, true, true, true, true, false, true, false, false]) (by kernel_rfl) (by kernel_rfl) ?_
          refine wpAny_gen fun a1 hA1 => ?_
          have m1 : a1.eval (.tmp 29) = .pointer (some ⟨g, 0, none⟩) := (by rw [hA1]; simp [eval_put, size_put, put_none, ks, k0, k1, k2, k3, k9, k10])
          have m2 : a1.eval (.tmp 31) = .pointer (some ⟨g, 0, none⟩) := (by rw [hA1]; simp [eval_put, size_put, put_none, ks, k0, k1, k2, k3, k9, k10])
          have m3 : a1.eval (.tmp 32) = .string leaf := (by rw [hA1]; simp [eval_put, size_put, put_none, ks, k0, k1, k2, k3, k9, k10])
          have m4 : a1.eval (.tmp 33) = .int .i64 i := (by rw [hA1]; simp [eval_put, size_put, put_none, ks, k0, k1, k2, k3, k9, k10])
          have m5 : a1.eval (.tmp 34) = .int .i64 k := (by rw [hA1]; simp [eval_put, size_put, put_none, ks, k0, k1, k2, k3, k9, k10])
          have m6 : a1.eval (.tmp 36) = .string x := (by rw [hA1]; simp [eval_put, size_put, put_none, ks, k0, k1, k2, k3, k9, k10])
          have ms : a1.tmps.size = 53 := (by rw [hA1]; simp [eval_put, size_put, put_none, ks, k0, k1, k2, k3, k9, k10])
          refine any_two (i := 3) (j := 8) (by kernel_rfl) rfl rfl rfl rfl ?_ ?_
          · (obtain ⟨v5, h5⟩ := hT.at_; refine wp_loadIn (g := g) (off := 0) tb h5 (tkA_tb ht _ _) Try.underlying29 (by simp [eval_put, size_put, put_none, ms, m1, m2, m3, m4, m5, m6]) rfl hsz ?_; clear h5)
            refine any_one (i := 8) (by kernel_rfl) rfl rfl ?_
            (refine wp_callf Try.func63 (by kernel_rfl) (by kernel_rfl) (vs := #[.pointer (some ⟨g, 0, none⟩), .string leaf, .int .i64 i, .int .i64 k]) (by simp [eval_put, size_put, put_none, ms, m1, m2, m3, m4, m5, m6]) (IC.out _ hT) ?_; rintro e w6 ⟨rfl, hT6, hG6⟩; refine ⟨_, rfl, ?_⟩; replace hT := hT6; replace hG := only_then hG hG6; clear hT6 hG6)
            refine any_one (i := 10) (by kernel_rfl) rfl rfl ?_
            (refine wp_callf Try.func61 (by kernel_rfl) (by kernel_rfl) (vs := #[.agg tb, .string r.1, .string x]) (by simp [eval_put, size_put, put_none, ms, m1, m2, m3, m4, m5, m6]) (PP.out _) ?_; rintro e w7 ⟨rfl, hb7⟩; refine ⟨_, rfl, ?_⟩; replace hT := hT.later hb7; replace hG := only_then hG (only_below hb7 _); clear hb7)
            refine wpAny_take (i := 11) (v := .string X) rfl (by kernel_rfl) (by kernel_rfl) (by kernel_rfl) (fun _ _ _ h => h) (Or.inl ⟨by rfl, fun w => by simp only [execOp, eval_put, size_put, ms, m1, m2, m3, m4, m5, m6]; go_simp⟩) ?_
            refine wpAny_done (by kernel_rfl) ?_ _
            subst hA1
            subst ha0
            clear k0 k1 k2 k3 k9 k10 ks m1 m2 m3 m4 m5 m6 ms
            go_wp2_with (fail)
            go_returns
            go_light
            exact ⟨by kernel_rfl, hT, hG⟩
          · (refine wp_callf Try.func63 (by kernel_rfl) (by kernel_rfl) (vs := #[.pointer (some ⟨g, 0, none⟩), .string leaf, .int .i64 i, .int .i64 k]) (by simp [eval_put, size_put, put_none, ms, m1, m2, m3, m4, m5, m6]) (IC.out _ hT) ?_; rintro e w6 ⟨rfl, hT6, hG6⟩; refine ⟨_, rfl, ?_⟩; replace hT := hT6; replace hG := only_then hG hG6; clear hT6 hG6)
            refine any_one (i := 3) (by kernel_rfl) rfl rfl ?_
            (obtain ⟨v5, h5⟩ := hT.at_; refine wp_loadIn (g := g) (off := 0) tb h5 (tkA_tb ht _ _) Try.underlying29 (by simp [eval_put, size_put, put_none, ms, m1, m2, m3, m4, m5, m6]) rfl hsz ?_; clear h5)
            refine any_one (i := 10) (by kernel_rfl) rfl rfl ?_
            (refine wp_callf Try.func61 (by kernel_rfl) (by kernel_rfl) (vs := #[.agg tb, .string r.1, .string x]) (by simp [eval_put, size_put, put_none, ms, m1, m2, m3, m4, m5, m6]) (PP.out _) ?_; rintro e w7 ⟨rfl, hb7⟩; refine ⟨_, rfl, ?_⟩; replace hT := hT.later hb7; replace hG := only_then hG (only_below hb7 _); clear hb7)
            refine wpAny_take (i := 11) (v := .string X) rfl (by kernel_rfl) (by kernel_rfl) (by kernel_rfl) (fun _ _ _ h => h) (Or.inl ⟨by rfl, fun w => by simp only [execOp, eval_put, size_put, ms, m1, m2, m3, m4, m5, m6]; go_simp⟩) ?_
            refine wpAny_done (by kernel_rfl) ?_ _
            subst hA1
            subst ha0
            clear k0 k1 k2 k3 k9 k10 ks m1 m2 m3 m4 m5 m6 ms
            go_wp2_with (fail)
            go_returns
            go_light
            exact ⟨by kernel_rfl, hT, hG⟩
        · rw [if_neg hik] at hroot
          have qik : ((i : Int) < k) = False := eq_false (by omega)
          have IC := fun W' hW => ih.out (n - k) (by omega) (i - k) p2 W' (by omega) (by omega) s2 hW
          have sz := rootT_size leaf (i - k) (n - k) p2 hleaf
          rw [hroot]
          generalize rootT leaf (i - k) (n - k) p2 = r at *
          have PP := fun w => PC.out x r.1 s1 sz w
          generalize pairN x r.1 = X at *
          have wik : IntKind.i64.wrap ((i : Int) - k) = ((i - k : Nat) : Int) := by simp [IntKind.wrap, IntKind.signed, IntKind.bits]; omega
          have wnk : IntKind.i64.wrap ((n : Int) - k) = ((n - k : Nat) : Int) := by simp [IntKind.wrap, IntKind.signed, IntKind.bits]; omega
          clear ih PC hroot sz s1 s2
          replace IC := Lib.hid IC
          replace PP := Lib.hid PP
          go_enter Try.func63, Try.ntmps63
          go_upto_region 7 with (first | ((with_reducible refine (SP.out _).mono ?_); rintro e w4 ⟨rfl, hw⟩; obtain rfl := hw.symm) | ((with_reducible refine TC.out.mono ?_); rintro e w4 ⟨rfl, hT, hG⟩))
          refine wp_region_any (by kernel_rfl) ?_
          change wpAny _ _ _ _ _ _ _ (World.drew _)
          replace hT := hT.later ((Later.refl _).drew)
          replace hG := only_drew hG
          generalize w4.drew = W5 at *
          generalize ha : Act.mk _ _ = a0
          have k0 : a0.eval (.tmp 0) = .pointer (some ⟨g, 0, none⟩) := by subst ha; rfl
          have k1 : a0.eval (.tmp 1) = .string leaf := by subst ha; rfl
          have k2 : a0.eval (.tmp 2) = .int .i64 i := by subst ha; rfl
          have k3 : a0.eval (.tmp 3) = .int .i64 n := by subst ha; rfl
          have k9 : a0.eval (.tmp 9) = .int .i64 k := by subst ha; rfl
          have k10 : a0.eval (.tmp 10) = .string x := by subst ha; rfl
          have ks : a0.tmps.size = 53 := by subst ha; rfl
          have ha0 := ha.symm
          clear ha
          refine wpAny_take (i := 0) (v := .pointer (some ⟨g, 0, none⟩)) rfl (by kernel_rfl) (by kernel_rfl) (by kernel_rfl) (fun _ _ _ h => h) (Or.inl ⟨by rfl, fun w => by simp only [execOp, eval_put, size_put, ks, k0, k1, k2, k3, k9, k10]; go_simp⟩) ?_
          refine wpAny_take (i := 1) (v := .pointer (some ⟨g, 0, none⟩)) rfl (by kernel_rfl) (by kernel_rfl) (by kernel_rfl) (fun _ _ _ h => h) (Or.inl ⟨by rfl, fun w => by simp only [execOp, eval_put, size_put, ks, k0, k1, k2, k3, k9, k10]; go_simp⟩) ?_
          refine wpAny_take (i := 2) (v := .pointer (some ⟨g, 0, none⟩)) rfl (by kernel_rfl) (by kernel_rfl) (by kernel_rfl) (fun _ _ _ h => h) (Or.inl ⟨by rfl, fun w => by simp only [execOp, eval_put, size_put, ks, k0, k1, k2, k3, k9, k10]; go_simp⟩) ?_
          refine wpAny_take (i := 4) (v := .string x) rfl (by kernel_rfl) (by kernel_rfl) (by kernel_rfl) (fun _ _ _ h => h) (Or.inl ⟨by rfl, fun w => by simp only [execOp, eval_put, size_put, ks, k0, k1, k2, k3, k9, k10]; go_simp⟩) ?_
          refine wpAny_take (i := 5) (v := .pointer (some ⟨g, 0, none⟩)) rfl (by kernel_rfl) (by kernel_rfl) (by kernel_rfl) (fun _ _ _ h => h) (Or.inl ⟨by rfl, fun w => by simp only [execOp, eval_put, size_put, ks, k0, k1, k2, k3, k9, k10]; go_simp⟩) ?_
          refine wpAny_take (i := 6) (v := .string leaf) rfl (by kernel_rfl) (by kernel_rfl) (by kernel_rfl) (fun _ _ _ h => h) (Or.inl ⟨by rfl, fun w => by simp only [execOp, eval_put, size_put, ks, k0, k1, k2, k3, k9, k10]; go_simp⟩) ?_
          refine wpAny_take (i := 7) (v := .int .i64 i) rfl (by kernel_rfl) (by kernel_rfl) (by kernel_rfl) (fun _ _ _ h => h) (Or.inl ⟨by rfl, fun w => by simp only [execOp, eval_put, size_put, ks, k0, k1, k2, k3, k9, k10]; go_simp⟩) ?_
          refine wpAny_take (i := 8) (v := .int .i64 k) rfl (by kernel_rfl) (by kernel_rfl) (by kernel_rfl) (fun _ _ _ h => h) (Or.inl ⟨by rfl, fun w => by simp only [execOp, eval_put, size_put, ks, k0, k1, k2, k3, k9, k10]; go_simp⟩) ?_
          refine wpAny_take (i := 9) (v := .int .i64 ((i - k : Nat) : Int)) rfl (by kernel_rfl) (by kernel_rfl) (by kernel_rfl) (fun _ _ _ h => h) (Or.inl ⟨by rfl, fun w => by simp only [execOp, eval_put, size_put, ks, k0, k1, k2, k3, k9, k10]; go_simp⟩) ?_
          refine wpAny_take (i := 10) (v := .int .i64 n) rfl (by kernel_rfl) (by kernel_rfl) (by kernel_rfl) (fun _ _ _ h => h) (Or.inl ⟨by rfl, fun w => by simp only [execOp, eval_put, size_put, ks, k0, k1, k2, k3, k9, k10]; go_simp⟩) ?_
          refine wpAny_take (i := 11) (v := .int .i64 k) rfl (by kernel_rfl) (by kernel_rfl) (by kernel_rfl) (fun _ _ _ h => h) (Or.inl ⟨by rfl, fun w => by simp only [execOp, eval_put, size_put, ks, k0, k1, k2, k3, k9, k10]; go_simp⟩) ?_
          refine wpAny_take (i := 12) (v := .int .i64 ((n - k : Nat) : Int)) rfl (by kernel_rfl) (by kernel_rfl) (by kernel_rfl) (fun _ _ _ h => h) (Or.inl ⟨by rfl, fun w => by simp only [execOp, eval_put, size_put, ks, k0, k1, k2, k3, k9, k10]; go_simp⟩) ?_
          refine wpAny_cast (fuel := 4) (listed := #[true, true, true, false, true, true, true, true, true, true, true, true, true, false, false, false]) (by kernel_rfl) (by kernel_rfl) ?_
          refine wpAny_gen fun a1 hA1 => ?_
          have m1 : a1.eval (.tmp 40) = .pointer (some ⟨g, 0, none⟩) := (by rw [hA1]; simp [eval_put, size_put, put_none, ks, k0, k1, k2, k3, k9, k10])
          have m2 : a1.eval (.tmp 42) = .string x := (by rw [hA1]; simp [eval_put, size_put, put_none, ks, k0, k1, k2, k3, k9, k10])
          have m3 : a1.eval (.tmp 43) = .pointer (some ⟨g, 0, none⟩) := (by rw [hA1]; simp [eval_put, size_put, put_none, ks, k0, k1, k2, k3, k9, k10])
          have m4 : a1.eval (.tmp 44) = .string leaf := (by rw [hA1]; simp [eval_put, size_put, put_none, ks, k0, k1, k2, k3, k9, k10])
          have m5 : a1.eval (.tmp 47) = .int .i64 ((i - k : Nat) : Int) := (by rw [hA1]; simp [eval_put, size_put, put_none, ks, k0, k1, k2, k3, k9, k10])
          have m6 : a1.eval (.tmp 50) = .int .i64 ((n - k : Nat) : Int) := (by rw [hA1]; simp [eval_put, size_put, put_none, ks, k0, k1, k2, k3, k9, k10])
          have ms : a1.tmps.size = 53 := (by rw [hA1]; simp [eval_put, size_put, put_none, ks, k0, k1, k2, k3, k9, k10])
          refine any_two (i := 3) (j := 13) (by kernel_rfl) rfl rfl rfl rfl ?_ ?_
          · (obtain ⟨v5, h5⟩ := hT.at_; refine wp_loadIn (g := g) (off := 0) tb h5 (tkA_tb ht _ _) Try.underlying29 (by simp [eval_put, size_put, put_none, ms, m1, m2, m3, m4, m5, m6]) rfl hsz ?_; clear h5)
            refine any_one (i := 13) (by kernel_rfl) rfl rfl ?_
            (refine wp_callf Try.func63 (by kernel_rfl) (by kernel_rfl) (vs := #[.pointer (some ⟨g, 0, none⟩), .string leaf, .int .i64 ((i - k : Nat) : Int), .int .i64 ((n - k : Nat) : Int)]) (by simp [eval_put, size_put, put_none, ms, m1, m2, m3, m4, m5, m6]) (IC.out _ hT) ?_; rintro e w6 ⟨rfl, hT6, hG6⟩; refine ⟨_, rfl, ?_⟩; replace hT := hT6; replace hG := only_then hG hG6; clear hT6 hG6)
            refine any_one (i := 14) (by kernel_rfl) rfl rfl ?_
            (refine wp_callf Try.func61 (by kernel_rfl) (by kernel_rfl) (vs := #[.agg tb, .string x, .string r.1]) (by simp [eval_put, size_put, put_none, ms, m1, m2, m3, m4, m5, m6]) (PP.out _) ?_; rintro e w7 ⟨rfl, hb7⟩; refine ⟨_, rfl, ?_⟩; replace hT := hT.later hb7; replace hG := only_then hG (only_below hb7 _); clear hb7)
            refine wpAny_take (i := 15) (v := .string X) rfl (by kernel_rfl) (by kernel_rfl) (by kernel_rfl) (fun _ _ _ h => h) (Or.inl ⟨by rfl, fun w => by simp only [execOp, eval_put, size_put, ms, m1, m2, m3, m4, m5, m6]; go_simp⟩) ?_
            refine wpAny_done (by kernel_rfl) ?_ _
            subst hA1
            subst ha0
            clear k0 k1 k2 k3 k9 k10 ks m1 m2 m3 m4 m5 m6 ms
            go_wp2_with (fail)
            go_returns
            go_light
            exact ⟨by kernel_rfl, hT, hG⟩
          · (refine wp_callf Try.func63 (by kernel_rfl) (by kernel_rfl) (vs := #[.pointer (some ⟨g, 0, none⟩), .string leaf, .int .i64 ((i - k : Nat) : Int), .int .i64 ((n - k : Nat) : Int)]) (by simp [eval_put, size_put, put_none, ms, m1, m2, m3, m4, m5, m6]) (IC.out _ hT) ?_; rintro e w6 ⟨rfl, hT6, hG6⟩; refine ⟨_, rfl, ?_⟩; replace hT := hT6; replace hG := only_then hG hG6; clear hT6 hG6)
            refine any_one (i := 3) (by kernel_rfl) rfl rfl ?_
            (obtain ⟨v5, h5⟩ := hT.at_; refine wp_loadIn (g := g) (off := 0) tb h5 (tkA_tb ht _ _) Try.underlying29 (by simp [eval_put, size_put, put_none, ms, m1, m2, m3, m4, m5, m6]) rfl hsz ?_; clear h5)
            refine any_one (i := 14) (by kernel_rfl) rfl rfl ?_
            (refine wp_callf Try.func61 (by kernel_rfl) (by kernel_rfl) (vs := #[.agg tb, .string x, .string r.1]) (by simp [eval_put, size_put, put_none, ms, m1, m2, m3, m4, m5, m6]) (PP.out _) ?_; rintro e w7 ⟨rfl, hb7⟩; refine ⟨_, rfl, ?_⟩; replace hT := hT.later hb7; replace hG := only_then hG (only_below hb7 _); clear hb7)
            refine wpAny_take (i := 15) (v := .string X) rfl (by kernel_rfl) (by kernel_rfl) (by kernel_rfl) (fun _ _ _ h => h) (Or.inl ⟨by rfl, fun w => by simp only [execOp, eval_put, size_put, ms, m1, m2, m3, m4, m5, m6]; go_simp⟩) ?_
            refine wpAny_done (by kernel_rfl) ?_ _
            subst hA1
            subst ha0
            clear k0 k1 k2 k3 k9 k10 ks m1 m2 m3 m4 m5 m6 ms
            go_wp2_with (fail)
            go_returns
            go_light
            exact ⟨by kernel_rfl, hT, hG⟩
      · rw [hbad] at c73
        have e : rootT leaf i n p = (leaf, p) := rootT_bad _ _ _ _ hbad
        rw [e]
        clear ih PC e
        replace h := Lib.hid h
        go_enter Try.func63, Try.ntmps63
        go_wp2_with (fail)
        go_returns
        go_light
        exact ⟨rfl, h.out, only_same _ _⟩
end Go.Proofs.Ytfkafejoacpclaa
