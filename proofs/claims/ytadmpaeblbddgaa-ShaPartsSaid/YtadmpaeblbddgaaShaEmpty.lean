/- The law ShaEmpty, walked. No conditions. -/
import Derived.Test.YtadmpaeblbddgaaShaBits
import Derived.Test.YtadmpaeblbddgaaShaTable
namespace Go.Proofs.Ytadmpaeblbddgaa
open Go.RowKit
set_option linter.unusedVariables false
set_option linter.unusedSimpArgs false
/-- New digests, each for itself. -/
structure St (w W : World) (gs : List Nat) : Prop where
  later : Later w W
  all : ∀ g ∈ gs, w.heap.size ≤ g ∧ MsgAt W g ⟨#[]⟩
  nd : gs.Nodup
theorem St.add {w W W2 : World} {gs : List Nat} {g : Nat} (h : St w W gs) (hb : Below W.heap.size W W2) (hg : W.heap.size ≤ g) (hm : MsgAt W2 g ⟨#[]⟩) : St w W2 (g :: gs) := by
  refine ⟨h.later.trans hb, fun x hx => ?_, ?_⟩
  · rcases List.mem_cons.1 hx with rfl | hx
    · exact ⟨Nat.le_trans h.later.size hg, hm⟩
    · exact ⟨(h.all x hx).1, Later.whole hb (h.all x hx).2⟩
  · refine List.nodup_cons.2 ⟨fun hx => ?_, h.nd⟩
    have := Whole.lt (h.all g hx).2
    omega
theorem St.two {w W : World} {a b : Nat} (h : St w W [a, b]) : a ≠ b ∧ MsgAt W a ⟨#[]⟩ ∧ MsgAt W b ⟨#[]⟩ ∧ w.heap.size ≤ a ∧ w.heap.size ≤ b ∧ Later w W := by
  refine ⟨?_, (h.all a (by simp)).2, (h.all b (by simp)).2, (h.all a (by simp)).1, (h.all b (by simp)).1, h.later⟩
  have := h.nd
  simp at this
  exact this
theorem MsgAt.only {W W' : World} {g k : Nat} {m : ByteArray} (h : MsgAt W g m) (hg : W.grownBy W' (some k)) (hne : g ≠ k) : MsgAt W' g m := Whole.only h hg (by simpa using hne)
theorem MsgAt.later {W W' : World} {g : Nat} {m : ByteArray} (h : MsgAt W g m) (hb : Below W.heap.size W W') : MsgAt W' g m := Later.whole hb h
section
variable {P : Program}
theorem any_assign {md : Region.Mode} {ops : Array Oper} {Q : Exit → Act → World → Prop} {fuel : Nat} {listed : Array Bool} {a : Act} {w : World} {i : Nat} {d : Option Tmp} {ty' : TypeId} {x : Operand} {pos : String} {after : Array Edge} {v : Value}
    (hr : Region.ready md ops listed = [i]) (h1 : ops[i]? = some { dst := d, op := .assign x, type := ty', pos := pos, after := after, guard := none }) (hx : a.eval x = v)
    (g1 : wpAny P md ops Q fuel (listed.setIfInBounds i true) (a.put d v) w) : wpAny P md ops Q (fuel + 1) listed a w :=
  any_one hr h1 rfl (by
    unfold Oper.wp execOp
    simp only [hx, Sem.run_bind, Result.andThen_ok, Sem.run_pure]
    exact g1)
end
set_option maxHeartbeats 2000000 in
set_option maxRecDepth 100000 in
theorem shaEmpty_calls (x y : ByteArray) (w : World) : Calls Try.prog 9 #[.string x, .string y] w fun e w' => e = .returned (.bool true) ∧ Below w.heap.size w w' := by
  have AW := fun w => awake01_calls w
  replace AW := Lib.hid AW
  by_cases hx : x.size ≤ 500
  · have qx : ((500 : Int) < x.size) = False := eq_false (by omega)
    by_cases hy : y.size ≤ 500
    · have qy : ((500 : Int) < y.size) = False := eq_false (by omega)
      have M := fun w => make_calls w
      have NW := fun w => new_calls w
      have hl : (arr .u32 (K64 ++ H8.L)).size = Try.zeroCells51.size := by kernel_rfl
      have hinf : (Try.prog.info? 51).map (·.size) = some (arr .u32 (K64 ++ H8.L)).size := by kernel_rfl
      have h1t := arrOne .u32 (K64 ++ H8.L)
      generalize arr .u32 (K64 ++ H8.L) = tb at *
      replace M := Lib.hid M
      replace NW := Lib.hid NW
      go_enter Try.func9, Try.ntmps9
      go_upto_region 4 with (first | ((with_reducible refine (AW.out _).mono ?_); rintro e w1 ⟨rfl, hB1⟩) | ((with_reducible refine (M.out _).mono ?_); rintro e w2 ⟨rfl, hb2⟩; replace hB1 := below_next' hB1 hb2; have hn := Whole.new w2 51 Try.zeroCells51) | ((with_reducible apply wl_storeW (ty := 51) hn); rfl; rfl; rfl; kernel_rfl; exact hl; exact h1t; intro w3 hs3 hg3 hz3))
      have hB3 : Below w.heap.size w w3 := below_only' (hB1.alloc hB1.size _) hg3 hB1.size
      generalize w2.heap.size = g5 at *
      clear hn hg3 hz3 hB1 hl h1t M AW
      rw [put_none]
      go_cut [6, 7] (fun p q wc => ∃ a b, p = .pointer (some ⟨a, 0, none⟩) ∧ q = .pointer (some ⟨b, 0, none⟩) ∧ a ≠ b ∧ MsgAt wc a ⟨#[]⟩ ∧ MsgAt wc b ⟨#[]⟩ ∧ w3.heap.size ≤ a ∧ w3.heap.size ≤ b ∧ Later w3 wc)
      case first =>
        refine wp_region_any (by kernel_rfl) ?_
        change wpAny _ _ _ _ _ _ _ (World.drew _)
        have h5 := hs3.drew
        have st0 : St w3 w3.drew [] := ⟨(Later.refl w3).drew, fun g hg => (by cases hg), List.nodup_nil⟩
        generalize w3.drew = W6 at *
        generalize ha : Act.mk _ _ = a0
        have k5 : a0.eval (.tmp 5) = .pointer (some ⟨g5, 0, none⟩) := by subst ha; rfl
        have ks : a0.tmps.size = 68 := by subst ha; rfl
        have ha0 := ha.symm
        clear ha
        refine any_two (i := 0) (j := 2) (by kernel_rfl) rfl rfl rfl rfl ?_ ?_
        · refine wp_loadW h5 Try.underlying51 (by simp [eval_put, size_put, put_none, k5, ks]) rfl hinf ?_
          refine any_two (i := 1) (j := 2) (by kernel_rfl) rfl rfl rfl rfl ?_ ?_
          · refine wp_callf Try.func31 (by kernel_rfl) (by kernel_rfl) (vs := #[.agg tb]) (by simp [eval_put, size_put, put_none, k5, ks]) (NW.out _) ?_; rintro e wA ⟨⟨gA, rfl, hgA, hmA⟩, hbA⟩; refine ⟨_, rfl, ?_⟩; have h5A := Later.whole hbA h5; have stA := St.add st0 hbA hgA hmA
            refine any_one (i := 2) (by kernel_rfl) rfl rfl ?_
            refine wp_loadW h5A Try.underlying51 (by simp [eval_put, size_put, put_none, k5, ks]) rfl hinf ?_
            refine any_one (i := 3) (by kernel_rfl) rfl rfl ?_
            refine wp_callf Try.func31 (by kernel_rfl) (by kernel_rfl) (vs := #[.agg tb]) (by simp [eval_put, size_put, put_none, k5, ks]) (NW.out _) ?_; rintro e wB ⟨⟨gB, rfl, hgB, hmB⟩, hbB⟩; refine ⟨_, rfl, ?_⟩; have h5B := Later.whole hbB h5A; have stB := St.add stA hbB hgB hmB
            obtain ⟨d1, d2, d3, d4, d5, d6⟩ := stB.two
            refine any_assign (i := 4) (v := .pointer (some ⟨gA, 0, none⟩)) (by kernel_rfl) rfl (by simp [eval_put, size_put, put_none, k5, ks]) ?_; refine any_assign (i := 5) (v := .pointer (some ⟨gB, 0, none⟩)) (by kernel_rfl) rfl (by simp [eval_put, size_put, put_none, k5, ks]) ?_; refine wpAny_done (by kernel_rfl) ?_ _; subst ha0; clear k5 ks; go_wp2; go_meet; exact ⟨gA, gB, rfl, rfl, Ne.symm d1, d3, d2, d5, d4, d6⟩
          · refine wp_loadW h5 Try.underlying51 (by simp [eval_put, size_put, put_none, k5, ks]) rfl hinf ?_
            refine any_one (i := 1) (by kernel_rfl) rfl rfl ?_
            refine wp_callf Try.func31 (by kernel_rfl) (by kernel_rfl) (vs := #[.agg tb]) (by simp [eval_put, size_put, put_none, k5, ks]) (NW.out _) ?_; rintro e wA ⟨⟨gA, rfl, hgA, hmA⟩, hbA⟩; refine ⟨_, rfl, ?_⟩; have h5A := Later.whole hbA h5; have stA := St.add st0 hbA hgA hmA
            refine any_one (i := 3) (by kernel_rfl) rfl rfl ?_
            refine wp_callf Try.func31 (by kernel_rfl) (by kernel_rfl) (vs := #[.agg tb]) (by simp [eval_put, size_put, put_none, k5, ks]) (NW.out _) ?_; rintro e wB ⟨⟨gB, rfl, hgB, hmB⟩, hbB⟩; refine ⟨_, rfl, ?_⟩; have h5B := Later.whole hbB h5A; have stB := St.add stA hbB hgB hmB
            obtain ⟨d1, d2, d3, d4, d5, d6⟩ := stB.two
            refine any_assign (i := 4) (v := .pointer (some ⟨gA, 0, none⟩)) (by kernel_rfl) rfl (by simp [eval_put, size_put, put_none, k5, ks]) ?_; refine any_assign (i := 5) (v := .pointer (some ⟨gB, 0, none⟩)) (by kernel_rfl) rfl (by simp [eval_put, size_put, put_none, k5, ks]) ?_; refine wpAny_done (by kernel_rfl) ?_ _; subst ha0; clear k5 ks; go_wp2; go_meet; exact ⟨gA, gB, rfl, rfl, Ne.symm d1, d3, d2, d5, d4, d6⟩
        · refine wp_loadW h5 Try.underlying51 (by simp [eval_put, size_put, put_none, k5, ks]) rfl hinf ?_
          refine any_one (i := 0) (by kernel_rfl) rfl rfl ?_
          refine wp_loadW h5 Try.underlying51 (by simp [eval_put, size_put, put_none, k5, ks]) rfl hinf ?_
          refine any_one (i := 1) (by kernel_rfl) rfl rfl ?_
          refine wp_callf Try.func31 (by kernel_rfl) (by kernel_rfl) (vs := #[.agg tb]) (by simp [eval_put, size_put, put_none, k5, ks]) (NW.out _) ?_; rintro e wA ⟨⟨gA, rfl, hgA, hmA⟩, hbA⟩; refine ⟨_, rfl, ?_⟩; have h5A := Later.whole hbA h5; have stA := St.add st0 hbA hgA hmA
          refine any_one (i := 3) (by kernel_rfl) rfl rfl ?_
          refine wp_callf Try.func31 (by kernel_rfl) (by kernel_rfl) (vs := #[.agg tb]) (by simp [eval_put, size_put, put_none, k5, ks]) (NW.out _) ?_; rintro e wB ⟨⟨gB, rfl, hgB, hmB⟩, hbB⟩; refine ⟨_, rfl, ?_⟩; have h5B := Later.whole hbB h5A; have stB := St.add stA hbB hgB hmB
          obtain ⟨d1, d2, d3, d4, d5, d6⟩ := stB.two
          refine any_assign (i := 4) (v := .pointer (some ⟨gA, 0, none⟩)) (by kernel_rfl) rfl (by simp [eval_put, size_put, put_none, k5, ks]) ?_; refine any_assign (i := 5) (v := .pointer (some ⟨gB, 0, none⟩)) (by kernel_rfl) rfl (by simp [eval_put, size_put, put_none, k5, ks]) ?_; refine wpAny_done (by kernel_rfl) ?_ _; subst ha0; clear k5 ks; go_wp2; go_meet; exact ⟨gA, gB, rfl, rfl, Ne.symm d1, d3, d2, d5, d4, d6⟩
      case rest =>
        obtain ⟨a, b, rfl, rfl, hab, ha0, hb0, hal, hbl, hL⟩ := hcut
        have hC := hB3.trans (hL.mono hB3.size)
        have hal' := Nat.le_trans hB3.size hal
        have hbl' := Nat.le_trans hB3.size hbl
        clear hL hs3 hinf NW hal hbl
        have e0 : ∀ s : ByteArray, (⟨#[]⟩ : ByteArray) ++ s = s := fun s => by apply ba_ext; rw [ba_append]; rfl
        have e1 : ∀ s : ByteArray, s ++ (⟨#[]⟩ : ByteArray) = s := fun s => by apply ba_ext; rw [ba_append]; simp
        have z0 : (⟨#[]⟩ : ByteArray).size = 0 := rfl
        have W1 := write_calls ⟨#[]⟩ x a wc ha0 (by rw [z0]; omega)
        rw [e0] at W1
        have W2 := fun W h => write_calls ⟨#[]⟩ y b W h (by rw [z0]; omega)
        have W3 := fun W h => write_calls x ⟨#[]⟩ a W h (by rw [z0]; omega)
        have W4 := fun W h => write_calls x y a W h (by omega)
        simp only [e0, e1] at W2 W3
        have S1 := fun W h => sumD_calls x a W h (by omega)
        have S2 := fun W h => sumD_calls y b W h (by omega)
        have hxy : (x ++ y).size = x.size + y.size := ByteArray.size_append
        have S3 := fun W h => sumD_calls (x ++ y) a W h (by omega)
        have R1 := fun W => sum01_calls x (by omega) W
        have R2 := fun W => sum01_calls y (by omega) W
        have R3 := fun W => sum01_calls (x ++ y) (by omega) W
        have nolen : (9223372036854775807 < x.size + y.size) = False := eq_false (by omega)
        clear e0 e1 z0 hxy
        generalize shaN (x ++ y) = H3 at *
        generalize shaN x = H1 at *
        generalize shaN y = H2 at *
        generalize hxy : x ++ y = xy at *
        replace W2 := Lib.hid W2
        replace W3 := Lib.hid W3
        replace W4 := Lib.hid W4
        replace S1 := Lib.hid S1
        replace S2 := Lib.hid S2
        replace S3 := Lib.hid S3
        replace R1 := Lib.hid R1
        replace R2 := Lib.hid R2
        replace R3 := Lib.hid R3
        go_upto_region 6 with ((with_reducible refine W1.mono ?_); rintro e w5 ⟨rfl, hA1, hg1⟩; replace hb0 := hb0.only hg1 (Ne.symm hab); replace hC := below_only hC (Nat.le_trans hal' (Nat.le_of_lt (Whole.lt ha0))) hg1 hal')
        clear W1 ha0
        go_upto_region 7 with ((with_reducible refine (W2.out _ hb0).mono ?_); rintro e w6 ⟨rfl, hB1, hg2⟩; replace hA1 := hA1.only hg2 hab; replace hC := below_only hC (Nat.le_trans hbl' (Nat.le_of_lt (Whole.lt hb0))) hg2 hbl')
        clear W2 hb0
        go_upto_region 8 with ((with_reducible refine (W3.out _ hA1).mono ?_); rintro e w7 ⟨rfl, hA2, hg3⟩; replace hB1 := hB1.only hg3 (Ne.symm hab); replace hC := below_only hC (Nat.le_trans hal' (Nat.le_of_lt (Whole.lt hA1))) hg3 hal')
        clear W3 hA1
        go_upto_region 9 with ((with_reducible refine (S1.out _ hA2).mono ?_); rintro e w8 ⟨rfl, hb8⟩; replace hA2 := MsgAt.later hA2 hb8; replace hB1 := MsgAt.later hB1 hb8; replace hC := below_next' hC hb8)
        go_upto_region 10 with ((with_reducible refine (S1.out _ hA2).mono ?_); rintro e w9 ⟨rfl, hb9⟩; replace hA2 := MsgAt.later hA2 hb9; replace hB1 := MsgAt.later hB1 hb9; replace hC := below_next' hC hb9)
        go_upto_region 11 with ((with_reducible refine (W4.out _ hA2).mono ?_); rintro e w10 ⟨rfl, hA3, hg4⟩; replace hB1 := MsgAt.only hB1 hg4 (Ne.symm hab); replace hC := below_only hC (Nat.le_trans hal' (Nat.le_of_lt (Whole.lt hA2))) hg4 hal')
        clear W4 hA2 S1
        go_wp2_with (first | ((with_reducible refine (R1.out _).mono ?_); rintro e w11 ⟨rfl, hb11⟩; replace hA3 := MsgAt.later hA3 hb11; replace hB1 := MsgAt.later hB1 hb11; replace hC := below_next' hC hb11) | ((with_reducible refine (S2.out _ hB1).mono ?_); rintro e w12 ⟨rfl, hb12⟩; replace hA3 := MsgAt.later hA3 hb12; replace hC := below_next' hC hb12) | ((with_reducible refine (R2.out _).mono ?_); rintro e w13 ⟨rfl, hb13⟩; replace hA3 := MsgAt.later hA3 hb13; replace hC := below_next' hC hb13) | ((with_reducible refine (S3.out _ hA3).mono ?_); rintro e w14 ⟨rfl, hb14⟩; replace hC := below_next' hC hb14) | ((with_reducible refine (R3.out _).mono ?_); rintro e w15 ⟨rfl, hb15⟩; replace hC := below_next' hC hb15))
        go_returns
        go_light
        exact ⟨by first | rfl | simp, hC⟩
    · have qy : ((500 : Int) < y.size) = True := eq_true (by omega)
      go_enter Try.func9, Try.ntmps9
      go_upto_region 2 with ((with_reducible refine (AW.out _).mono ?_); rintro e w1 ⟨rfl, hB1⟩)
      go_wp2_with ((with_reducible refine (AW.out _).mono ?_); rintro e w2 ⟨rfl, hb2⟩; replace hB1 := below_next' hB1 hb2)
      go_returns
      go_light
      exact ⟨rfl, hB1⟩
  · have qx : ((500 : Int) < x.size) = True := eq_true (by omega)
    go_enter Try.func9, Try.ntmps9
    go_upto_region 2 with ((with_reducible refine (AW.out _).mono ?_); rintro e w1 ⟨rfl, hB1⟩)
    go_wp2_with ((with_reducible refine (AW.out _).mono ?_); rintro e w2 ⟨rfl, hb2⟩; replace hB1 := below_next' hB1 hb2)
    go_returns
    go_light
    exact ⟨rfl, hB1⟩
end Go.Proofs.Ytadmpaeblbddgaa
