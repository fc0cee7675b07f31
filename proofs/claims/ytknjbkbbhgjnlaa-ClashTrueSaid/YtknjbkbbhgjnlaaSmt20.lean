/- The law SmtOrder, walked. No conditions. -/
import Derived.Test.YtknjbkbbhgjnlaaSmt17
import Derived.Test.YtknjbkbbhgjnlaaSmt19
import Derived.Test.YtknjbkbbhgjnlaaSmt12
namespace Go.Proofs.Ytknjbkbbhgjnlaa
open Go.RowKit
set_option linter.unusedVariables false
set_option linter.unusedSimpArgs false
/-- A map that was made of l. -/
def MapFact (l : List KV) : Fact := fun v w => ∃ b, v = .map (some b) ∧ MapW w b l.length (lastV l)
theorem MapFact.later {l : List KV} (v : Value) (w w' : World) (h : Later w w') (k : MapFact l v w) : MapFact l v w' := by
  obtain ⟨b, h1, h2⟩ := k
  exact ⟨b, h1, h2.later h⟩
theorem lastK_same : ∀ {m : List KV}, NK m → lastK m = m
  | [], _ => rfl
  | x :: m, h => by
    obtain ⟨h1, h2⟩ := List.pairwise_cons.1 h
    rw [lastK_miss (fun p hp e => h1 p hp e.symm), lastK_same h2]
theorem Listed.of_nk {m : List KV} (h : NK m) : Listed (lastV m) m := by
  have := lastK_listed m
  rw [lastK_same h] at this
  exact this
theorem Listed.of_perm {f : ByteArray → Option ByteArray} {q q' : List KV} (h : Listed f q) (hp : q.Perm q') : Listed f q' :=
  ⟨h.1.perm hp, fun k v => (hp.mem_iff).symm.trans (h.2 k v)⟩
theorem fok_small {l : List KV} (h : ∀ p ∈ l, p.1.size ≤ 60 ∧ p.2.size ≤ 60) : Fok (lastV l) := fun k v hv => by
  have : k.size ≤ 60 ∧ v.size ≤ 60 := h (k, v) (lastK_mem l (k, v) (((lastK_listed l).2 k v).2 hv))
  exact ⟨by omega, by omega⟩
set_option maxHeartbeats 8000000 in
set_option maxRecDepth 100000 in
theorem smtOrder_calls (A : Option Addr) (l : List KV) (cap : Nat) (w : World) (hcap : l.length ≤ cap) (hl : l.length ≤ 9223372036854775807) (hr : PK.Rows w A l) :
    Calls Try.prog 3 #[.slice A l.length cap] w fun e w' => e = .returned (.bool true) ∧ Below w.heap.size w w' := by
  have AW := fun w => awake05_calls w
  have F1 : ∀ W, PK.Rows W A l → Calls Try.prog 16 #[.slice A l.length cap, .int .i64 8] W (fun e w' => e = .returned (.bool (fewKV l 8)) ∧ Later W w') := fun W h => few05_calls A l cap 8 W hcap hl (by decide) h
  have hok1 : fewKV l 8 = true → l.length ≤ 8 ∧ ∀ q ∈ l, q.1.size ≤ 60 ∧ q.2.size ≤ 60 := fun h => fewKV_all h (by decide)
  replace AW := Lib.hid AW
  replace F1 := Lib.hid F1
  replace hr := Lib.hid hr
  have hB : Later w w := Later.refl w
  go_enter Try.func3, Try.ntmps3
  cases hf1 : fewKV l 8
  · rw [hf1] at F1
    clear hok1
    go_wp2_with (first | ((with_reducible refine (AW.out _).mono ?_); rintro e w4 ⟨rfl, hb4⟩; replace hB := Later.trans hB hb4) | ((with_reducible refine (F1.out _ (hr.out.below hB)).mono ?_); rintro e w5 ⟨rfl, hb5⟩; replace hB := Later.trans hB hb5))
    go_returns
    go_light
    exact ⟨rfl, hB⟩
  rw [hf1] at F1
  obtain ⟨hl5, hsm⟩ := hok1 hf1
  clear hok1 hf1
  go_upto_region 3 with (first | ((with_reducible refine (AW.out _).mono ?_); rintro e w4 ⟨rfl, hb4⟩; replace hB := Later.trans hB hb4) | ((with_reducible refine (F1.out _ (hr.out.below hB)).mono ?_); rintro e w5 ⟨rfl, hb5⟩; replace hB := Later.trans hB hb5))
  clear AW F1
  have M := fun w => make_calls w
  have hsz := tb_size
  have htz : (arr .u32 (K64 ++ H8.L)).size = Try.zeroCells29.size := by kernel_rfl
  have ho1 : (arr .u32 (K64 ++ H8.L)).toList.all (·.oneCell') = true := by kernel_rfl
  have CL := fun W h => last_calls A l cap W hcap (by omega) h
  have hLn := lastK_len l
  have hLm := lastK_mem l
  have hnk := lastK_nk l
  have hL1 := lastK_listed l
  have hL2 : Listed (lastV (lastK l).reverse) (lastK l) := (Listed.of_nk (hnk.perm (List.reverse_perm _).symm)).of_perm (List.reverse_perm _)
  have hf1 : Fok (lastV l) := fok_small hsm
  have hsmL : ∀ p ∈ lastK l, p.1.size ≤ 60 ∧ p.2.size ≤ 60 := fun p hp => hsm p (hLm p hp)
  have hf2 : Fok (lastV (lastK l).reverse) := fok_small (fun p hp => hsmL p (List.mem_reverse.1 hp))
  have R1 : ∀ W b, MapW W b l.length (lastV l) → Calls Try.prog 19 #[.agg (arr .u32 (K64 ++ H8.L)), .map (some b)] W fun e w' => e = .returned (.string (rootS 256 (lastK l))) ∧ Later W w' := fun W b h => sRoot_calls b l.length (lastV l) (lastK l) hL1 W h (by omega) hf1
  have R2 : ∀ W b, MapW W b (lastK l).reverse.length (lastV (lastK l).reverse) → Calls Try.prog 19 #[.agg (arr .u32 (K64 ++ H8.L)), .map (some b)] W fun e w' => e = .returned (.string (rootS 256 (lastK l))) ∧ Later W w' := fun W b h => sRoot_calls b _ (lastV (lastK l).reverse) (lastK l) hL2 W h (by rw [List.length_reverse]; omega) hf2
  have MD1 := fun W h => made_calls A l cap W hcap (by omega) (fun p hp => by have := hsm p hp; omega) h
  have MD2 := fun A5 c5 W h1 h2 => made_calls A5 (lastK l).reverse c5 W h1 (by rw [List.length_reverse]; omega) (fun p hp => by have := hsmL p (List.mem_reverse.1 hp); omega) h2
  have hls : (lastK l).length ≤ 8 := Nat.le_trans hLn hl5
  generalize rootS 256 (lastK l) = RT at *
  generalize lastK l = ls at *
  generalize arr .u32 (K64 ++ H8.L) = tb at *
  clear hL1 hL2 hnk hf1 hf2 hsm hsmL hLm hLn
  replace M := Lib.hid M
  replace CL := Lib.hid CL
  replace R1 := Lib.hid R1
  replace R2 := Lib.hid R2
  replace MD1 := Lib.hid MD1
  replace MD2 := Lib.hid MD2
  go_upto_region 5 with (first | ((with_reducible refine (M.out _).mono ?_); rintro e w8 ⟨rfl, hb8⟩; replace hB := Later.trans hB hb8; have hZ := Whole.new w8 29 Try.zeroCells29; have hG8 := hB.size; replace hB := hB.alloc (.cells Try.zeroCells29 29)) | ((with_reducible apply wl_storeW (ty := 29) hZ); rfl; rfl; rfl; kernel_rfl; exact htz; exact ho1; intro wS hT hgS hzS; replace hB := below_only' hB hgS hG8) | ((with_reducible refine (CL.out _ (hr.out.below hB)).mono ?_); rintro e wL ⟨⟨vL, rfl, hvL⟩, hbL⟩; replace hB := Later.trans hB hbL; replace hT := Later.whole hbL hT))
  obtain ⟨A3, c3, rfl, hc3, hR3⟩ := hvL.rows PK rfl (fun _ => rfl) PK.K_mk (by omega)
  clear hvL hbL hb8 hgS hzS hZ htz ho1 hG8 M CL hb4 hb5
  generalize hGT : w8.heap.size = GT at *
  clear hGT
  have b3 : ((ls.length : Int) ≤ c3) = True := eq_true (by omega)
  have s0 : SRow 33 2 wL.heap.size PairV (ls.drop ls.length).reverse (.slice none 0 0) wL := by rw [List.drop_length]; exact SRow.nil _ _ _ _ _
  replace hR3 := Lib.hid hR3
  go_wp2_with (fail)
  go_loopg [5, 6] (ls.length + 1) (fun kg o i wr => ∃ m : Nat, i = .int .i64 ((m : Int) - 1) ∧ m ≤ ls.length ∧ kg = m + 1 ∧ SRow 33 2 wL.heap.size PairV (ls.drop m).reverse o wr ∧ Later wL wr)
  case atStart => exact ⟨ls.length, by first | rfl | (congr 1; first | rfl | omega), Nat.le_refl _, rfl, s0, Later.refl _⟩
  case round =>
    clear s0
    obtain ⟨m, rfl, hm, hkg, ho, hC⟩ := hrel
    replace hkg := Lib.hid hkg
    cases m with
    | succ m =>
      have hlt : m < ls.length := by omega
      obtain ⟨ad, rfl, -, c0, c1⟩ := PK.pair_ (hR3.out.below hC) hlt
      have hnx : (ls.drop m).reverse = (ls.drop (m + 1)).reverse ++ [ls[m]] := by rw [List.drop_eq_getElem_cons hlt, List.reverse_cons]
      have hql : (ls.drop (m + 1)).reverse.length ≤ 1048576 := by rw [List.length_reverse, List.length_drop]; omega
      generalize ls[m] = x at *
      generalize (ls.drop (m + 1)).reverse = q at *
      replace hnx := Lib.hid hnx
      have hmm : (((m + 1 : Nat) : Int) - 1) = m := by omega
      rw [hmm]
      have hm0 : ((0 : Int) ≤ m) := by omega
      have hml : ((m : Int) < ls.length) := by omega
      go_wp2_with (first | ((with_reducible apply wl_loadAt (ty := 33) #[.string x.1, .string x.2] (pair_load c0 c1) Try.underlying33); rfl; rfl; rfl; kernel_rfl) | (at_builtin; refine wl_appendR (f := PairV) (s := x) Try.underlying22 (z := .agg #[.string ⟨#[]⟩, .string ⟨#[]⟩]) (by_ := 32) (by kernel_rfl) rfl (by decide) (by decide) (SRow.later _ _ _ ((Later.refl _).alloc _) ho) (Whole.new _ _ _) rfl (PairV_one x) hql (by have := hC.size; go_size) rfl rfl (fun v5 w5 ho5 hg5 => ?_)))
      have A4 := SRow.later _ _ _ ((Later.refl wr).alloc (.cells (PairV x).toArray 33)) ho
      have hC5 := below_own (Below.alloc hC hC.size (.cells (PairV x).toArray 33)) A4 (Nat.le_refl _) hg5
      go_wp2_with (fail)
      go_roundg (m + 1)
      case measure => go_light; rw [hkg.out]; omega
      case rel => go_light; exact ⟨m, by go_num, by omega, by omega, by rw [hnx.out]; exact ho5, hC5⟩
    | zero =>
      rw [List.drop_zero] at ho
      obtain ⟨A5, c5, rfl, hc5, hR5⟩ := ho.rows PK rfl (fun _ => rfl) PK.K_mk (by rw [List.length_reverse]; omega)
      have hB5 := Later.trans hB hC
      have hT5 := Later.whole hC hT
      generalize ls.reverse = lr at *
      clear hR3 hT hB
      go_upto_region 10 with (fail)
      refine wp_region_grow 9 41 (by kernel_rfl) (by kernel_rfl) rfl (fun w9 hl9 => ?_)
      simp only [List.take_succ_cons, List.take_zero, List.drop_succ_cons, List.drop_zero]
      generalize ha : Act.mk _ _ = a0
      have k0 : a0.eval (.tmp 0) = .slice A l.length cap := by subst ha; rfl
      have k3 : a0.eval (.tmp 3) = .pointer (some ⟨GT, 0, none⟩) := by subst ha; rfl
      have k5 : a0.eval (.tmp 5) = .slice A5 lr.length c5 := by subst ha; rfl
      have ks : a0.tmps.size = 41 := by subst ha; rfl
      have ha0 := ha.symm
      clear ha
      refine wpG_loadW (hl9.whole hT5) Try.underlying29 rfl (hsz) (fun a w hk => (hk 3 rfl : a.eval (.tmp 3) = a0.eval (.tmp 3)).trans k3) ?_
      refine wpG_move (fun a w hk => (hk 0 rfl : a.eval (.tmp 0) = a0.eval (.tmp 0)).trans k0) ?_
      refine wpG_callF (MapFact l) (MapFact.later) Try.func20 (by kernel_rfl) (by kernel_rfl) (fun a wx hlx hk => by have e33 : a.eval (.tmp 33) = _ := hk 33 rfl; simp only [List.map_toArray, List.map_cons, List.map_nil, e33]; exact ((MD1.out wx (hr.out.below (Later.trans hB5 (hl9.trans hlx)))).mono fun e w' hh => by obtain ⟨b, he, -, hv, hb⟩ := hh; exact ⟨_, he, ⟨b, rfl, hv⟩, hb⟩)) ?_
      refine wpG_callF (Is (.string RT)) (fun _ _ _ _ h => h) Try.func19 (by kernel_rfl) (by kernel_rfl) (fun a wx hlx hk => by have e1 : a.eval (.tmp 32) = _ := hk 32 rfl; obtain ⟨b, e2, hm⟩ := (hk 34 rfl : MapFact l (a.eval (.tmp 34)) wx); simp only [List.map_toArray, List.map_cons, List.map_nil, e1, e2]; exact (R1.out wx b hm).mono fun e w' h => ⟨_, h.1, rfl, h.2⟩) ?_
      refine wpG_loadW (hl9.whole hT5) Try.underlying29 rfl (hsz) (fun a w hk => (hk 3 rfl : a.eval (.tmp 3) = a0.eval (.tmp 3)).trans k3) ?_
      refine wpG_move (fun a w hk => (hk 5 rfl : a.eval (.tmp 5) = a0.eval (.tmp 5)).trans k5) ?_
      refine wpG_callF (MapFact lr) (MapFact.later) Try.func20 (by kernel_rfl) (by kernel_rfl) (fun a wx hlx hk => by have e37 : a.eval (.tmp 37) = _ := hk 37 rfl; simp only [List.map_toArray, List.map_cons, List.map_nil, e37]; exact ((MD2.out A5 c5 wx hc5 (hR5.below (hl9.trans hlx))).mono fun e w' hh => by obtain ⟨b, he, -, hv, hb⟩ := hh; exact ⟨_, he, ⟨b, rfl, hv⟩, hb⟩)) ?_
      refine wpG_callF (Is (.string RT)) (fun _ _ _ _ h => h) Try.func19 (by kernel_rfl) (by kernel_rfl) (fun a wx hlx hk => by have e1 : a.eval (.tmp 36) = _ := hk 36 rfl; obtain ⟨b, e2, hm⟩ := (hk 38 rfl : MapFact lr (a.eval (.tmp 38)) wx); simp only [List.map_toArray, List.map_cons, List.map_nil, e1, e2]; exact (R2.out wx b hm).mono fun e w' h => ⟨_, h.1, rfl, h.2⟩) ?_
      apply wpG_value'
      · rfl
      · (intro a wx hlx hk K hK; have e35 : a.eval (.tmp 35) = _ := hk 35 rfl; have e39 : a.eval (.tmp 39) = _ := hk 39 rfl; simp only [execOp, e35, e39]; clear e35 e39 hk; go_simp; exact hK)
      refine wpG_nil (fun w9' hl9' => ?_)
      refine fin_is ?_
      refine fin_is ?_
      refine fin_some (fun v34 hv34 => ?_)
      refine fin_is ?_
      refine fin_is ?_
      refine fin_is ?_
      refine fin_some (fun v38 hv38 => ?_)
      refine fin_is ?_
      refine fin_is ?_
      refine fin_nil ?_
      subst ha0
      clear k0 k3 k5 ks
      simp only [Act.put, List.setIfInBounds_toArray, List.set_cons_succ, List.set_cons_zero]
      go_wp2_with (fail)
      go_returns
      go_light
      exact ⟨by simp, Later.trans hB5 (hl9.trans hl9')⟩
end Go.Proofs.Ytknjbkbbhgjnlaa
