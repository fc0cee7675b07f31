/- The reference of layer 5: Least, Paths. Conditions: at most 2^20 pairs; texts of at most 2^30 bytes. -/
import Derived.Test.YtknjbkbbhgjnlaaSmt4
import Derived.Test.YtknjbkbbhgjnlaaSmt5
import Derived.Test.YtknjbkbbhgjnlaaTextRows
namespace Go.Proofs.Ytknjbkbbhgjnlaa
open Go.RowKit
set_option linter.unusedVariables false
set_option linter.unusedSimpArgs false
theorem leastN_snoc : ∀ (l : List KV) (x y : KV), leastN x (l ++ [y]) = if ltB y.1 (leastN x l).1 = true then y else leastN x l
  | [], x, y => rfl
  | z :: l, x, y => leastN_snoc l _ y
set_option maxHeartbeats 2000000 in
set_option maxRecDepth 100000 in
theorem least_calls (A : Option Addr) (x : KV) (l : List KV) (cap : Nat) (w : World) (hcap : l.length + 1 ≤ cap) (hl : l.length ≤ 1048576) (hr : PK.Rows w A (x :: l)) :
    Calls Try.prog 60 #[.slice A (l.length + 1) cap] w fun e w' => e = .returned (.agg #[.string (leastN x l).1, .string (leastN x l).2]) ∧ Later w w' := by
  have hB0 : Later w (w.alloc (.cells #[.string ⟨#[]⟩, .string ⟨#[]⟩] 33)) := (Later.refl w).alloc _
  obtain ⟨ad, rfl, hadlt, c0, c1⟩ := PK.pair_ (hr.below hB0) (k := 0) (by simp)
  have hR := Whole.new w 33 #[.string ⟨#[]⟩, .string ⟨#[]⟩]
  rw [Nat.zero_mul, show ad.add 0 = ad from rfl] at c0 c1
  simp only [List.getElem_cons_zero] at c0 c1
  have b3 : (((l.length + 1 : Nat) : Int) ≤ cap) = True := eq_true (by omega)
  have hsn := leastN_snoc
  obtain ⟨n, hn⟩ : ∃ n, l.length + 1 = n := ⟨_, rfl⟩
  rw [hn] at hcap b3 ⊢
  have b1 : ((1 : Int) ≤ n) := by omega
  have b2 : ((0 : Int) < n) := by omega
  replace hn := Lib.hid hn
  replace hsn := Lib.hid hsn
  go_enter Try.func60, Try.ntmps60
  go_upto_region 1 with (fail)
  have hsz : (w.alloc (.cells #[.string ⟨#[]⟩, .string ⟨#[]⟩] 33)).heap.size = w.heap.size + 1 := by simp
  generalize w.alloc (.cells #[.string ⟨#[]⟩, .string ⟨#[]⟩] 33) = W1 at *
  have hO := Whole.new W1 33 #[.string x.1, .string x.2]
  have hB : Later w (W1.alloc (.cells #[.string x.1, .string x.2] 33)) := hB0.alloc _
  replace hR := hR.alloc (.cells #[.string x.1, .string x.2] 33)
  rw [hsz] at hO
  go_upto_region 2 with (((with_reducible apply wl_loadAt (ty := 33) #[.string x.1, .string x.2] (pair_load c0 c1) Try.underlying33); rfl; rfl; rfl; kernel_rfl))
  generalize W1.alloc (.cells #[.string x.1, .string x.2] 33) = W2 at *
  clear c0 c1 hB0 hsz
  go_wp2_with (fail)
  go_loopg [4] (l.length + 1) (fun kg i wr => ∃ (k j : Nat) (b : KV), j = k + 1 ∧ i = .int .i64 j ∧ k ≤ l.length ∧ kg = l.length + 1 - k ∧ b = leastN x (l.take k) ∧ Whole wr (w.heap.size + 1) 33 #[.string b.1, .string b.2] ∧ Whole wr w.heap.size 33 #[.string ⟨#[]⟩, .string ⟨#[]⟩] ∧ Later w wr)
  case atStart => exact ⟨0, 1, x, rfl, rfl, Nat.zero_le _, rfl, rfl, hO, hR, hB⟩
  case round =>
    clear hO hR hB
    obtain ⟨k, j, b, hj, rfl, hk, hkg, hb, hO, hR, hB⟩ := hrel
    replace hkg := Lib.hid hkg
    by_cases hlt : k < l.length
    · obtain ⟨ad', he, -, c0, c1⟩ := PK.pair_ (hr.below hB) (k := j) (by simp; omega)
      obtain rfl := Option.some.inj he
      have hy : (x :: l)[j]'(by simp; omega) = l[k] := by simp only [hj, List.getElem_cons_succ]
      rw [hy] at c0 c1
      have hnx : leastN x (l.take (k + 1)) = if ltB l[k].1 b.1 = true then l[k] else b := by rw [List.take_succ_eq_append_getElem hlt, hsn.out, ← hb]
      generalize l[k] = y at *
      have hlb : ltB y.1 b.1 = Op.bytesLess y.1.toList b.1.toList := by unfold ltB; rw [ByteArray.toList_eq, ByteArray.toList_eq]
      rw [hlb] at hnx
      have d0 := hO.cell 0
      have hjn : ((j : Int) < n) := by have := hn.out; omega
      have hj0 : ((0 : Int) ≤ j) := by omega
      have hjb : j ≤ 1048577 := by omega
      replace hb := Lib.hid hb
      replace hnx := Lib.hid hnx
      clear hlb hy
      replace hj := Lib.hid hj
      go_upto_region 5 with (fail)
      refine wp_region_grow 8 27 (by kernel_rfl) (by kernel_rfl) rfl (fun w5 hl5 => ?_)
      simp only [List.take_succ_cons, List.take_zero, List.drop_succ_cons, List.drop_zero]
      generalize ha : Act.mk _ _ = a0
      have k0 : a0.eval (.tmp 0) = .slice (some ad) n cap := by subst ha; rfl
      have k3 : a0.eval (.tmp 3) = .pointer (some ⟨w.heap.size + 1, 0, none⟩) := by subst ha; rfl
      have k4 : a0.eval (.tmp 4) = .int .i64 j := by subst ha; rfl
      have ks : a0.tmps.size = 27 := by subst ha; rfl
      have ha0 := ha.symm
      clear ha
      refine wpG_move (fun a w hk => (hk 0 rfl : a.eval (.tmp 0) = a0.eval (.tmp 0)).trans k0) ?_
      refine wpG_move (fun a w hk => (hk 4 rfl : a.eval (.tmp 4) = a0.eval (.tmp 4)).trans k4) ?_
      apply wpG_value'
      · rfl
      · (intro a wx hlx hk K hK; have e14 : a.eval (.tmp 14) = _ := hk 14 rfl; have e15 : a.eval (.tmp 15) = _ := hk 15 rfl; simp only [execOp, e14, e15]; clear e14 e15 hk; go_simp; exact hK)
      apply wpG_value'
      · rfl
      · (intro a wx hlx hk K hK; have e16 : a.eval (.tmp 16) = _ := hk 16 rfl; simp only [execOp, e16]; clear e16 hk; go_simp; exact hK)
      refine wpG_load1 (hl5.cell c0) Try.underlying9 rfl (fun a w hk => hk 17 rfl) ?_
      apply wpG_value'
      · rfl
      · (intro a wx hlx hk K hK; have e3 : a.eval (.tmp 3) = _ := (hk 3 rfl : a.eval (.tmp 3) = a0.eval (.tmp 3)).trans k3; simp only [execOp, e3]; clear e3 hk; go_simp; exact hK)
      refine wpG_load1 (hl5.cell d0) Try.underlying9 rfl (fun a w hk => hk 19 rfl) ?_
      apply wpG_value'
      · rfl
      · (intro a wx hlx hk K hK; have e18 : a.eval (.tmp 18) = _ := hk 18 rfl; have e20 : a.eval (.tmp 20) = _ := hk 20 rfl; simp only [execOp, e18, e20]; clear e18 e20 hk; go_simp; exact hK)
      refine wpG_nil (fun w5' hl5' => ?_)
      refine fin_is ?_
      refine fin_is ?_
      refine fin_is ?_
      refine fin_is ?_
      refine fin_is ?_
      refine fin_is ?_
      refine fin_is ?_
      refine fin_is ?_
      refine fin_nil ?_
      subst ha0
      clear k0 k3 k4 ks
      simp only [Act.put, List.setIfInBounds_toArray, List.set_cons_succ, List.set_cons_zero]
      have hl5' := hl5.trans hl5'
      replace hO := Later.whole hl5' hO
      replace hR := Later.whole hl5' hR
      replace hB := hB.trans hl5'
      have e0 := Later.cell hl5' c0
      have e1 := Later.cell hl5' c1
      generalize w5' = W5 at *
      clear hl5 hl5' c0 c1 d0
      cases hbl : Op.bytesLess y.1.toList b.1.toList
      · have hnx' := hnx.out
        rw [hbl, if_neg (by decide)] at hnx'
        replace hnx' := Lib.hid hnx'
        go_wp2_with (fail)
        go_roundg (l.length - k)
        case measure => go_light; rw [hkg.out]; omega
        case rel => go_light; exact ⟨k + 1, j + 1, b, by rw [hj.out], by go_num, by omega, by omega, hnx'.out.symm, hO, hR, hB⟩
      · have hnx' := hnx.out
        rw [hbl, if_pos rfl] at hnx'
        replace hnx' := Lib.hid hnx'
        go_wp2_with (first | ((with_reducible apply wl_loadAt (ty := 33) #[.string y.1, .string y.2] (pair_load e0 e1) Try.underlying33); rfl; rfl; rfl; kernel_rfl) | ((with_reducible apply wl_storeW (ty := 33) hO); rfl; rfl; rfl; kernel_rfl; rfl; rfl; intro w7 hs7 hg7 hz7))
        go_roundg (l.length - k)
        case measure => go_light; rw [hkg.out]; omega
        case rel => go_light; exact ⟨k + 1, j + 1, y, by rw [hj.out], by go_num, by omega, by omega, hnx'.out.symm, hs7, Whole.only hR hg7 (fun q => by have := Option.some.inj q; omega), below_only' hB hg7 (by omega)⟩
    · obtain rfl : k = l.length := by omega
      have hjn : ¬ ((j : Int) < n) := by have := hn.out; omega
      rw [List.take_length] at hb
      subst hb
      go_wp2_with (first | (first | ((with_reducible apply wl_loadW (ty := 33) hO Try.underlying33); rfl; rfl; rfl; kernel_rfl) | ((with_reducible apply wl_loadW (ty := 33) (hO.alloc _) Try.underlying33); rfl; rfl; rfl; kernel_rfl) | ((with_reducible apply wl_loadW (ty := 33) ((hO.alloc _).alloc _) Try.underlying33); rfl; rfl; rfl; kernel_rfl)) | ((with_reducible apply wl_storeW (ty := 33) hR); rfl; rfl; rfl; kernel_rfl; rfl; rfl; intro w7 hs7 hg7 hz7))
      refine bodyPost_ret (res_cell1 rfl _ _ _ _ _ _ rfl hs7 Try.underlying33 rfl (by kernel_rfl)) rfl ?_
      go_light
      exact ⟨rfl, below_only' hB hg7 (by omega)⟩
set_option maxHeartbeats 1000000 in
set_option maxRecDepth 100000 in
theorem paths05_calls (A : Option Addr) (l : List KV) (cap : Nat) (w : World) (hcap : l.length ≤ cap) (hl : l.length ≤ 1048576) (hs : ∀ p ∈ l, p.1.size ≤ 1073741824) (hr : PK.Rows w A l) :
    Calls Try.prog 23 #[.slice A l.length cap] w fun e w' => (∃ v, e = .returned v ∧ TextRow 9 w.heap.size (l.map fun p => pathN p.1) v w') ∧ Later w w' := by
  have hB := Below.refl w.heap.size w
  have ho0 : TextRow 9 w.heap.size ((l.take 0).map fun p => pathN p.1) (.slice none 0 0) w := World.ownsRow_nil _ _ _ _
  have b3 : ((l.length : Int) ≤ cap) = True := eq_true (by omega)
  go_enter Try.func23, Try.ntmps23
  go_wp2_with (fail)
  go_loopg [3, 4] (l.length + 1) (fun kg o i wr => ∃ (k : Nat), i = .int .i64 k ∧ k ≤ l.length ∧ kg = l.length + 1 - k ∧ TextRow 9 w.heap.size ((l.take k).map fun p => pathN p.1) o wr ∧ Below w.heap.size w wr)
  case atStart => exact ⟨0, rfl, Nat.zero_le _, rfl, ho0, hB⟩
  case round =>
    clear ho0 hB
    obtain ⟨k, rfl, hk, hkg, ho, hB⟩ := hrel
    replace hkg := Lib.hid hkg
    by_cases hlt : k < l.length
    · obtain ⟨ad, rfl, hadlt, c0, -⟩ := PK.pair_ (hr.below hB) hlt
      have hsx := hs _ (List.getElem_mem hlt)
      have hnx : (l.take (k + 1)).map (fun p => pathN p.1) = (l.take k).map (fun p => pathN p.1) ++ [pathN l[k].1] := by rw [List.take_succ_eq_append_getElem hlt, List.map_append]; rfl
      generalize l[k] = x at *
      have HC := fun W => h05_calls ((⟨#[75]⟩ : ByteArray) ++ x.1) (by rw [ByteArray.size_append]; show 1 + x.1.size ≤ _; omega) W
      have eX : shaN ((⟨#[75]⟩ : ByteArray) ++ x.1) = pathN x.1 := rfl
      rw [eX] at HC
      generalize pathN x.1 = X at *
      have hql : ((l.take k).map fun p => pathN p.1).length ≤ 1048576 := by rw [List.length_map, List.length_take]; omega
      generalize hq : (l.take k).map (fun p => pathN p.1) = q at *
      replace hnx := Lib.hid hnx
      replace HC := Lib.hid HC
      replace ho := Lib.hid ho
      replace hq := Lib.hid hq
      clear eX
      have hkk : (k : Int) < l.length := by omega
      go_wp2_with (first | ((with_reducible refine (HC.out _).mono ?_); rintro e w4 ⟨rfl, hb4⟩; replace hB := below_next' hB hb4; have ho4 := TextRow.later _ _ _ hb4 ho.out) | (at_builtin; refine wl_appendS (base := w.heap.size) (s := X) Try.underlying44 (by unfold StrT; kernel_rfl) (TextRow.later _ _ _ ((Later.refl _).alloc _) ho4) (Whole.new _ _ _) hql (by have := hB.size; go_size) rfl rfl (fun v' w5 ho5 hg5 => ?_)))
      have hB5 := below_own (hB.alloc hB.size (.cells #[.string X] 9)) (TextRow.later _ _ _ ((Later.refl _).alloc (.cells #[.string X] 9)) ho4) (Nat.le_refl _) hg5
      rw [← hnx.out] at ho5
      go_wp2_with (fail)
      go_roundg (l.length - k)
      case measure => go_light; rw [hkg.out]; omega
      case rel => go_light; exact ⟨k + 1, by go_num, by omega, by omega, ho5, hB5⟩
    · obtain rfl : k = l.length := by omega
      rw [List.take_length] at ho
      go_wp2_with (fail)
      go_returns
      go_light
      exact ⟨⟨_, rfl, ho⟩, hB⟩
end Go.Proofs.Ytknjbkbbhgjnlaa
