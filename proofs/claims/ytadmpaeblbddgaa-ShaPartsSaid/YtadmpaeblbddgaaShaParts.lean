/- The law ShaParts, walked. Conditions: the row of texts lies as it stands. -/
import Derived.Test.YtadmpaeblbddgaaShaEmpty
import Derived.Test.YtadmpaeblbddgaaKinds
namespace Go.Proofs.Ytadmpaeblbddgaa
open Go.RowKit
set_option linter.unusedVariables false
set_option linter.unusedSimpArgs false
def catB (l : List ByteArray) (k : Nat) : ByteArray := (l.take k).foldl (· ++ ·) ⟨#[]⟩
theorem catB_next (l : List ByteArray) {k : Nat} (hk : k < l.length) : catB l (k + 1) = catB l k ++ l[k] := by
  unfold catB
  rw [List.take_succ_eq_append_getElem hk, List.foldl_append]
  rfl
set_option maxHeartbeats 2000000 in
set_option maxRecDepth 100000 in
theorem shaParts_calls (A : Option Addr) (l : List ByteArray) (cap : Nat) (w : World) (hr : Kn.str.Rows w A l) :
    Calls Try.prog 12 #[.slice A l.length cap] w fun e w' => e = .returned (.bool true) ∧ Below w.heap.size w w' := by
  have AW := fun w => awake01_calls w
  replace AW := Lib.hid AW
  have hmax := hr.1
  by_cases hl : l.length ≤ 20
  · have ql : ((20 : Int) < l.length) = False := eq_false (by omega)
    have M := fun w => make_calls w
    have NW := fun w => new_calls w
    have SS := fun (s : ByteArray) (hs : s.size ≤ 549755813888) w => shaSum_calls s hs w
    have hll : (arr .u32 (K64 ++ H8.L)).size = Try.zeroCells51.size := by kernel_rfl
    have hinf : (Try.prog.info? 51).map (·.size) = some (arr .u32 (K64 ++ H8.L)).size := by kernel_rfl
    have h1t := arrOne .u32 (K64 ++ H8.L)
    generalize arr .u32 (K64 ++ H8.L) = tb at *
    replace M := Lib.hid M
    replace NW := Lib.hid NW
    replace SS := Lib.hid SS
    replace hr := Lib.hid hr
    go_enter Try.func12, Try.ntmps12
    go_upto_region 4 with (first | ((with_reducible refine (AW.out _).mono ?_); rintro e w1 ⟨rfl, hB1⟩) | ((with_reducible refine (M.out _).mono ?_); rintro e w2 ⟨rfl, hb2⟩; replace hB1 := below_next' hB1 hb2; have hn := Whole.new w2 51 Try.zeroCells51) | ((with_reducible apply wl_storeW (ty := 51) hn); rfl; rfl; rfl; kernel_rfl; exact hll; exact h1t; intro w3 hs3 hg3 hz3))
    have hB3 : Below w.heap.size w w3 := below_only' (hB1.alloc hB1.size _) hg3 hB1.size
    have hg5 := hB1.size
    generalize w2.heap.size = g5 at *
    have h5lt := Whole.lt hs3
    clear hn hg3 hz3 hB1 hll h1t M AW
    rw [put_none]
    go_wp2_with (first | ((with_reducible apply wl_loadW (ty := 51) hs3 Try.underlying51); rfl; rfl; rfl; exact hinf) | ((with_reducible refine (NW.out _).mono ?_); rintro e w4 ⟨⟨g, rfl, hg4, hm4⟩, hb4⟩))
    have hs4 := Later.whole hb4 hs3
    have hB4 := below_next' hB3 hb4
    have hgw := Nat.le_trans hB3.size hg4
    have hg5g : g5 ≠ g := by omega
    clear NW hs3 hb4 hB3 hg4 h5lt
    go_loopg [5, 6] (l.length + 1) (fun kg al i wr => ∃ (k : Nat), k ≤ l.length ∧ kg = l.length + 1 - k ∧ i = .int .i64 k ∧ al = .string (catB l k) ∧ (catB l k).size ≤ 300 * k ∧ MsgAt wr g (catB l k) ∧ Whole wr g5 51 tb ∧ Below w.heap.size w wr)
    case atStart => exact ⟨0, Nat.zero_le _, rfl, rfl, rfl, Nat.le_refl _, hm4, hs4, hB4⟩
    case round =>
      clear hm4 hs4 hB4
      obtain ⟨k, hk, hkg, rfl, rfl, hcs, hm, h5, hB⟩ := hrel
      replace hkg := Lib.hid hkg
      by_cases hlt : k < l.length
      · obtain ⟨ad, rfl, hadlt, e0⟩ := hr.out.one_ hlt
        have hnext := catB_next l hlt
        have e1 : wr.cell? (ad.add k) = some (.string l[k]) := cell_keep e0 hB
        have q9 : ((k : Int) < l.length) = True := eq_true (by omega)
        generalize l[k] = b at *
        by_cases hb3 : b.size ≤ 300
        · have qb : ((300 : Int) < b.size) = False := eq_false (by omega)
          have WR := write_calls (catB l k) b g wr hm (by omega)
          rw [← hnext] at WR
          have hns : (catB l (k + 1)).size = (catB l k).size + b.size := by rw [hnext, ByteArray.size_append]
          have SM := fun W h => sumD_calls (catB l (k + 1)) g W h (by omega)
          have RS := fun W => sum01_calls (catB l (k + 1)) (by omega) W
          have nolen : (9223372036854775807 < (catB l k).size + b.size) = False := eq_false (by omega)
          have hcs2 : (catB l (k + 1)).size ≤ 300 * (k + 1) := by omega
          generalize shaN (catB l (k + 1)) = H at *
          generalize hc1 : catB l (k + 1) = c1 at *
          replace hc1 := Lib.hid hc1
          generalize catB l k = c0 at *
          clear hns
          replace hnext := hnext.symm
          replace WR := Lib.hid WR
          replace SM := Lib.hid SM
          replace RS := Lib.hid RS
          go_upto_region 12 with ((with_reducible refine WR.out.mono ?_); rintro e w6 ⟨rfl, hm6, hg6⟩; have h56 := h5.only hg6 (by simpa using hg5g); have hB6 := below_only hB (Nat.le_trans hgw (Nat.le_of_lt (Whole.lt hm))) hg6 hgw; have e6 : w6.cell? (ad.add k) = some (.string b) := cell_keep e0 hB6)
          clear WR hm h5 hB e1
          go_wp2_with (first | ((with_reducible refine (SM.out _ hm6).mono ?_); rintro e w7 ⟨rfl, hb7⟩; replace hm6 := MsgAt.later hm6 hb7; replace h56 := Later.whole hb7 h56; replace hB6 := below_next' hB6 hb7) | ((with_reducible refine (RS.out _).mono ?_); rintro e w8 ⟨rfl, hb8⟩; replace hm6 := MsgAt.later hm6 hb8; replace h56 := Later.whole hb8 h56; replace hB6 := below_next' hB6 hb8))
          go_roundg (l.length - k)
          case measure => go_light; rw [hkg.out]; omega
          case rel => go_light; exact ⟨k + 1, by omega, by omega, by go_num, by rw [hc1.out], by rw [hc1.out]; exact hcs2, by rw [hc1.out]; exact hm6, h56, hB6⟩
        · have qb : ((300 : Int) < b.size) = True := eq_true (by omega)
          go_wp2_with (fail)
          go_returns
          go_light
          exact ⟨rfl, hB⟩
      · obtain rfl : k = l.length := by omega
        have SM := fun W h => sumD_calls (catB l l.length) g W h (by omega)
        have S2 := SS.out (catB l l.length) (by omega)
        have h32 := shaN_size32 (catB l l.length)
        generalize shaN (catB l l.length) = H at *
        generalize catB l l.length = c0 at *
        clear hkg SS
        replace SM := Lib.hid SM
        replace S2 := Lib.hid S2
        go_upto_region 15 with (fail)
        refine wp_region_grow 6 59 (by kernel_rfl) (by kernel_rfl) rfl (fun w4 hl4 => ?_)
        simp only [List.take_succ_cons, List.take_zero, List.drop_succ_cons, List.drop_zero]
        generalize ha : Act.mk _ _ = a0
        have k3 : a0.eval (.tmp 3) = .pointer (some ⟨g5, 0, none⟩) := by subst ha; rfl
        have k4 : a0.eval (.tmp 4) = .pointer (some ⟨g, 0, none⟩) := by subst ha; rfl
        have k5 : a0.eval (.tmp 5) = .string c0 := by subst ha; rfl
        have ks : a0.tmps.size = 59 := by subst ha; rfl
        have ha0 := ha.symm
        clear ha
        refine wpG_move (fun a w hk => (hk 4 rfl : a.eval (.tmp 4) = a0.eval (.tmp 4)).trans k4) ?_
        refine wpG_call _ _ Try.func33 (by kernel_rfl) (by kernel_rfl) (fun W hW => SM.out W (MsgAt.later hm (hl4.trans hW))) (fun a w hk => by have e47 : a.eval (.tmp 47) = _ := hk 47 rfl; simp [e47]) ?_
        refine wpG_loadW (hl4.whole h5) Try.underlying51 rfl (hinf) (fun a w hk => (hk 3 rfl : a.eval (.tmp 3) = a0.eval (.tmp 3)).trans k3) ?_
        refine wpG_move (fun a w hk => (hk 5 rfl : a.eval (.tmp 5) = a0.eval (.tmp 5)).trans k5) ?_
        refine wpG_call _ _ Try.func35 (by kernel_rfl) (by kernel_rfl) (fun W _ => S2.out W) (fun a w hk => by have e49 : a.eval (.tmp 49) = _ := hk 49 rfl; have e50 : a.eval (.tmp 50) = _ := hk 50 rfl; simp [e49, e50]) ?_
        apply wpG_value'
        · rfl
        · (intro a wx hlx hk K hK; have e48 : a.eval (.tmp 48) = _ := hk 48 rfl; have e51 : a.eval (.tmp 51) = _ := hk 51 rfl; simp only [execOp, e48, e51]; clear e48 e51 hk; go_simp; exact hK)
        refine wpG_nil (fun w4' hl4' => ?_)
        refine fin_is ?_
        refine fin_is ?_
        refine fin_is ?_
        refine fin_is ?_
        refine fin_is ?_
        refine fin_is ?_
        refine fin_nil ?_
        have hm9 := MsgAt.later hm (hl4.trans hl4')
        have hB9 := below_next' hB (hl4.trans hl4')
        subst ha0
        clear k3 k4 k5 ks hm h5 hB hl4 hl4' S2
        go_wp2_with ((with_reducible refine (SM.out _ hm9).mono ?_); rintro e w9 ⟨rfl, hb9⟩; replace hB9 := below_next' hB9 hb9)
        go_returns
        go_light
        exact ⟨by first | rfl | simp, hB9⟩
  · have ql : ((20 : Int) < l.length) = True := eq_true (by omega)
    clear hr
    go_enter Try.func12, Try.ntmps12
    go_upto_region 2 with ((with_reducible refine (AW.out _).mono ?_); rintro e w1 ⟨rfl, hB1⟩)
    go_wp2_with ((with_reducible refine (AW.out _).mono ?_); rintro e w2 ⟨rfl, hb2⟩; replace hB1 := below_next' hB1 hb2)
    go_returns
    go_light
    exact ⟨rfl, hB1⟩
end Go.Proofs.Ytadmpaeblbddgaa
