/- The reference of layer 5: Last. Condition: at most 2^20 pairs. -/
import Derived.Test.YtknjbkbbhgjnlaaSmtSpec
import Derived.Test.YtknjbkbbhgjnlaaSRow
import Derived.Test.YtknjbkbbhgjnlaaToolA
namespace Go.Proofs.Ytknjbkbbhgjnlaa
open Go.RowKit
set_option linter.unusedVariables false
set_option linter.unusedSimpArgs false
/-- Of each key the last pair. -/
def lastK : List KV → List KV
  | [] => []
  | p :: l => if l.any (fun q => decide (q.1 = p.1)) = true then lastK l else p :: lastK l
theorem lastK_mem : ∀ (l : List KV) (p : KV), p ∈ lastK l → p ∈ l
  | [], p, h => h
  | q :: l, p, h => by
    unfold lastK at h
    split at h
    · exact List.mem_cons_of_mem _ (lastK_mem l p h)
    · rcases List.mem_cons.1 h with rfl | h
      · exact List.mem_cons_self
      · exact List.mem_cons_of_mem _ (lastK_mem l p h)
theorem lastK_len : ∀ (l : List KV), (lastK l).length ≤ l.length
  | [] => Nat.le_refl _
  | q :: l => by
    unfold lastK
    have := lastK_len l
    split
    · exact Nat.le_succ_of_le this
    · exact Nat.succ_le_succ this
theorem lastK_keys : ∀ (l : List KV) (k : ByteArray), (∃ p ∈ lastK l, p.1 = k) ↔ ∃ p ∈ l, p.1 = k
  | [], k => Iff.rfl
  | q :: l, k => by
    have ih := lastK_keys l k
    unfold lastK
    split
    · rename_i h
      rw [ih]
      constructor
      · rintro ⟨p, hp, e⟩; exact ⟨p, List.mem_cons_of_mem _ hp, e⟩
      · rintro ⟨p, hp, e⟩
        rcases List.mem_cons.1 hp with rfl | hp
        · obtain ⟨x, hx, hxe⟩ := List.any_eq_true.1 h
          exact ⟨x, hx, (of_decide_eq_true hxe).trans e⟩
        · exact ⟨p, hp, e⟩
    · constructor
      · rintro ⟨p, hp, e⟩
        rcases List.mem_cons.1 hp with rfl | hp
        · exact ⟨_, List.mem_cons_self, e⟩
        · obtain ⟨x, hx, hxe⟩ := ih.1 ⟨p, hp, e⟩
          exact ⟨x, List.mem_cons_of_mem _ hx, hxe⟩
      · rintro ⟨p, hp, e⟩
        rcases List.mem_cons.1 hp with rfl | hp
        · exact ⟨_, List.mem_cons_self, e⟩
        · obtain ⟨x, hx, hxe⟩ := ih.2 ⟨p, hp, e⟩
          exact ⟨x, List.mem_cons_of_mem _ hx, hxe⟩
theorem lastK_nk : ∀ (l : List KV), NK (lastK l)
  | [] => List.Pairwise.nil
  | q :: l => by
    unfold lastK
    split
    · exact lastK_nk l
    · rename_i h
      refine List.pairwise_cons.2 ⟨fun x hx e => h ?_, lastK_nk l⟩
      exact List.any_eq_true.2 ⟨x, lastK_mem l x hx, decide_eq_true e.symm⟩
def again (l : List KV) (k : ByteArray) (m : Nat) : Bool := (l.take m).any (fun q => decide (q.1 = k))
theorem again_succ (l : List KV) (k : ByteArray) (m : Nat) (hm : m < l.length) : again l k (m + 1) = (again l k m || decide (l[m].1 = k)) := by
  unfold again
  rw [List.take_succ_eq_append_getElem hm, List.any_append]
  simp
set_option maxHeartbeats 2000000 in
set_option maxRecDepth 100000 in
theorem last_calls (A : Option Addr) (l : List KV) (cap : Nat) (w : World) (hcap : l.length ≤ cap) (hl : l.length ≤ 1048576) (hr : PK.Rows w A l) :
    Calls Try.prog 18 #[.slice A l.length cap] w fun e w' => (∃ v, e = .returned v ∧ SRow 33 2 w.heap.size PairV (lastK l) v w') ∧ Below w.heap.size w w' := by
  have hB := Below.refl w.heap.size w
  have ho0 : SRow 33 2 w.heap.size PairV [] (.slice none 0 0) w := SRow.nil _ _ _ _ _
  have e0 : [] ++ lastK (l.drop 0) = lastK l := rfl
  generalize hLK : lastK l = LK at *
  have hlen : ∀ o : List KV, (o ++ lastK (l.drop 0)) = LK → True := fun _ _ => trivial
  clear hlen
  have hLl : LK.length ≤ 1048576 := by rw [← hLK]; exact Nat.le_trans (lastK_len l) hl
  replace hLK := Lib.hid hLK
  go_enter Try.func18, Try.ntmps18
  go_wp2_with (fail)
  go_loopg [3, 4] (l.length + 1) (fun kg o i wr => ∃ (k : Nat) (q : List KV), i = .int .i64 k ∧ k ≤ l.length ∧ kg = l.length + 1 - k ∧ SRow 33 2 w.heap.size PairV q o wr ∧ q ++ lastK (l.drop k) = LK ∧ Below w.heap.size w wr)
  case atStart => exact ⟨0, [], rfl, Nat.zero_le _, rfl, ho0, e0, hB⟩
  case round =>
    clear ho0 e0 hB
    obtain ⟨k, q, rfl, hk, hkg, ho, he, hB⟩ := hrel
    replace hkg := Lib.hid hkg
    by_cases hlt : k < l.length
    · obtain ⟨ad, rfl, hadlt, c0, c1⟩ := PK.pair_ (hr.below hB) hlt
      have hdr : l.drop k = l[k] :: l.drop (k + 1) := List.drop_eq_getElem_cons hlt
      rw [hdr, lastK] at he
      have hD : ∀ m (hm : m < (l.drop (k + 1)).length) (hm2 : k + 1 + m < l.length), (l.drop (k + 1))[m] = l[k + 1 + m] := fun m hm hm2 => List.getElem_drop
      have hdl : (l.drop (k + 1)).length = l.length - (k + 1) := List.length_drop
      have hag := again_succ (l.drop (k + 1)) l[k].1
      have ha0 : again (l.drop (k + 1)) l[k].1 0 = false := rfl
      have haN : again (l.drop (k + 1)) l[k].1 (l.drop (k + 1)).length = (l.drop (k + 1)).any (fun q => decide (q.1 = l[k].1)) := by unfold again; rw [List.take_length]
      rw [← haN] at he
      have b3 : ((l.length : Int) ≤ cap) = True := eq_true (by omega)
      have hkk : (k : Int) < l.length := by omega
      obtain ⟨p, hp⟩ : ∃ p, l[k] = p := ⟨_, rfl⟩
      rw [hp] at c0 c1 hag ha0 haN he
      generalize hAg : again (l.drop (k + 1)) p.1 = AG at *
      generalize hDD : l.drop (k + 1) = D at *
      replace hp := Lib.hid hp
      replace hAg := Lib.hid hAg
      replace hDD := Lib.hid hDD
      replace haN := Lib.hid haN
      replace hag := Lib.hid hag
      replace he := Lib.hid he
      replace hD := Lib.hid hD
      replace hdr := Lib.hid hdr
      go_upto_region 7 with (fail)
      go_loopg [5, 6] (D.length + 1) (fun kg c i w2 => ∃ m j : Nat, j = k + 1 + m ∧ i = .int .i64 j ∧ c = .bool (AG m) ∧ m ≤ D.length ∧ kg = D.length + 1 - m ∧ Later wr w2)
      case atStart => exact ⟨0, k + 1, rfl, rfl, by rw [ha0], Nat.zero_le _, rfl, Later.refl wr⟩
      case round =>
        rename_i w2
        obtain ⟨m, j, hj, rfl, rfl, hm, hkg2, hl2⟩ := hrel
        replace hkg2 := Lib.hid hkg2
        by_cases hlt2 : m < D.length
        · have hlt3 : j < l.length := by omega
          obtain ⟨ad', he', -, d0, -⟩ := PK.pair_ (hr.below (below_next' hB hl2)) hlt3
          obtain rfl := Option.some.inj he'
          have hDm : l[j] = D[m] := by
            have := hD.out m hlt2 (by omega)
            rw [this]
            simp only [hj]
          rw [hDm] at d0
          have hag' := hag.out m hlt2
          generalize D[m] = r at *
          have e0 := Later.cell hl2 c0
          replace hj := Lib.hid hj
          have x1 : ((j : Int) < l.length) = True := eq_true (by omega)
          have x2 : ((k : Int) < l.length) = True := eq_true (by omega)
          have x3 : ((0 : Int) ≤ j) = True := eq_true (by omega)
          have x4 : ((0 : Int) ≤ k) = True := eq_true (by omega)
          go_upto_region 9 with (fail)
          cases hb : AG m
          · rw [hb, Bool.false_or] at hag'
            replace hag' := Lib.hid hag'
            refine wp_region_grow 14 45 (by kernel_rfl) (by kernel_rfl) rfl (fun w4 hl4 => ?_)
            simp only [List.take_succ_cons, List.take_zero, List.drop_succ_cons, List.drop_zero]
            generalize ha : Act.mk _ _ = a0
            have k0 : a0.eval (.tmp 0) = .slice (some ad) l.length cap := by subst ha; rfl
            have k4 : a0.eval (.tmp 4) = .int .i64 k := by subst ha; rfl
            have k5 : a0.eval (.tmp 5) = .bool false := by subst ha; rfl
            have k6 : a0.eval (.tmp 6) = .int .i64 j := by subst ha; rfl
            have ks : a0.tmps.size = 45 := by subst ha; rfl
            have ha0 := ha.symm
            clear ha
            refine wpG_move (fun a w hk => (hk 5 rfl : a.eval (.tmp 5) = a0.eval (.tmp 5)).trans k5) ?_
            refine wpG_move (fun a w hk => hk 21 rfl) ?_
            refine wpG_guard (fun a w hl hk => by have e : a.eval (.tmp 22) = .bool false := hk 22 rfl; rw [wanted_of rfl rfl e]; rfl) ?_
            refine wpG_move (fun a w hk => (hk 0 rfl : a.eval (.tmp 0) = a0.eval (.tmp 0)).trans k0) ?_
            refine wpG_guard (fun a w hl hk => by have e : a.eval (.tmp 22) = .bool false := hk 22 rfl; rw [wanted_of rfl rfl e]; rfl) ?_
            refine wpG_move (fun a w hk => (hk 6 rfl : a.eval (.tmp 6) = a0.eval (.tmp 6)).trans k6) ?_
            refine wpG_guard (fun a w hl hk => by have e : a.eval (.tmp 22) = .bool false := hk 22 rfl; rw [wanted_of rfl rfl e]; rfl) ?_
            apply wpG_value'
            · rfl
            · (intro a wx hlx hk K hK; have e23 : a.eval (.tmp 23) = _ := hk 23 rfl; have e24 : a.eval (.tmp 24) = _ := hk 24 rfl; simp only [execOp, e23, e24]; clear e23 e24 hk; go_simp; exact hK)
            refine wpG_guard (fun a w hl hk => by have e : a.eval (.tmp 22) = .bool false := hk 22 rfl; rw [wanted_of rfl rfl e]; rfl) ?_
            apply wpG_value'
            · rfl
            · (intro a wx hlx hk K hK; have e25 : a.eval (.tmp 25) = _ := hk 25 rfl; simp only [execOp, e25]; clear e25 hk; go_simp; exact hK)
            refine wpG_guard (fun a w hl hk => by have e : a.eval (.tmp 22) = .bool false := hk 22 rfl; rw [wanted_of rfl rfl e]; rfl) ?_
            refine wpG_load1 (hl4.cell d0) Try.underlying9 rfl (fun a w hk => hk 26 rfl) ?_
            refine wpG_guard (fun a w hl hk => by have e : a.eval (.tmp 22) = .bool false := hk 22 rfl; rw [wanted_of rfl rfl e]; rfl) ?_
            refine wpG_move (fun a w hk => (hk 0 rfl : a.eval (.tmp 0) = a0.eval (.tmp 0)).trans k0) ?_
            refine wpG_guard (fun a w hl hk => by have e : a.eval (.tmp 22) = .bool false := hk 22 rfl; rw [wanted_of rfl rfl e]; rfl) ?_
            refine wpG_move (fun a w hk => (hk 4 rfl : a.eval (.tmp 4) = a0.eval (.tmp 4)).trans k4) ?_
            refine wpG_guard (fun a w hl hk => by have e : a.eval (.tmp 22) = .bool false := hk 22 rfl; rw [wanted_of rfl rfl e]; rfl) ?_
            apply wpG_value'
            · rfl
            · (intro a wx hlx hk K hK; have e28 : a.eval (.tmp 28) = _ := hk 28 rfl; have e29 : a.eval (.tmp 29) = _ := hk 29 rfl; simp only [execOp, e28, e29]; clear e28 e29 hk; go_simp; exact hK)
            refine wpG_guard (fun a w hl hk => by have e : a.eval (.tmp 22) = .bool false := hk 22 rfl; rw [wanted_of rfl rfl e]; rfl) ?_
            apply wpG_value'
            · rfl
            · (intro a wx hlx hk K hK; have e30 : a.eval (.tmp 30) = _ := hk 30 rfl; simp only [execOp, e30]; clear e30 hk; go_simp; exact hK)
            refine wpG_guard (fun a w hl hk => by have e : a.eval (.tmp 22) = .bool false := hk 22 rfl; rw [wanted_of rfl rfl e]; rfl) ?_
            refine wpG_load1 (hl4.cell e0) Try.underlying9 rfl (fun a w hk => hk 31 rfl) ?_
            refine wpG_guard (fun a w hl hk => by have e : a.eval (.tmp 22) = .bool false := hk 22 rfl; rw [wanted_of rfl rfl e]; rfl) ?_
            apply wpG_value'
            · rfl
            · (intro a wx hlx hk K hK; have e27 : a.eval (.tmp 27) = _ := hk 27 rfl; have e32 : a.eval (.tmp 32) = _ := hk 32 rfl; simp only [execOp, e27, e32]; clear e27 e32 hk; go_simp; exact hK)
            apply wpG_value'
            · rfl
            · (intro a wx hlx hk K hK; have e22 : a.eval (.tmp 22) = _ := hk 22 rfl; have e33 : a.eval (.tmp 33) = _ := hk 33 rfl; simp only [execOp, e22, e33]; clear e22 e33 hk; go_simp; exact hK)
            refine wpG_nil (fun w4' hl4' => ?_)
            refine fin_is ?_
            refine fin_is ?_
            refine fin_is ?_
            refine fin_is ?_
            refine fin_is ?_
            refine fin_is ?_
            refine fin_is ?_
            refine fin_is ?_
            refine fin_is ?_
            refine fin_is ?_
            refine fin_is ?_
            refine fin_is ?_
            refine fin_is ?_
            refine fin_is ?_
            refine fin_nil ?_
            subst ha0
            clear k0 k4 k5 k6 ks
            simp only [Act.put, List.setIfInBounds_toArray, List.set_cons_succ, List.set_cons_zero]
            go_wp2_with (fail)
            go_roundg (D.length - m)
            case measure => go_light; rw [hkg2.out]; omega
            case rel => go_light; exact ⟨m + 1, j + 1, by rw [hj.out]; omega, by go_num, by rw [hag'.out]; exact congrArg Value.bool (beqL _ _), by omega, by omega, hl2.trans (hl4.trans hl4')⟩
          · rw [hb, Bool.true_or] at hag'
            replace hag' := Lib.hid hag'
            refine wp_region_grow 14 45 (by kernel_rfl) (by kernel_rfl) rfl (fun w4 hl4 => ?_)
            simp only [List.take_succ_cons, List.take_zero, List.drop_succ_cons, List.drop_zero]
            generalize ha : Act.mk _ _ = a0
            have k0 : a0.eval (.tmp 0) = .slice (some ad) l.length cap := by subst ha; rfl
            have k4 : a0.eval (.tmp 4) = .int .i64 k := by subst ha; rfl
            have k5 : a0.eval (.tmp 5) = .bool true := by subst ha; rfl
            have k6 : a0.eval (.tmp 6) = .int .i64 j := by subst ha; rfl
            have ks : a0.tmps.size = 45 := by subst ha; rfl
            have ha0 := ha.symm
            clear ha
            refine wpG_move (fun a w hk => (hk 5 rfl : a.eval (.tmp 5) = a0.eval (.tmp 5)).trans k5) ?_
            refine wpG_move (fun a w hk => hk 21 rfl) ?_
            refine wpG_skip (fun a w hl hk => by have e : a.eval (.tmp 22) = .bool true := hk 22 rfl; rw [wanted_of rfl rfl e]; rfl) ?_
            refine wpG_skip (fun a w hl hk => by have e : a.eval (.tmp 22) = .bool true := hk 22 rfl; rw [wanted_of rfl rfl e]; rfl) ?_
            refine wpG_skip (fun a w hl hk => by have e : a.eval (.tmp 22) = .bool true := hk 22 rfl; rw [wanted_of rfl rfl e]; rfl) ?_
            refine wpG_skip (fun a w hl hk => by have e : a.eval (.tmp 22) = .bool true := hk 22 rfl; rw [wanted_of rfl rfl e]; rfl) ?_
            refine wpG_skip (fun a w hl hk => by have e : a.eval (.tmp 22) = .bool true := hk 22 rfl; rw [wanted_of rfl rfl e]; rfl) ?_
            refine wpG_skip (fun a w hl hk => by have e : a.eval (.tmp 22) = .bool true := hk 22 rfl; rw [wanted_of rfl rfl e]; rfl) ?_
            refine wpG_skip (fun a w hl hk => by have e : a.eval (.tmp 22) = .bool true := hk 22 rfl; rw [wanted_of rfl rfl e]; rfl) ?_
            refine wpG_skip (fun a w hl hk => by have e : a.eval (.tmp 22) = .bool true := hk 22 rfl; rw [wanted_of rfl rfl e]; rfl) ?_
            refine wpG_skip (fun a w hl hk => by have e : a.eval (.tmp 22) = .bool true := hk 22 rfl; rw [wanted_of rfl rfl e]; rfl) ?_
            refine wpG_skip (fun a w hl hk => by have e : a.eval (.tmp 22) = .bool true := hk 22 rfl; rw [wanted_of rfl rfl e]; rfl) ?_
            refine wpG_skip (fun a w hl hk => by have e : a.eval (.tmp 22) = .bool true := hk 22 rfl; rw [wanted_of rfl rfl e]; rfl) ?_
            apply wpG_value'
            · rfl
            · (intro a wx hlx hk K hK; have e22 : a.eval (.tmp 22) = _ := hk 22 rfl; have e33 : a.eval (.tmp 33) = _ := hk 33 rfl; simp only [execOp, e22, e33]; clear e22 e33 hk; go_simp; exact hK)
            refine wpG_nil (fun w4' hl4' => ?_)
            refine fin_is ?_
            refine fin_is ?_
            refine fin_is ?_
            refine fin_is ?_
            refine fin_is ?_
            refine fin_is ?_
            refine fin_is ?_
            refine fin_is ?_
            refine fin_is ?_
            refine fin_is ?_
            refine fin_is ?_
            refine fin_is ?_
            refine fin_is ?_
            refine fin_is ?_
            refine fin_nil ?_
            subst ha0
            clear k0 k4 k5 k6 ks
            simp only [Act.put, List.setIfInBounds_toArray, List.set_cons_succ, List.set_cons_zero]
            go_wp2_with (fail)
            go_roundg (D.length - m)
            case measure => go_light; rw [hkg2.out]; omega
            case rel => go_light; exact ⟨m + 1, j + 1, by rw [hj.out]; omega, by go_num, by rw [hag'.out], by omega, by omega, hl2.trans (hl4.trans hl4')⟩
        · obtain rfl : m = D.length := by omega
          obtain rfl : j = l.length := by omega
          have e0 := Later.cell hl2 c0
          have e1 := Later.cell hl2 c1
          have hB2 := below_next' hB hl2
          have ho2 := SRow.later _ _ _ hl2 ho
          have he' := he.out
          have hql : q.length ≤ 1048576 := by
            have := congrArg List.length he'
            rw [List.length_append] at this
            omega
          have x2 : ((k : Int) < l.length) = True := eq_true (by omega)
          have x4 : ((0 : Int) ≤ k) = True := eq_true (by omega)
          cases hb : AG D.length
          · rw [hb, if_neg (by decide)] at he'
            replace he' := Lib.hid he'
            replace hj := Lib.hid hj
            replace hdl := Lib.hid hdl
            go_wp2_with (first | ((with_reducible apply wl_loadAt (ty := 33) #[.string p.1, .string p.2] (pair_load e0 e1) Try.underlying33); rfl; rfl; rfl; kernel_rfl) | (at_builtin; refine wl_appendR (f := PairV) (s := p) Try.underlying22 (z := .agg #[.string ⟨#[]⟩, .string ⟨#[]⟩]) (by_ := 32) (by kernel_rfl) rfl (by decide) (by decide) (SRow.later _ _ _ ((Later.refl _).alloc _) ho2) (Whole.new _ _ _) rfl (PairV_one p) hql (by have := hB2.size; go_size) rfl rfl (fun v' w5 ho5 hg5 => ?_)))
            have hB5 := below_own (hB2.alloc hB2.size (.cells (PairV p).toArray 33)) (SRow.later _ _ _ ((Later.refl _).alloc (.cells (PairV p).toArray 33)) ho2) (Nat.le_refl _) hg5
            go_wp2_with (fail)
            go_roundg (l.length - k)
            case measure => go_light; rw [hkg.out]; omega
            case rel => go_light; exact ⟨k + 1, q ++ [p], by go_num, by omega, by omega, ho5, by rw [hDD.out, List.append_assoc]; exact he'.out, hB5⟩
          · rw [hb, if_pos rfl] at he'
            replace he' := Lib.hid he'
            replace hj := Lib.hid hj
            replace hdl := Lib.hid hdl
            go_wp2_with (fail)
            go_roundg (l.length - k)
            case measure => go_light; rw [hkg.out]; omega
            case rel => go_light; exact ⟨k + 1, q, by go_num, by omega, by omega, ho2, by rw [hDD.out]; exact he'.out, hB2⟩
    · obtain rfl : k = l.length := by omega
      go_wp2_with (fail)
      go_returns
      go_light
      rw [List.drop_length] at he
      have : q = LK := by rw [← he]; exact (List.append_nil q).symm
      subst this
      exact ⟨⟨_, rfl, ho⟩, hB⟩
end Go.Proofs.Ytknjbkbbhgjnlaa
