/- The contract of slot.Read. No conditions. -/
import Derived.Test.YtdohmkanpdhmaaaSlotB
namespace Go.Proofs.Ytdohmkanpdhmaaa
open Go.RowKit
set_option linter.unusedVariables false
set_option linter.unusedSimpArgs false
set_option maxHeartbeats 400000 in
set_option maxRecDepth 100000 in
theorem readSlot_none (b : ByteArray) (w : World) (l : List ByteArray) (c : Int) (e : readList b = (l, c)) (hc : ¬ (c = 0) ∨ (c = 0 ∧ ¬ ((l.length : Int) = 3))) :
    Calls Try.prog 31 #[.string b] w fun e w' => e = .returned (.tuple #[.agg SL.zero.A, .int .i64 2]) ∧ Below w.heap.size w w' := by
  have R1 := fun W => readList_calls b W
  rw [e] at R1
  simp only at R1
  replace R1 := Lib.hid R1
  clear e
  have hz := Whole.new w 23 #[.int .i64 0, .int .i64 0, .string ⟨#[]⟩]
  have hB : Below w.heap.size w (w.alloc (.cells #[.int .i64 0, .int .i64 0, .string ⟨#[]⟩] 23)) := by go_grown
  unfold SL.zero SL.A
  rcases hc with hc | ⟨rfl, hc⟩
  all_goals go_enter Try.func31, Try.ntmps31
  all_goals go_wp2_with (first | (go_at_call 33; (with_reducible refine (R1.out _).mono ?_); rintro e w4 ⟨⟨X, cx, rfl, hcx, hx⟩, hb4⟩; replace hz := Whole.below (by first | (with_reducible exact hz) | (with_reducible exact hz.alloc _) | (with_reducible exact (hz.alloc _).alloc _) | (with_reducible exact hz.drewN _)) hb4 (by have := hz.lt; go_size); replace hB := below_next' (by first | (with_reducible exact hB) | (with_reducible exact hB.alloc hB.size _) | (with_reducible exact (hB.alloc hB.size _).alloc (hB.alloc hB.size _).size _) | exact below_drewN' hB _) hb4) | ((with_reducible apply wl_storeW (ty := 23) hz); rfl; rfl; rfl; kernel_rfl; rfl; rfl; intro w10 hs10 hg10 hz10))
  all_goals refine bodyPost_ret (res_cell_tmp rfl _ _ _ _ _ _ rfl hs10 Try.underlying23 rfl (by kernel_rfl)) rfl ?_
  all_goals go_light
  all_goals exact ⟨rfl, below_only' hB hg10 (Nat.le_refl _)⟩
set_option maxHeartbeats 400000 in
set_option maxRecDepth 100000 in
theorem readSlot_some (b x y v : ByteArray) (w : World) (e : readList b = ([x, y, v], 0)) :
    Calls Try.prog 31 #[.string b] w fun e w' => e = .returned (.tuple #[.agg (readSlot b).1.A, .int .i64 (readSlot b).2]) ∧ Below w.heap.size w w' := by
  have hq : readSlot b = (if (⟨num4 x, num4 y, v⟩ : SL).right then (⟨num4 x, num4 y, v⟩, 0) else (SL.zero, 2)) := by
    unfold readSlot
    rw [e]
    rfl
  generalize readSlot b = r at hq
  have R1 := fun W => readList_calls b W
  have N1 := fun W => snumber_calls x W
  have N2 := fun W => snumber_calls y W
  have P1 := fun W => sright_calls ⟨num4 x, num4 y, v⟩ W
  rw [e] at R1
  simp only [List.length_cons, List.length_nil, Nat.zero_add, Nat.reduceAdd] at R1
  unfold SL.A at P1
  simp only at P1
  generalize num4 x = p at *
  generalize num4 y = q at *
  replace R1 := Lib.hid R1
  replace N1 := Lib.hid N1
  replace N2 := Lib.hid N2
  replace P1 := Lib.hid P1
  replace hq := Lib.hid hq
  clear e
  have hz := Whole.new w 23 #[.int .i64 0, .int .i64 0, .string ⟨#[]⟩]
  have hB : Below w.heap.size w (w.alloc (.cells #[.int .i64 0, .int .i64 0, .string ⟨#[]⟩] 23)) := by go_grown
  go_enter Try.func31, Try.ntmps31
  go_upto_region 4 with (first | (go_at_call 33; (with_reducible refine (R1.out _).mono ?_); rintro e w4 ⟨⟨X, cx, rfl, hcx, hx⟩, hb4⟩; replace hz := Whole.below (by first | (with_reducible exact hz) | (with_reducible exact hz.alloc _) | (with_reducible exact (hz.alloc _).alloc _) | (with_reducible exact hz.drewN _)) hb4 (by have := hz.lt; go_size); replace hB := below_next' (by first | (with_reducible exact hB) | (with_reducible exact hB.alloc hB.size _) | (with_reducible exact (hB.alloc hB.size _).alloc (hB.alloc hB.size _).size _) | exact below_drewN' hB _) hb4))
  obtain ⟨ad, rfl, hadlt, e0⟩ := hx.one_ (k := 0) (by simp)
  obtain ⟨_, hh, _, e1⟩ := hx.one_ (k := 1) (by simp)
  obtain rfl := Option.some.inj hh
  obtain ⟨_, hh, _, e2⟩ := hx.one_ (k := 2) (by simp)
  obtain rfl := Option.some.inj hh
  simp only [List.getElem_cons_zero, List.getElem_cons_succ] at e0 e1 e2
  simp [Addr.add] at e0 e1 e2
  clear R1 hh hx hb4
  have d0 : (World.drew w4).cell? ad = _ := e0
  have d1 : (World.drew w4).cell? ⟨ad.block, ad.off + 1, none⟩ = _ := e1
  have d2 : (World.drew w4).cell? ⟨ad.block, ad.off + 2, none⟩ = _ := e2
  have hne : ad.block ≠ w4.heap.size := Nat.ne_of_lt hadlt
  go_cut [6] (fun z wc => ∃ (g : Nat), z = .pointer (some ⟨g, 0, none⟩) ∧ Whole wc g 23 #[.int .i64 p, .int .i64 q, .string v] ∧ Below w4.heap.size w4 wc)
  case first =>
    go_region_held3 (fun W : World => W.cell? ad = some (.string x) ∧ W.cell? ⟨ad.block, ad.off + 1, none⟩ = some (.string y) ∧ W.cell? ⟨ad.block, ad.off + 2, none⟩ = some (.string v)) (first | (with_reducible exact ⟨e0, e1, e2⟩) | (with_reducible exact ⟨d0, d1, d2⟩) | (with_reducible exact ⟨k0, k1, k2⟩) | (with_reducible exact ⟨j0, j1, j2⟩) | go_keep | with_reducible exact ⟨cell_set3 k0 hne _ _ _ _ _ _, cell_set3 k1 hne _ _ _ _ _ _, cell_set3 k2 hne _ _ _ _ _ _⟩ | with_reducible exact ⟨cell_set3 k0 (Nat.ne_of_lt (Nat.lt_of_lt_of_le hadlt jB.size)) _ _ _ _ _ _, cell_set3 k1 (Nat.ne_of_lt (Nat.lt_of_lt_of_le hadlt jB.size)) _ _ _ _ _ _, cell_set3 k2 (Nat.ne_of_lt (Nat.lt_of_lt_of_le hadlt jB.size)) _ _ _ _ _ _⟩) (first | (go_simp; (with_reducible refine (N1.out (World.drew w4)).mono ?_); rintro e w5 ⟨rfl, hb5⟩; have jB := below_next' (Below.refl w4.heap.size w4).drew hb5; have j0 := cell_keep (W := World.drew w4) e0 hb5; have j1 := cell_keep (W := World.drew w4) e1 hb5; have j2 := cell_keep (W := World.drew w4) e2 hb5) | (go_simp; (with_reducible refine (N1.out (World.drew (World.alloc w4 (.cells #[.int .i64 0, .int .i64 0, .string ⟨#[]⟩] 23)))).mono ?_); rintro e w5 ⟨rfl, hb5⟩; have jB := below_next' ((Below.refl w4.heap.size w4).alloc (Nat.le_refl _) (.cells #[.int .i64 0, .int .i64 0, .string ⟨#[]⟩] 23)).drew hb5; have j0 := cell_keep (W := World.drew (World.alloc w4 (.cells #[.int .i64 0, .int .i64 0, .string ⟨#[]⟩] 23))) (cell_alloc e0 (.cells #[.int .i64 0, .int .i64 0, .string ⟨#[]⟩] 23)) hb5; have j1 := cell_keep (W := World.drew (World.alloc w4 (.cells #[.int .i64 0, .int .i64 0, .string ⟨#[]⟩] 23))) (cell_alloc e1 (.cells #[.int .i64 0, .int .i64 0, .string ⟨#[]⟩] 23)) hb5; have j2 := cell_keep (W := World.drew (World.alloc w4 (.cells #[.int .i64 0, .int .i64 0, .string ⟨#[]⟩] 23))) (cell_alloc e2 (.cells #[.int .i64 0, .int .i64 0, .string ⟨#[]⟩] 23)) hb5; have im := (Whole.new w4 23 #[.int .i64 0, .int .i64 0, .string ⟨#[]⟩]).drew.below hb5 (Whole.new w4 23 #[.int .i64 0, .int .i64 0, .string ⟨#[]⟩]).drew.lt) | (go_simp; (with_reducible refine (N2.out (World.drew w4)).mono ?_); rintro e w5 ⟨rfl, hb5⟩; have jB := below_next' (Below.refl w4.heap.size w4).drew hb5; have j0 := cell_keep (W := World.drew w4) e0 hb5; have j1 := cell_keep (W := World.drew w4) e1 hb5; have j2 := cell_keep (W := World.drew w4) e2 hb5) | (go_simp; (with_reducible refine (N2.out (World.drew (World.alloc w4 (.cells #[.int .i64 0, .int .i64 0, .string ⟨#[]⟩] 23)))).mono ?_); rintro e w5 ⟨rfl, hb5⟩; have jB := below_next' ((Below.refl w4.heap.size w4).alloc (Nat.le_refl _) (.cells #[.int .i64 0, .int .i64 0, .string ⟨#[]⟩] 23)).drew hb5; have j0 := cell_keep (W := World.drew (World.alloc w4 (.cells #[.int .i64 0, .int .i64 0, .string ⟨#[]⟩] 23))) (cell_alloc e0 (.cells #[.int .i64 0, .int .i64 0, .string ⟨#[]⟩] 23)) hb5; have j1 := cell_keep (W := World.drew (World.alloc w4 (.cells #[.int .i64 0, .int .i64 0, .string ⟨#[]⟩] 23))) (cell_alloc e1 (.cells #[.int .i64 0, .int .i64 0, .string ⟨#[]⟩] 23)) hb5; have j2 := cell_keep (W := World.drew (World.alloc w4 (.cells #[.int .i64 0, .int .i64 0, .string ⟨#[]⟩] 23))) (cell_alloc e2 (.cells #[.int .i64 0, .int .i64 0, .string ⟨#[]⟩] 23)) hb5; have im := (Whole.new w4 23 #[.int .i64 0, .int .i64 0, .string ⟨#[]⟩]).drew.below hb5 (Whole.new w4 23 #[.int .i64 0, .int .i64 0, .string ⟨#[]⟩]).drew.lt) | (go_simp; (with_reducible refine (N1.out w5).mono ?_); rintro e w6 ⟨rfl, hb6⟩; have kB := below_next' jB hb6; have k0 := cell_keep j0 hb6; have k1 := cell_keep j1 hb6; have k2 := cell_keep j2 hb6; have jm := im.below hb6 im.lt; have mc := jm.cell; have mf := jm.frozen) | (go_simp; (with_reducible refine (N2.out w5).mono ?_); rintro e w6 ⟨rfl, hb6⟩; have kB := below_next' jB hb6; have k0 := cell_keep j0 hb6; have k1 := cell_keep j1 hb6; have k2 := cell_keep j2 hb6; have jm := im.below hb6 im.lt; have mc := jm.cell; have mf := jm.frozen) | (go_simp; (with_reducible refine (N1.out w5).mono ?_); rintro e w6 ⟨rfl, hb6⟩; have kB := below_next' jB hb6; have k0 := cell_keep j0 hb6; have k1 := cell_keep j1 hb6; have k2 := cell_keep j2 hb6) | (go_simp; (with_reducible refine (N2.out w5).mono ?_); rintro e w6 ⟨rfl, hb6⟩; have kB := below_next' jB hb6; have k0 := cell_keep j0 hb6; have k1 := cell_keep j1 hb6; have k2 := cell_keep j2 hb6) | (go_simp; (with_reducible refine (N1.out (World.alloc w5 (.cells #[.int .i64 0, .int .i64 0, .string ⟨#[]⟩] 23))).mono ?_); rintro e w6 ⟨rfl, hb6⟩; have kB := below_next' (jB.alloc jB.size (.cells #[.int .i64 0, .int .i64 0, .string ⟨#[]⟩] 23)) hb6; have k0 := cell_keep (W := World.alloc w5 (.cells #[.int .i64 0, .int .i64 0, .string ⟨#[]⟩] 23)) (cell_alloc j0 (.cells #[.int .i64 0, .int .i64 0, .string ⟨#[]⟩] 23)) hb6; have k1 := cell_keep (W := World.alloc w5 (.cells #[.int .i64 0, .int .i64 0, .string ⟨#[]⟩] 23)) (cell_alloc j1 (.cells #[.int .i64 0, .int .i64 0, .string ⟨#[]⟩] 23)) hb6; have k2 := cell_keep (W := World.alloc w5 (.cells #[.int .i64 0, .int .i64 0, .string ⟨#[]⟩] 23)) (cell_alloc j2 (.cells #[.int .i64 0, .int .i64 0, .string ⟨#[]⟩] 23)) hb6; have jm := (Whole.new w5 23 #[.int .i64 0, .int .i64 0, .string ⟨#[]⟩]).below hb6 (Whole.new w5 23 #[.int .i64 0, .int .i64 0, .string ⟨#[]⟩]).lt; have mc := jm.cell; have mf := jm.frozen) | (go_simp; (with_reducible refine (N2.out (World.alloc w5 (.cells #[.int .i64 0, .int .i64 0, .string ⟨#[]⟩] 23))).mono ?_); rintro e w6 ⟨rfl, hb6⟩; have kB := below_next' (jB.alloc jB.size (.cells #[.int .i64 0, .int .i64 0, .string ⟨#[]⟩] 23)) hb6; have k0 := cell_keep (W := World.alloc w5 (.cells #[.int .i64 0, .int .i64 0, .string ⟨#[]⟩] 23)) (cell_alloc j0 (.cells #[.int .i64 0, .int .i64 0, .string ⟨#[]⟩] 23)) hb6; have k1 := cell_keep (W := World.alloc w5 (.cells #[.int .i64 0, .int .i64 0, .string ⟨#[]⟩] 23)) (cell_alloc j1 (.cells #[.int .i64 0, .int .i64 0, .string ⟨#[]⟩] 23)) hb6; have k2 := cell_keep (W := World.alloc w5 (.cells #[.int .i64 0, .int .i64 0, .string ⟨#[]⟩] 23)) (cell_alloc j2 (.cells #[.int .i64 0, .int .i64 0, .string ⟨#[]⟩] 23)) hb6; have jm := (Whole.new w5 23 #[.int .i64 0, .int .i64 0, .string ⟨#[]⟩]).below hb6 (Whole.new w5 23 #[.int .i64 0, .int .i64 0, .string ⟨#[]⟩]).lt; have mc := jm.cell; have mf := jm.frozen))
    all_goals (go_wp2_with (fail); go_meet)
    · exact ⟨w6.heap.size, rfl, Whole.new _ _ _, kB.alloc kB.size _⟩
    · exact ⟨w5.heap.size, rfl, ((jm.put 0 _).put 1 _).put' 2 _ rfl, ((kB.setCell (p := ⟨w5.heap.size, 0, none⟩) jB.size _).setCell (p := ⟨w5.heap.size, 1, none⟩) jB.size _).setCell (p := ⟨w5.heap.size, 2, none⟩) jB.size _⟩
    · exact ⟨w4.heap.size, rfl, ((jm.put 0 _).put 1 _).put' 2 _ rfl, ((kB.setCell (p := ⟨w4.heap.size, 0, none⟩) (Nat.le_refl _) _).setCell (p := ⟨w4.heap.size, 1, none⟩) (Nat.le_refl _) _).setCell (p := ⟨w4.heap.size, 2, none⟩) (Nat.le_refl _) _⟩
  case rest =>
    obtain ⟨g, rfl, hx, hBc⟩ := hcut
    have hlt0 := hz.lt
    replace hz := hz.below hBc hz.lt
    replace hB := below_next' hB hBc
    clear e0 e1 e2 d0 d1 d2 hne hadlt
    have hq' := hq.out
    cases hr : (⟨p, q, v⟩ : SL).right
    · simp only [hr, Bool.false_eq_true, if_false] at hq' P1
      subst hq'
      clear hr hq
      go_wp2_with (first | (first | ((with_reducible apply wl_loadW (ty := 23) hx Try.underlying23); rfl; rfl; rfl; kernel_rfl) | ((with_reducible apply wl_loadW (ty := 23) (hx.alloc _) Try.underlying23); rfl; rfl; rfl; kernel_rfl) | ((with_reducible apply wl_loadW (ty := 23) ((hx.alloc _).alloc _) Try.underlying23); rfl; rfl; rfl; kernel_rfl)) | ((with_reducible refine (P1.out _).mono ?_); rintro e w7 ⟨rfl, hb7⟩; replace hz := Whole.below (by first | (with_reducible exact hz) | (with_reducible exact hz.alloc _) | (with_reducible exact (hz.alloc _).alloc _) | (with_reducible exact hz.drewN _)) hb7 (by have := hz.lt; go_size); replace hx := Whole.below (by first | (with_reducible exact hx) | (with_reducible exact hx.alloc _) | (with_reducible exact (hx.alloc _).alloc _) | (with_reducible exact hx.drewN _)) hb7 (by have := hx.lt; go_size); replace hB := below_next' (by first | (with_reducible exact hB) | (with_reducible exact hB.alloc hB.size _) | (with_reducible exact (hB.alloc hB.size _).alloc (hB.alloc hB.size _).size _) | exact below_drewN' hB _) hb7) | ((with_reducible apply wl_storeW (ty := 23) hz); rfl; rfl; rfl; kernel_rfl; rfl; rfl; intro w10 hs10 hg10 hz10))
      refine bodyPost_ret (res_cell_tmp rfl _ _ _ _ _ _ rfl hs10 Try.underlying23 rfl (by kernel_rfl)) rfl ?_
      go_light
      exact ⟨rfl, below_only' hB hg10 (Nat.le_refl _)⟩
    · simp only [hr, if_true] at hq' P1
      subst hq'
      clear hr hq
      go_wp2_with (first | (first | ((with_reducible apply wl_loadW (ty := 23) hx Try.underlying23); rfl; rfl; rfl; kernel_rfl) | ((with_reducible apply wl_loadW (ty := 23) (hx.alloc _) Try.underlying23); rfl; rfl; rfl; kernel_rfl) | ((with_reducible apply wl_loadW (ty := 23) ((hx.alloc _).alloc _) Try.underlying23); rfl; rfl; rfl; kernel_rfl)) | ((with_reducible refine (P1.out _).mono ?_); rintro e w7 ⟨rfl, hb7⟩; replace hz := Whole.below (by first | (with_reducible exact hz) | (with_reducible exact hz.alloc _) | (with_reducible exact (hz.alloc _).alloc _) | (with_reducible exact hz.drewN _)) hb7 (by have := hz.lt; go_size); replace hx := Whole.below (by first | (with_reducible exact hx) | (with_reducible exact hx.alloc _) | (with_reducible exact (hx.alloc _).alloc _) | (with_reducible exact hx.drewN _)) hb7 (by have := hx.lt; go_size); replace hB := below_next' (by first | (with_reducible exact hB) | (with_reducible exact hB.alloc hB.size _) | (with_reducible exact (hB.alloc hB.size _).alloc (hB.alloc hB.size _).size _) | exact below_drewN' hB _) hb7) | ((with_reducible apply wl_storeW (ty := 23) hz); rfl; rfl; rfl; kernel_rfl; rfl; rfl; intro w10 hs10 hg10 hz10))
      refine bodyPost_ret (res_cell_tmp rfl _ _ _ _ _ _ rfl hs10 Try.underlying23 rfl (by kernel_rfl)) rfl ?_
      go_light
      exact ⟨rfl, below_only' hB hg10 (Nat.le_refl _)⟩
theorem readSlot_calls (b : ByteArray) (w : World) :
    Calls Try.prog 31 #[.string b] w fun e w' => e = .returned (.tuple #[.agg (readSlot b).1.A, .int .i64 (readSlot b).2]) ∧ Below w.heap.size w w' := by
  obtain ⟨l, c, e⟩ : ∃ l c, readList b = (l, c) := ⟨_, _, rfl⟩
  by_cases hc : c = 0
  · subst hc
    by_cases hl : l.length = 3
    · match l, hl with
      | [x, y, v], _ => exact readSlot_some b x y v w e
    · have h := readSlot_none b w l 0 e (.inr ⟨rfl, by omega⟩)
      have hz : readSlot b = (SL.zero, 2) := by
        unfold readSlot
        rw [e]
        simp only [if_true]
        unfold slotOf
        split
        · simp at hl
        · rfl
      rw [hz]
      exact h
  · have h := readSlot_none b w l c e (.inl hc)
    have hz : readSlot b = (SL.zero, 2) := by
      unfold readSlot
      rw [e]
      simp only [if_neg hc]
    rw [hz]
    exact h
end Go.Proofs.Ytdohmkanpdhmaaa
