/- Contracts of package wire: heads, written and read; the reference's heads. Condition: texts of at most 2^61 bytes. -/
import Derived.Test.YtdohmkanpdhmaaaWire3
import Derived.Test.YtdohmkanpdhmaaaWireHSpec
namespace Go.Proofs.Ytdohmkanpdhmaaa
open Go.RowKit
set_option linter.unusedVariables false
set_option linter.unusedSimpArgs false
set_option maxRecDepth 100000 in
theorem refNumber_calls (n : Int) (w : World) :
    Calls Try.prog 50 #[.int .i64 n] w fun e w' => e = .returned (.string (numB n)) ∧ Below w.heap.size w w' := by
  have h4 := fun a b c d W => conv4 a b c d W _ rfl
  go_enter Try.func50, Try.ntmps50
  go_wp2
  all_goals go_returns
  all_goals go_light
  all_goals refine ⟨ret_str ?_, by go_grown⟩
  all_goals (try clear h4)
  all_goals unfold numB
  · rw [if_pos (by omega)]; rfl
  · rw [if_neg (by omega)]
  · rw [if_pos (by omega)]; rfl
theorem refText_calls (s : ByteArray) (w : World) (hs : s.size ≤ 9223372036854775803) :
    Calls Try.prog 55 #[.string s] w fun e w' => e = .returned (.string (textB s)) ∧ Below w.heap.size w w' := by
  have h4 : ∀ n, (numB n).size = 4 := fun n => by simp [numB, strOfNums_size]
  go_enter Try.func55, Try.ntmps55
  go_wp2_with (go_at_call 50; refine (refNumber_calls _ _).mono ?_; rintro e w' ⟨rfl, hb⟩)
  all_goals go_returns
  all_goals go_light
  all_goals exact ⟨rfl, hb⟩
set_option maxHeartbeats 4000000 in
set_option maxRecDepth 100000 in
theorem head_calls (h : Hd) (w : World) (hl : h.r.size ≤ 2305843009213693952) (hk : h.m.size ≤ 2305843009213693952) :
    Calls Try.prog 27 #[.agg h.A] w fun e w' => e = .returned (.string h.B) ∧ Below w.heap.size w w' := by
  obtain ⟨q, z, t, r, m⟩ := h
  simp only at hl hk
  have z1 := numB_size q
  have z2 := numB_size z
  have z3 := numB_size t
  have hw := Whole.new w 64 (Hd.mk q z t r m).A
  have hB0 : Below w.heap.size w (w.alloc (.cells (Hd.mk q z t r m).A 64)) := by go_grown
  generalize hW : w.alloc (.cells (Hd.mk q z t r m).A 64) = W0 at hw hB0
  have HW := Lib.hid hW
  clear hW
  have c0 : W0.cell? ⟨w.heap.size, 0, none⟩ = some (.int .i64 q) := hw.cell 0
  have c1 : W0.cell? ⟨w.heap.size, 1, none⟩ = some (.int .i64 z) := hw.cell 1
  have c2 : W0.cell? ⟨w.heap.size, 2, none⟩ = some (.int .i64 t) := hw.cell 2
  have c3 : W0.cell? ⟨w.heap.size, 3, none⟩ = some (.string r) := hw.cell 3
  have c4 : W0.cell? ⟨w.heap.size, 4, none⟩ = some (.string m) := hw.cell 4
  have hB := (Below.refl W0.heap.size W0).drew
  unfold Hd.A at HW ⊢
  have y1 : (9223372036854775807 < 13 + r.size) = False := eq_false (by omega)
  have y2 : (9223372036854775807 < 13 + r.size + m.size) = False := eq_false (by omega)
  go_enter Try.func27, Try.ntmps27
  go_wp2
  rw [HW.out]
  go_region_held3 (fun W : World => W.cell? ⟨w.heap.size, 0, none⟩ = some (.int .i64 q) ∧ W.cell? ⟨w.heap.size, 1, none⟩ = some (.int .i64 z) ∧ W.cell? ⟨w.heap.size, 2, none⟩ = some (.int .i64 t) ∧ W.cell? ⟨w.heap.size, 3, none⟩ = some (.string r) ∧ W.cell? ⟨w.heap.size, 4, none⟩ = some (.string m)) (first | exact ⟨c0, c1, c2, c3, c4⟩ | exact ⟨j0, j1, j2, j3, j4⟩ | go_keep) (first | (go_simp; (with_reducible refine (number_calls _ _).mono ?_); rintro e w3 ⟨rfl, hb3⟩; replace hB := below_next' hB hb3; have j0 := cell_keep c0 hB; have j1 := cell_keep c1 hB; have j2 := cell_keep c2 hB; have j3 := cell_keep c3 hB; have j4 := cell_keep c4 hB; clear hb3))
  all_goals go_wp2
  all_goals go_returns
  all_goals go_light
  all_goals exact ⟨rfl, below_next' hB0 hB⟩
set_option maxHeartbeats 4000000 in
set_option maxRecDepth 100000 in
theorem refHead_calls (h : Hd) (w : World) (hl : h.r.size ≤ 2305843009213693952) (hk : h.m.size ≤ 2305843009213693952) :
    Calls Try.prog 29 #[.agg h.A] w fun e w' => e = .returned (.string h.B) ∧ Below w.heap.size w w' := by
  obtain ⟨q, z, t, r, m⟩ := h
  simp only at hl hk
  have z1 := numB_size q
  have z2 := numB_size z
  have z3 := numB_size t
  have hw := Whole.new w 64 (Hd.mk q z t r m).A
  have hB0 : Below w.heap.size w (w.alloc (.cells (Hd.mk q z t r m).A 64)) := by go_grown
  generalize hW : w.alloc (.cells (Hd.mk q z t r m).A 64) = W0 at hw hB0
  have HW := Lib.hid hW
  clear hW
  have c0 : W0.cell? ⟨w.heap.size, 0, none⟩ = some (.int .i64 q) := hw.cell 0
  have c1 : W0.cell? ⟨w.heap.size, 1, none⟩ = some (.int .i64 z) := hw.cell 1
  have c2 : W0.cell? ⟨w.heap.size, 2, none⟩ = some (.int .i64 t) := hw.cell 2
  have c3 : W0.cell? ⟨w.heap.size, 3, none⟩ = some (.string r) := hw.cell 3
  have c4 : W0.cell? ⟨w.heap.size, 4, none⟩ = some (.string m) := hw.cell 4
  have hB := (Below.refl W0.heap.size W0).drew
  unfold Hd.A at HW ⊢
  have y1 : (9223372036854775807 < 13 + r.size) = False := eq_false (by omega)
  have y2 : (9223372036854775807 < 13 + r.size + m.size) = False := eq_false (by omega)
  go_enter Try.func29, Try.ntmps29
  go_wp2
  rw [HW.out]
  go_region_held3 (fun W : World => W.cell? ⟨w.heap.size, 0, none⟩ = some (.int .i64 q) ∧ W.cell? ⟨w.heap.size, 1, none⟩ = some (.int .i64 z) ∧ W.cell? ⟨w.heap.size, 2, none⟩ = some (.int .i64 t) ∧ W.cell? ⟨w.heap.size, 3, none⟩ = some (.string r) ∧ W.cell? ⟨w.heap.size, 4, none⟩ = some (.string m)) (first | exact ⟨c0, c1, c2, c3, c4⟩ | exact ⟨j0, j1, j2, j3, j4⟩ | go_keep) (first | (go_simp; (with_reducible refine (refNumber_calls _ _).mono ?_); rintro e w3 ⟨rfl, hb3⟩; replace hB := below_next' hB hb3; have j0 := cell_keep c0 hB; have j1 := cell_keep c1 hB; have j2 := cell_keep c2 hB; have j3 := cell_keep c3 hB; have j4 := cell_keep c4 hB; clear hb3))
  all_goals go_wp2
  all_goals go_returns
  all_goals go_light
  all_goals exact ⟨rfl, below_next' hB0 hB⟩

set_option maxHeartbeats 1000000 in
set_option maxRecDepth 100000 in
theorem readHead_calls (b : ByteArray) (w : World) :
    Calls Try.prog 28 #[.string b] w fun e w' => e = .returned (.tuple #[.agg (readHead b).1.A, .int .i64 (readHead b).2]) ∧ Below w.heap.size w w' := by
  have hq : readHead b = (let x := ((⟨b, false⟩ : Rd).mark (lit [72])).head
    if x.2.done then (x.1, 0) else (Hd.zero, 2)) := rfl
  generalize hr : readHead b = r at hq
  have Hq := Lib.hid hq
  clear hq hr
  go_enter Try.func28, Try.ntmps28
  go_wp2_with fail
  refine (rmark ⟨b, false⟩ (lit [72]) _ _ (Whole.new1 _ _ _ _)).mono ?_
  rintro e w1 ⟨rfl, hw1, hg1⟩
  have hr1 : Whole w1 w.heap.size 64 Hd.zero.A := Whole.only (Whole.alloc (Whole.new _ _ _) _) hg1 (by simp)
  generalize hs1 : (⟨b, false⟩ : Rd).mark (lit [72]) = r1 at hw1
  have Hs1 := Lib.hid hs1
  clear hs1
  go_wp2_with fail
  refine (rnum r1 _ _ hw1).mono ?_
  rintro e w2 ⟨rfl, hw2, hg2⟩
  have hr2 := hr1.only hg2 (by simp)
  go_wp2_with fail
  refine (rnum r1.num.2 _ _ hw2).mono ?_
  rintro e w3 ⟨rfl, hw3, hg3⟩
  have hr3 := hr2.only hg3 (by simp)
  go_wp2_with fail
  refine (rnum r1.num.2.num.2 _ _ hw3).mono ?_
  rintro e w4 ⟨rfl, hw4, hg4⟩
  have hr4 := hr3.only hg4 (by simp)
  go_wp2_with fail
  refine (rcut r1.num.2.num.2.num.2 32 _ _ hw4).mono ?_
  rintro e w5 ⟨rfl, hw5, hg5⟩
  have hr5 := hr4.only hg5 (by simp)
  go_wp2_with fail
  refine (rcut (r1.num.2.num.2.num.2.cut 32).2 32 _ _ hw5).mono ?_
  rintro e w6 ⟨rfl, hw6, hg6⟩
  have hr6 := hr5.only hg6 (by simp)
  have hB : Below w.heap.size w w6 := by
    refine below_only' (below_only' (below_only' (below_only' (below_only' (below_only' ?_ hg1 ?_) hg2 ?_) hg3 ?_) hg4 ?_) hg5 ?_) hg6 ?_
    all_goals first | go_grown | omega
  have hX : r1.head = (⟨r1.num.1, r1.num.2.num.1, r1.num.2.num.2.num.1, (r1.num.2.num.2.num.2.cut 32).1, ((r1.num.2.num.2.num.2.cut 32).2.cut 32).1⟩, ((r1.num.2.num.2.num.2.cut 32).2.cut 32).2) := rfl
  generalize ((r1.num.2.num.2.num.2.cut 32).2.cut 32).2 = r6 at hw6 hX
  generalize r1.num.1 = c at hX ⊢
  generalize r1.num.2.num.1 = s at hX ⊢
  generalize r1.num.2.num.2.num.1 = l at hX ⊢
  generalize ((r1.num.2.num.2.num.2.cut 32).2.cut 32).1 = v at hX ⊢
  generalize (r1.num.2.num.2.num.2.cut 32).1 = k at hX ⊢
  have HX := Lib.hid hX
  clear hX hg1 hg2 hg3 hg4 hg5 hg6 hr1 hr2 hr3 hr4 hr5 hw1 hw2 hw3 hw4 hw5
  go_wp2_with fail
  refine (rdone r6 _ _ (hw6.alloc _)).mono ?_
  rintro e w7 ⟨rfl, rfl⟩
  have hz := hr6.alloc (.cells #[.int .i64 c, .int .i64 s, .int .i64 l, .string k, .string v] 64)
  have hn := Whole.new w6 64 #[.int .i64 c, .int .i64 s, .int .i64 l, .string k, .string v]
  have hlt := hr6.lt
  have hB' := hB.alloc hB.size (.cells #[.int .i64 c, .int .i64 s, .int .i64 l, .string k, .string v] 64)
  generalize hw9 : w6.alloc (.cells #[.int .i64 c, .int .i64 s, .int .i64 l, .string k, .string v] 64) = w9 at *
  have hn9 : w6.heap.size < w9.heap.size := hn.lt
  clear hw9
  have hq := Hq.out
  rw [Hs1.out, HX.out] at hq
  cases hd : r6.done
  · simp [hd] at hq
    subst hq
    go_wp2_with ((with_reducible apply wl_storeW (ty := 64) hz); rfl; rfl; rfl; kernel_rfl; rfl; rfl; intro w10 hs10 hg10 hz10)
    refine bodyPost_ret (res_cell_tmp rfl _ _ _ _ _ _ rfl hs10 Try.underlying64 rfl (by kernel_rfl)) rfl ?_
    go_light
    exact ⟨rfl, below_only' hB' hg10 (Nat.le_refl _)⟩
  · simp [hd] at hq
    subst hq
    go_wp2_with (first | (first | ((with_reducible apply wl_loadW (ty := 64) hn Try.underlying64); rfl; rfl; rfl; kernel_rfl) | ((with_reducible apply wl_loadW (ty := 64) (hn.alloc _) Try.underlying64); rfl; rfl; rfl; kernel_rfl) | ((with_reducible apply wl_loadW (ty := 64) ((hn.alloc _).alloc _) Try.underlying64); rfl; rfl; rfl; kernel_rfl)) | ((with_reducible apply wl_storeW (ty := 64) hz); rfl; rfl; rfl; kernel_rfl; rfl; rfl; intro w10 hs10 hg10 hz10))
    all_goals refine bodyPost_ret (res_cell_tmp rfl _ _ _ _ _ _ rfl hs10 Try.underlying64 rfl (by kernel_rfl)) rfl ?_
    all_goals go_light
    all_goals exact ⟨rfl, below_only' hB' hg10 (Nat.le_refl _)⟩
set_option maxHeartbeats 1000000 in
set_option maxRecDepth 100000 in
theorem refRightHead_calls (h : Hd) (w : World) :
    Calls Try.prog 30 #[.agg h.A] w fun e w' => e = .returned (.bool h.right) ∧ Below w.heap.size w w' := by
  obtain ⟨q, z, t, r, m⟩ := h
  unfold Hd.A
  go_enter Try.func30, Try.ntmps30
  go_wp2
  have hB : Below w.heap.size w ((w.alloc (.cells #[.int .i64 q, .int .i64 z, .int .i64 t, .string r, .string m] 64)).alloc (.cells #[.int .i64 q, .int .i64 z, .int .i64 t] 93)) := by go_grown
  have ha := (Whole.new w 64 #[.int .i64 q, .int .i64 z, .int .i64 t, .string r, .string m]).alloc (.cells #[.int .i64 q, .int .i64 z, .int .i64 t] 93)
  have hl := Whole.new1 w (.cells #[.int .i64 q, .int .i64 z, .int .i64 t, .string r, .string m] 64) 93 #[.int .i64 q, .int .i64 z, .int .i64 t]
  generalize hW : (w.alloc (.cells #[.int .i64 q, .int .i64 z, .int .i64 t, .string r, .string m] 64)).alloc (.cells #[.int .i64 q, .int .i64 z, .int .i64 t] 93) = W at *
  clear hW
  go_loopg [4] 4 (fun kg i wr => ∃ (k : Nat), k ≤ 3 ∧ kg = 4 - k ∧ i = .int .i64 k ∧ wr = W ∧ ((1 ≤ k → 0 ≤ q ∧ q ≤ 2147483647) ∧ (2 ≤ k → 0 ≤ z ∧ z ≤ 2147483647) ∧ (3 ≤ k → 0 ≤ t ∧ t ≤ 2147483647)))
  case atStart => exact ⟨0, Nat.zero_le _, rfl, rfl, rfl, by omega, by omega, by omega⟩
  case round =>
    obtain ⟨k, hk, hkg, rfl, rfl, h1, h2, h3⟩ := hrel
    replace hkg := Lib.hid hkg
    have l0 : wr.cell? ⟨w.heap.size + 1, 0, none⟩ = some (.int .i64 q) := hl.cell 0
    have l1 : wr.cell? ⟨w.heap.size + 1, 1, none⟩ = some (.int .i64 z) := hl.cell 1
    have l2 : wr.cell? ⟨w.heap.size + 1, 2, none⟩ = some (.int .i64 t) := hl.cell 2
    have a3 : wr.cell? ⟨w.heap.size, 3, none⟩ = some (.string r) := ha.cell 3
    have a4 : wr.cell? ⟨w.heap.size, 4, none⟩ = some (.string m) := ha.cell 4
    match k, hk with
    | 0, _ =>
      go_wp2
      · go_returns
        go_light
        exact ⟨ret_bool (by simp [Hd.right]; omega), hB⟩
      · go_roundg 3
        case measure => go_light; rw [hkg.out]; omega
        case rel => go_light; exact ⟨1, by omega, by omega, rfl, rfl, by omega, by omega, by omega⟩
      · go_returns
        go_light
        exact ⟨ret_bool (by simp [Hd.right]; omega), hB⟩
    | 1, _ =>
      go_wp2
      · go_returns
        go_light
        exact ⟨ret_bool (by simp [Hd.right]; omega), hB⟩
      · go_roundg 2
        case measure => go_light; rw [hkg.out]; omega
        case rel => go_light; exact ⟨2, by omega, by omega, rfl, rfl, by omega, by omega, by omega⟩
      · go_returns
        go_light
        exact ⟨ret_bool (by simp [Hd.right]; omega), hB⟩
    | 2, _ =>
      go_wp2
      · go_returns
        go_light
        exact ⟨ret_bool (by simp [Hd.right]; omega), hB⟩
      · go_roundg 1
        case measure => go_light; rw [hkg.out]; omega
        case rel => go_light; exact ⟨3, by omega, by omega, rfl, rfl, by omega, by omega, by omega⟩
      · go_returns
        go_light
        exact ⟨ret_bool (by simp [Hd.right]; omega), hB⟩
    | 3, _ =>
      have hd := hl.lt
      go_wp2
      all_goals go_returns
      all_goals go_light
      all_goals refine ⟨ret_bool ?_, hB⟩
      all_goals (simp [Hd.right, h1, h2, h3, *])
      all_goals (first | (rw [Bool.eq_iff_iff, beq_iff_eq, decide_eq_true_iff]) | omega)
end Go.Proofs.Ytdohmkanpdhmaaa
