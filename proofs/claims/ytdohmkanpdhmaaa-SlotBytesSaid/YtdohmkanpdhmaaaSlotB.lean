/- Contracts of package slot: what may be a place, a place's bytes. Condition: values of at most 2^40 bytes. -/
import Derived.Test.YtdohmkanpdhmaaaSlotR
namespace Go.Proofs.Ytdohmkanpdhmaaa
open Go.RowKit
set_option linter.unusedVariables false
set_option linter.unusedSimpArgs false
theorem sright_calls (s : SL) (w : World) :
    Calls Try.prog 41 #[.agg s.A] w fun e w' => e = .returned (.bool s.right) ∧ Below w.heap.size w w' := by
  obtain ⟨p, b, v⟩ := s
  unfold SL.A
  go_enter Try.func41, Try.ntmps41
  go_wp2
  all_goals go_returns
  all_goals go_light
  all_goals refine ⟨ret_bool ?_, by go_grown⟩
  all_goals (try simp only [nilL] at *)
  all_goals simp [SL.right, emptyL, *]
  all_goals (first | done | (intros; omega) | (obtain rfl : b = 0 := by omega
                                               simp_all))
theorem three_rows (W : World) (x y z : ByteArray) : Kn.str.Rows (W.alloc (.cells #[.string x, .string y, .string z] 9)) (some ⟨W.heap.size, 0, none⟩) [x, y, z] := by
  have hw := (Whole.new W 9 #[.string x, .string y, .string z]).cell
  refine ⟨by simp, fun _ => ⟨_, rfl, by simp, fun j u hj => ⟨[.string u], rfl, fun i c hi => ?_⟩⟩⟩
  match i, hi with
  | 0, hi =>
    obtain rfl : Value.string u = c := by simpa using hi
    match j, hj with
    | 0, hj => simp at hj; subst hj; exact hw 0
    | 1, hj => simp at hj; subst hj; exact hw 1
    | 2, hj => simp at hj; subst hj; exact hw 2
theorem three_bound (s : SL) (hv : s.v.size ≤ 1099511627776) : (listL (s.L.length) s.L).length ≤ 140737488355328 := by
  have h1 : (listL s.L.length s.L).length = (listB s.L).size := (listB_size _).symm
  rw [h1, listB_eq]
  unfold SL.L
  rw [textsB_cons, textsB_cons, textsB_cons, textsB_nil]
  simp only [ByteArray.size_append, numB_size, textB_size]
  have e1 : (⟨#[76]⟩ : ByteArray).size = 1 := rfl
  have e2 : ByteArray.empty.size = 0 := rfl
  omega
set_option maxHeartbeats 1000000 in
set_option maxRecDepth 100000 in
theorem sbytes_calls (s : SL) (w : World) (hv : s.v.size ≤ 1099511627776) :
    Calls Try.prog 40 #[.agg s.A] w fun e w' => e = .returned (.string (listB s.L)) ∧ Below w.heap.size w w' := by
  have hbd := three_bound s hv
  obtain ⟨p, b, v⟩ := s
  unfold SL.L at *
  simp only at hbd ⊢
  have L0 := fun W : World => list_calls (some ⟨W.heap.size, 0, none⟩) [numB p, numB b, v] 3 (W.alloc (.cells #[.string (numB p), .string (numB b), .string v] 9)) (three_rows W _ _ _) hbd
  simp only [List.length_cons, List.length_nil, Nat.zero_add, Nat.reduceAdd] at L0
  generalize listB [numB p, numB b, v] = y at *
  replace L0 := Lib.hid L0
  clear hv hbd
  have hw := Whole.new w 23 (SL.mk p b v).A
  have hB0 : Below w.heap.size w (w.alloc (.cells (SL.mk p b v).A 23)) := by go_grown
  generalize hW : w.alloc (.cells (SL.mk p b v).A 23) = W0 at hw hB0
  have HW := Lib.hid hW
  clear hW
  have c0 : W0.cell? ⟨w.heap.size, 0, none⟩ = some (.int .i64 p) := hw.cell 0
  have c1 : W0.cell? ⟨w.heap.size, 1, none⟩ = some (.int .i64 b) := hw.cell 1
  have c2 : W0.cell? ⟨w.heap.size, 2, none⟩ = some (.string v) := hw.cell 2
  have hB := (Below.refl W0.heap.size W0).drew
  unfold SL.A at HW ⊢
  go_enter Try.func40, Try.ntmps40
  go_wp2
  rw [HW.out]
  go_region_held3 (fun W : World => W.cell? ⟨w.heap.size, 0, none⟩ = some (.int .i64 p) ∧ W.cell? ⟨w.heap.size, 1, none⟩ = some (.int .i64 b) ∧ W.cell? ⟨w.heap.size, 2, none⟩ = some (.string v)) (first | exact ⟨c0, c1, c2⟩ | exact ⟨j0, j1, j2⟩ | go_keep) (first | (go_simp; (with_reducible refine (number_calls _ _).mono ?_); rintro e w3 ⟨rfl, hb3⟩; replace hB := below_next' hB hb3; have j0 := cell_keep c0 hB; have j1 := cell_keep c1 hB; have j2 := cell_keep c2 hB; clear hb3) | (go_simp; (with_reducible refine (L0.out w3).mono ?_); rintro e w4 ⟨rfl, hb4⟩; replace hB := below_next' (hB.alloc hB.size _) hb4; have j0 := cell_keep c0 hB; have j1 := cell_keep c1 hB; have j2 := cell_keep c2 hB))
  all_goals go_wp2
  all_goals go_returns
  all_goals go_light
  all_goals exact ⟨rfl, below_next' hB0 hB⟩
set_option maxHeartbeats 1000000 in
set_option maxRecDepth 100000 in
theorem refBytes_calls (s : SL) (w : World) (hv : s.v.size ≤ 1099511627776) :
    Calls Try.prog 32 #[.agg s.A] w fun e w' => e = .returned (.string (listB s.L)) ∧ Below w.heap.size w w' := by
  have hbd := three_bound s hv
  obtain ⟨p, b, v⟩ := s
  unfold SL.L at *
  simp only at hbd ⊢
  have L0 := fun W : World => refList_calls (some ⟨W.heap.size, 0, none⟩) [numB p, numB b, v] 3 (W.alloc (.cells #[.string (numB p), .string (numB b), .string v] 9)) (three_rows W _ _ _) hbd
  simp only [List.length_cons, List.length_nil, Nat.zero_add, Nat.reduceAdd] at L0
  generalize listB [numB p, numB b, v] = y at *
  replace L0 := Lib.hid L0
  clear hv hbd
  have hw := Whole.new w 23 (SL.mk p b v).A
  have hB0 : Below w.heap.size w (w.alloc (.cells (SL.mk p b v).A 23)) := by go_grown
  generalize hW : w.alloc (.cells (SL.mk p b v).A 23) = W0 at hw hB0
  have HW := Lib.hid hW
  clear hW
  have c0 : W0.cell? ⟨w.heap.size, 0, none⟩ = some (.int .i64 p) := hw.cell 0
  have c1 : W0.cell? ⟨w.heap.size, 1, none⟩ = some (.int .i64 b) := hw.cell 1
  have c2 : W0.cell? ⟨w.heap.size, 2, none⟩ = some (.string v) := hw.cell 2
  have hB := (Below.refl W0.heap.size W0).drew
  unfold SL.A at HW ⊢
  go_enter Try.func32, Try.ntmps32
  go_wp2
  rw [HW.out]
  go_region_held3 (fun W : World => W.cell? ⟨w.heap.size, 0, none⟩ = some (.int .i64 p) ∧ W.cell? ⟨w.heap.size, 1, none⟩ = some (.int .i64 b) ∧ W.cell? ⟨w.heap.size, 2, none⟩ = some (.string v)) (first | exact ⟨c0, c1, c2⟩ | exact ⟨j0, j1, j2⟩ | go_keep) (first | (go_simp; (with_reducible refine (refNumber_calls _ _).mono ?_); rintro e w3 ⟨rfl, hb3⟩; replace hB := below_next' hB hb3; have j0 := cell_keep c0 hB; have j1 := cell_keep c1 hB; have j2 := cell_keep c2 hB; clear hb3) | (go_simp; (with_reducible refine (L0.out w3).mono ?_); rintro e w4 ⟨rfl, hb4⟩; replace hB := below_next' (hB.alloc hB.size _) hb4; have j0 := cell_keep c0 hB; have j1 := cell_keep c1 hB; have j2 := cell_keep c2 hB))
  all_goals go_wp2
  all_goals go_returns
  all_goals go_light
  all_goals exact ⟨rfl, below_next' hB0 hB⟩
/-- A place's bytes come again; and backwards. -/
theorem num4_numB {n : Int} (h0 : 0 ≤ n) (h1 : n ≤ 2147483647) : num4 (numB n) = n := by
  unfold num4
  rw [if_pos (numB_size n), beNum_numB n h0 h1]
theorem sright_bounds {s : SL} (h : s.right = true) : 0 ≤ s.p ∧ s.p ≤ 2147483647 ∧ 0 ≤ s.b ∧ s.b ≤ s.p ∧ s.v.size ≤ 1000 := by
  simp [SL.right] at h; omega
theorem slot_app {s : SL} (h : s.right = true) : readSlot (listB s.L) = (s, 0) := by
  obtain ⟨h1, h2, h3, h4, h5⟩ := sright_bounds h
  unfold readSlot
  rw [readList_app s.L (by simp [SL.L]) (by
    intro t ht
    simp [SL.L] at ht
    rcases ht with rfl | rfl | rfl
    · rw [numB_size]; omega
    · rw [numB_size]; omega
    · omega)]
  simp only [if_true, SL.L, slotOf]
  rw [num4_numB h1 h2, num4_numB h3 (by omega)]
  rw [if_pos h]
theorem num4_back {x : ByteArray} (h0 : 0 ≤ num4 x) (h1 : num4 x ≤ 2147483647) : numB (num4 x) = x := by
  unfold num4 at h0 h1 ⊢
  split at h0
  · rename_i h4
    rw [if_pos h4] at h1 ⊢
    exact numB_beNum x h4 h1
  · omega
theorem slot_cases (b : ByteArray) : readSlot b = (SL.zero, 2) ∨ ∃ s : SL, readSlot b = (s, 0) ∧ s.right = true ∧ listB s.L = b := by
  rcases list_cases b with h | ⟨l, h, hb⟩
  · refine .inl ?_
    unfold readSlot
    rw [h]
    simp
  · unfold readSlot
    rw [h]
    simp only [if_true]
    unfold slotOf
    split
    · rename_i x y v
      split
      · rename_i hr
        obtain ⟨h1, h2, h3, h4, h5⟩ := sright_bounds hr
        refine .inr ⟨_, rfl, hr, ?_⟩
        simp only at h1 h2 h3 h4
        unfold SL.L
        simp only
        rw [num4_back h1 h2, num4_back h3 (by omega)]
        exact hb
      · exact .inl rfl
    · exact .inl rfl
end Go.Proofs.Ytdohmkanpdhmaaa
