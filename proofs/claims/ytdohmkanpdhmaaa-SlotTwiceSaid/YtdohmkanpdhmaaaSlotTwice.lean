/- The walk of the law SlotTwice. No conditions. -/
import Derived.Test.YtdohmkanpdhmaaaSlot1
namespace Go.Proofs.Ytdohmkanpdhmaaa
open Go.RowKit
set_option linter.unusedVariables false
set_option linter.unusedSimpArgs false

set_option maxHeartbeats 1000000 in
set_option maxRecDepth 100000 in
theorem slotTwice_not (p q : Int) (u : ByteArray) (b c : Int) (v : ByteArray) (w : World) (h : SL.right ⟨p, q, u⟩ = false) :
    Calls Try.prog 3 #[.agg #[.int .i64 p, .int .i64 q, .string u], .agg #[.int .i64 b, .int .i64 c], .string v] w fun e w' => e = .returned (.bool true) ∧ Below w.heap.size w w' := by
  have A0 := fun W => refRight_calls ⟨p, q, u⟩ W
  simp only [h, SL.A] at A0
  replace A0 := Lib.hid A0
  clear h
  go_enter Try.func3, Try.ntmps3
  go_wp2
  go_quiet (fail)
  have hs := ((Whole.new w 23 #[.int .i64 p, .int .i64 q, .string u]).alloc (.cells #[.int .i64 b, .int .i64 c] 24)).drewN nq
  have hB : Below w.heap.size w (((w.alloc (.cells #[.int .i64 p, .int .i64 q, .string u] 23)).alloc (.cells #[.int .i64 b, .int .i64 c] 24)).drewN nq) := below_drewN' (by go_grown) nq
  generalize ((w.alloc (.cells #[.int .i64 p, .int .i64 q, .string u] 23)).alloc (.cells #[.int .i64 b, .int .i64 c] 24)).drewN nq = w0 at *
  go_wp2_with fail
  refine (awake17_calls _).mono ?_
  rintro e w1 ⟨rfl, hb1⟩
  replace hs := hs.below hb1 hs.lt
  replace hB := below_next' hB hb1
  go_wp2_with (first | (first | ((with_reducible apply wl_loadW (ty := 23) hs Try.underlying23); rfl; rfl; rfl; kernel_rfl) | ((with_reducible apply wl_loadW (ty := 23) (hs.alloc _) Try.underlying23); rfl; rfl; rfl; kernel_rfl) | ((with_reducible apply wl_loadW (ty := 23) ((hs.alloc _).alloc _) Try.underlying23); rfl; rfl; rfl; kernel_rfl)) | ((with_reducible refine (A0.out _).mono ?_); rintro e w2 ⟨rfl, hb2⟩; replace hB := below_next' (by first | (with_reducible exact hB) | (with_reducible exact hB.alloc hB.size _) | (with_reducible exact (hB.alloc hB.size _).alloc (hB.alloc hB.size _).size _) | exact below_drewN' hB _) hb2) | ((with_reducible refine (awake17_calls _).mono ?_); rintro e w6 ⟨rfl, hb6⟩; replace hB := below_next' (by first | (with_reducible exact hB) | (with_reducible exact hB.alloc hB.size _) | (with_reducible exact (hB.alloc hB.size _).alloc (hB.alloc hB.size _).size _) | exact below_drewN' hB _) hb6))
  go_returns
  exact ⟨rfl, hB⟩

set_option maxHeartbeats 1000000 in
set_option maxRecDepth 100000 in
theorem slotTwice_yes (p q p1 q1 : Int) (u u1 : ByteArray) (b c : Int) (v : ByteArray) (w : World) (h0 : SL.right ⟨p, q, u⟩ = true) (h1 : SL.accept ⟨p, q, u⟩ b v = (⟨p1, q1, u1⟩, true))
    (h2 : SL.accept ⟨p1, q1, u1⟩ b v = (⟨p1, q1, u1⟩, true)) (p3 : Int) (ok3 : Bool) (h3 : SL.promise ⟨p1, q1, u1⟩ c = (⟨p3, q1, u1⟩, ok3)) (h4 : ok3 = (decide (p1 < c) && decide (c ≤ 2147483647))) :
    Calls Try.prog 3 #[.agg #[.int .i64 p, .int .i64 q, .string u], .agg #[.int .i64 b, .int .i64 c], .string v] w fun e w' => e = .returned (.bool true) ∧ Below w.heap.size w w' := by
  have A0 := fun W => refRight_calls ⟨p, q, u⟩ W
  have A1 := fun W => accept_calls ⟨p, q, u⟩ b v W
  have A2 := fun W => accept_calls ⟨p1, q1, u1⟩ b v W
  have A3 := fun W => promise_calls ⟨p1, q1, u1⟩ c W
  simp only [h0, SL.A] at A0
  simp only [h1, SLB, SL.A] at A1
  simp only [h2, SLB, SL.A] at A2
  simp only [h3, SLB, SL.A] at A3
  replace A0 := Lib.hid A0
  replace A1 := Lib.hid A1
  replace A2 := Lib.hid A2
  replace A3 := Lib.hid A3
  replace h4 := Lib.hid h4
  clear h0 h1 h2 h3
  go_enter Try.func3, Try.ntmps3
  go_wp2
  go_quiet (fail)
  have hs := ((Whole.new w 23 #[.int .i64 p, .int .i64 q, .string u]).alloc (.cells #[.int .i64 b, .int .i64 c] 24)).drewN nq
  have hB : Below w.heap.size w (((w.alloc (.cells #[.int .i64 p, .int .i64 q, .string u] 23)).alloc (.cells #[.int .i64 b, .int .i64 c] 24)).drewN nq) := below_drewN' (by go_grown) nq
  generalize ((w.alloc (.cells #[.int .i64 p, .int .i64 q, .string u] 23)).alloc (.cells #[.int .i64 b, .int .i64 c] 24)).drewN nq = w0 at *
  go_wp2_with fail
  refine (awake17_calls _).mono ?_
  rintro e w1 ⟨rfl, hb1⟩
  replace hs := hs.below hb1 hs.lt
  replace hB := below_next' hB hb1
  go_wp2_with (first | (first | ((with_reducible apply wl_loadW (ty := 23) hx Try.underlying23); rfl; rfl; rfl; kernel_rfl) | ((with_reducible apply wl_loadW (ty := 23) (hx.alloc _) Try.underlying23); rfl; rfl; rfl; kernel_rfl) | ((with_reducible apply wl_loadW (ty := 23) ((hx.alloc _).alloc _) Try.underlying23); rfl; rfl; rfl; kernel_rfl)) | (first | ((with_reducible apply wl_loadW (ty := 23) hs Try.underlying23); rfl; rfl; rfl; kernel_rfl) | ((with_reducible apply wl_loadW (ty := 23) (hs.alloc _) Try.underlying23); rfl; rfl; rfl; kernel_rfl) | ((with_reducible apply wl_loadW (ty := 23) ((hs.alloc _).alloc _) Try.underlying23); rfl; rfl; rfl; kernel_rfl)) | ((with_reducible refine (A0.out _).mono ?_); rintro e w2 ⟨rfl, hb2⟩; replace hs := Whole.below (by first | (with_reducible exact hs) | (with_reducible exact hs.alloc _) | (with_reducible exact (hs.alloc _).alloc _) | (with_reducible exact hs.drewN _)) hb2 (by have := hs.lt; go_size); replace hB := below_next' (by first | (with_reducible exact hB) | (with_reducible exact hB.alloc hB.size _) | (with_reducible exact (hB.alloc hB.size _).alloc (hB.alloc hB.size _).size _) | exact below_drewN' hB _) hb2) | ((with_reducible refine (A1.out _).mono ?_); clear A1; rintro e w3 ⟨rfl, hb3⟩; replace hs := Whole.below (by first | (with_reducible exact hs) | (with_reducible exact hs.alloc _) | (with_reducible exact (hs.alloc _).alloc _) | (with_reducible exact hs.drewN _)) hb3 (by have := hs.lt; go_size); replace hB := below_next' (by first | (with_reducible exact hB) | (with_reducible exact hB.alloc hB.size _) | (with_reducible exact (hB.alloc hB.size _).alloc (hB.alloc hB.size _).size _) | exact below_drewN' hB _) hb3) | ((with_reducible refine (A2.out _).mono ?_); rintro e w4 ⟨rfl, hb4⟩; have hx := (Whole.new w3 23 #[.int .i64 p1, .int .i64 q1, .string u1]).below hb4 (Whole.new w3 23 #[.int .i64 p1, .int .i64 q1, .string u1]).lt; replace hs := Whole.below (by first | (with_reducible exact hs) | (with_reducible exact hs.alloc _) | (with_reducible exact (hs.alloc _).alloc _) | (with_reducible exact hs.drewN _)) hb4 (by have := hs.lt; go_size); replace hB := below_next' (by first | (with_reducible exact hB) | (with_reducible exact hB.alloc hB.size _) | (with_reducible exact (hB.alloc hB.size _).alloc (hB.alloc hB.size _).size _) | exact below_drewN' hB _) hb4) | ((with_reducible refine (A3.out _).mono ?_); rintro e w5 ⟨rfl, hb5⟩; replace hs := Whole.below (by first | (with_reducible exact hs) | (with_reducible exact hs.alloc _) | (with_reducible exact (hs.alloc _).alloc _) | (with_reducible exact hs.drewN _)) hb5 (by have := hs.lt; go_size); replace hx := Whole.below (by first | (with_reducible exact hx) | (with_reducible exact hx.alloc _) | (with_reducible exact (hx.alloc _).alloc _) | (with_reducible exact hx.drewN _)) hb5 (by have := hx.lt; go_size); have cx := hx.cell; have lx := hx.lt; replace hB := below_next' (by first | (with_reducible exact hB) | (with_reducible exact hB.alloc hB.size _) | (with_reducible exact (hB.alloc hB.size _).alloc (hB.alloc hB.size _).size _) | exact below_drewN' hB _) hb5) | ((with_reducible refine (awake17_calls _).mono ?_); rintro e w6 ⟨rfl, hb6⟩; replace hB := below_next' (by first | (with_reducible exact hB) | (with_reducible exact hB.alloc hB.size _) | (with_reducible exact (hB.alloc hB.size _).alloc (hB.alloc hB.size _).size _) | exact below_drewN' hB _) hb6))
  all_goals go_returns
  all_goals go_light
  all_goals exact ⟨ret_bool (by simp [h4.out, *]), hB.alloc hB.size _⟩

set_option maxHeartbeats 1000000 in
set_option maxRecDepth 100000 in
theorem slotTwice_no (p q : Int) (u : ByteArray) (b c : Int) (v : ByteArray) (w : World) (h0 : SL.right ⟨p, q, u⟩ = true) (h1 : SL.accept ⟨p, q, u⟩ b v = (⟨p, q, u⟩, false))
    (p3 : Int) (ok3 : Bool) (h3 : SL.promise ⟨p, q, u⟩ c = (⟨p3, q, u⟩, ok3)) (h4 : ok3 = (decide (p < c) && decide (c ≤ 2147483647))) :
    Calls Try.prog 3 #[.agg #[.int .i64 p, .int .i64 q, .string u], .agg #[.int .i64 b, .int .i64 c], .string v] w fun e w' => e = .returned (.bool true) ∧ Below w.heap.size w w' := by
  have A0 := fun W => refRight_calls ⟨p, q, u⟩ W
  have A1 := fun W => accept_calls ⟨p, q, u⟩ b v W
  have A3 := fun W => promise_calls ⟨p, q, u⟩ c W
  simp only [h0, SL.A] at A0
  simp only [h1, SLB, SL.A] at A1
  simp only [h3, SLB, SL.A] at A3
  have A2 := A1
  replace A0 := Lib.hid A0
  replace A1 := Lib.hid A1
  replace A2 := Lib.hid A2
  replace A3 := Lib.hid A3
  replace h4 := Lib.hid h4
  clear h0 h1 h3
  go_enter Try.func3, Try.ntmps3
  go_wp2
  go_quiet (fail)
  have hs := ((Whole.new w 23 #[.int .i64 p, .int .i64 q, .string u]).alloc (.cells #[.int .i64 b, .int .i64 c] 24)).drewN nq
  have hB : Below w.heap.size w (((w.alloc (.cells #[.int .i64 p, .int .i64 q, .string u] 23)).alloc (.cells #[.int .i64 b, .int .i64 c] 24)).drewN nq) := below_drewN' (by go_grown) nq
  generalize ((w.alloc (.cells #[.int .i64 p, .int .i64 q, .string u] 23)).alloc (.cells #[.int .i64 b, .int .i64 c] 24)).drewN nq = w0 at *
  go_wp2_with fail
  refine (awake17_calls _).mono ?_
  rintro e w1 ⟨rfl, hb1⟩
  replace hs := hs.below hb1 hs.lt
  replace hB := below_next' hB hb1
  go_wp2_with (first | (first | ((with_reducible apply wl_loadW (ty := 23) hx Try.underlying23); rfl; rfl; rfl; kernel_rfl) | ((with_reducible apply wl_loadW (ty := 23) (hx.alloc _) Try.underlying23); rfl; rfl; rfl; kernel_rfl) | ((with_reducible apply wl_loadW (ty := 23) ((hx.alloc _).alloc _) Try.underlying23); rfl; rfl; rfl; kernel_rfl)) | (first | ((with_reducible apply wl_loadW (ty := 23) hs Try.underlying23); rfl; rfl; rfl; kernel_rfl) | ((with_reducible apply wl_loadW (ty := 23) (hs.alloc _) Try.underlying23); rfl; rfl; rfl; kernel_rfl) | ((with_reducible apply wl_loadW (ty := 23) ((hs.alloc _).alloc _) Try.underlying23); rfl; rfl; rfl; kernel_rfl)) | ((with_reducible refine (A0.out _).mono ?_); rintro e w2 ⟨rfl, hb2⟩; replace hs := Whole.below (by first | (with_reducible exact hs) | (with_reducible exact hs.alloc _) | (with_reducible exact (hs.alloc _).alloc _) | (with_reducible exact hs.drewN _)) hb2 (by have := hs.lt; go_size); replace hB := below_next' (by first | (with_reducible exact hB) | (with_reducible exact hB.alloc hB.size _) | (with_reducible exact (hB.alloc hB.size _).alloc (hB.alloc hB.size _).size _) | exact below_drewN' hB _) hb2) | ((with_reducible refine (A1.out _).mono ?_); clear A1; rintro e w3 ⟨rfl, hb3⟩; replace hs := Whole.below (by first | (with_reducible exact hs) | (with_reducible exact hs.alloc _) | (with_reducible exact (hs.alloc _).alloc _) | (with_reducible exact hs.drewN _)) hb3 (by have := hs.lt; go_size); replace hB := below_next' (by first | (with_reducible exact hB) | (with_reducible exact hB.alloc hB.size _) | (with_reducible exact (hB.alloc hB.size _).alloc (hB.alloc hB.size _).size _) | exact below_drewN' hB _) hb3) | ((with_reducible refine (A2.out _).mono ?_); rintro e w4 ⟨rfl, hb4⟩; have hx := (Whole.new w3 23 #[.int .i64 p, .int .i64 q, .string u]).below hb4 (Whole.new w3 23 #[.int .i64 p, .int .i64 q, .string u]).lt; replace hs := Whole.below (by first | (with_reducible exact hs) | (with_reducible exact hs.alloc _) | (with_reducible exact (hs.alloc _).alloc _) | (with_reducible exact hs.drewN _)) hb4 (by have := hs.lt; go_size); replace hB := below_next' (by first | (with_reducible exact hB) | (with_reducible exact hB.alloc hB.size _) | (with_reducible exact (hB.alloc hB.size _).alloc (hB.alloc hB.size _).size _) | exact below_drewN' hB _) hb4) | ((with_reducible refine (A3.out _).mono ?_); rintro e w5 ⟨rfl, hb5⟩; replace hs := Whole.below (by first | (with_reducible exact hs) | (with_reducible exact hs.alloc _) | (with_reducible exact (hs.alloc _).alloc _) | (with_reducible exact hs.drewN _)) hb5 (by have := hs.lt; go_size); replace hx := Whole.below (by first | (with_reducible exact hx) | (with_reducible exact hx.alloc _) | (with_reducible exact (hx.alloc _).alloc _) | (with_reducible exact hx.drewN _)) hb5 (by have := hx.lt; go_size); have cx := hx.cell; have lx := hx.lt; replace hB := below_next' (by first | (with_reducible exact hB) | (with_reducible exact hB.alloc hB.size _) | (with_reducible exact (hB.alloc hB.size _).alloc (hB.alloc hB.size _).size _) | exact below_drewN' hB _) hb5) | ((with_reducible refine (awake17_calls _).mono ?_); rintro e w6 ⟨rfl, hb6⟩; replace hB := below_next' (by first | (with_reducible exact hB) | (with_reducible exact hB.alloc hB.size _) | (with_reducible exact (hB.alloc hB.size _).alloc (hB.alloc hB.size _).size _) | exact below_drewN' hB _) hb6))
  all_goals go_returns
  all_goals go_light
  all_goals exact ⟨ret_bool (by simp [h4.out, *]), hB.alloc hB.size _⟩

theorem slotTwice_calls (s : SL) (b c : Int) (v : ByteArray) (w : World) :
    Calls Try.prog 3 #[.agg s.A, .agg #[.int .i64 b, .int .i64 c], .string v] w fun e w' => e = .returned (.bool true) ∧ Below w.heap.size w w' := by
  obtain ⟨p, q, u⟩ := s
  cases h0 : SL.right ⟨p, q, u⟩
  · exact slotTwice_not p q u b c v w h0
  · obtain ⟨⟨⟨p1, q1, u1⟩, ok⟩, h1⟩ : ∃ r, SL.accept ⟨p, q, u⟩ b v = r := ⟨_, rfl⟩
    obtain ⟨⟨⟨p2, q2, u2⟩, ok2⟩, h2⟩ : ∃ r, SL.accept ⟨p1, q1, u1⟩ b v = r := ⟨_, rfl⟩
    obtain ⟨⟨⟨p3, q3, u3⟩, ok3⟩, h3⟩ : ∃ r, SL.promise ⟨p1, q1, u1⟩ c = r := ⟨_, rfl⟩
    obtain ⟨f1, f2, f3, f4, f5⟩ := twice_facts h0 h1 h2 h3
    simp only at f3 f4 f5
    subst f3 f4
    cases ok
    · have := f2 rfl
      simp only [SL.mk.injEq] at this
      obtain ⟨rfl, rfl, rfl⟩ := this
      exact slotTwice_no _ _ _ b c v w h0 h1 p3 ok3 h3 f5
    · obtain ⟨rfl, this⟩ := f1 rfl
      simp only [SL.mk.injEq] at this
      obtain ⟨rfl, rfl, rfl⟩ := this
      exact slotTwice_yes _ _ _ _ _ _ b c v w h0 h1 h2 p3 ok3 h3 f5
end Go.Proofs.Ytdohmkanpdhmaaa
