/- Contracts of package slot: a promise, an acceptance; the reference's right places. No conditions. -/
import Derived.Test.YtdohmkanpdhmaaaSlotSpec
namespace Go.Proofs.Ytdohmkanpdhmaaa
open Go.RowKit
set_option linter.unusedVariables false
set_option linter.unusedSimpArgs false

theorem is_calls (b : Int) (w : World) :
    Calls Try.prog 42 #[.int .i64 b] w fun e w' => e = .returned (.bool (balB b)) ∧ w = w' := by
  go_enter Try.func42, Try.ntmps42
  go_wp2
  all_goals go_returns
  all_goals go_light
  all_goals exact ⟨ret_bool (by simp [balB, *] <;> (intros; omega)), rfl⟩

theorem promise_calls (s : SL) (n : Int) (w : World) :
    Calls Try.prog 18 #[.agg s.A, .int .i64 n] w fun e w' => e = .returned (SLB (s.promise n)) ∧ Below w.heap.size w w' := by
  obtain ⟨p, b, v⟩ := s
  unfold SL.A
  go_enter Try.func18, Try.ntmps18
  go_wp2_with (go_at_call 42; refine (is_calls _ _).mono ?_; rintro e w' ⟨rfl, rfl⟩)
  all_goals go_returns
  all_goals go_light
  all_goals refine ⟨ret_val ?_, by go_grown⟩
  all_goals simp [SL.promise, SLB, SL.A, *]
  all_goals (try (rw [if_neg (by omega)]; simp [*]))

theorem accept_calls (s : SL) (n : Int) (u : ByteArray) (w : World) :
    Calls Try.prog 17 #[.agg s.A, .int .i64 n, .string u] w fun e w' => e = .returned (SLB (s.accept n u)) ∧ Below w.heap.size w w' := by
  obtain ⟨p, b, v⟩ := s
  unfold SL.A
  go_enter Try.func17, Try.ntmps17
  go_wp2_with (go_at_call 42; refine (is_calls _ _).mono ?_; rintro e w' ⟨rfl, rfl⟩)
  all_goals go_returns
  all_goals go_light
  all_goals refine ⟨ret_val ?_, by go_grown⟩
  all_goals simp [SL.accept, SLB, SL.A, *]
  all_goals (try (rw [if_neg (by omega)]; simp [*]))

theorem refRight_calls (s : SL) (w : World) :
    Calls Try.prog 16 #[.agg s.A] w fun e w' => e = .returned (.bool s.right) ∧ Below w.heap.size w w' := by
  obtain ⟨p, b, v⟩ := s
  unfold SL.A
  go_enter Try.func16, Try.ntmps16
  go_wp2
  all_goals go_returns
  all_goals go_light
  all_goals refine ⟨ret_bool ?_, by go_grown⟩
  all_goals (try simp only [nilL] at *)
  all_goals simp [SL.right, emptyL, *]
  all_goals (first | done | (intros; omega) | trace_state)

theorem awake17_calls (w : World) : Calls Try.prog 15 #[] w fun e w' => e = .returned (.bool true) ∧ Below w.heap.size w w' := by
  have h := fun W => promise_calls ⟨0, 0, ByteArray.empty⟩ 3 W
  have e : SLB (SL.promise ⟨0, 0, ByteArray.empty⟩ 3) = .tuple #[.agg #[.int .i64 3, .int .i64 0, .string ByteArray.empty], .bool true] := by
    simp [SLB, SL.promise, SL.A, balB]
  rw [e] at h
  go_enter Try.func15, Try.ntmps15
  go_wp2_with (go_at_call 18; refine (h _).mono ?_; rintro e w' ⟨rfl, hb⟩)
  all_goals go_returns
  all_goals go_light
  all_goals exact ⟨rfl, hb.alloc hb.size _⟩
end Go.Proofs.Ytdohmkanpdhmaaa
