/- Numbers' and texts' bytes, the program's and the reference's. Conditions: texts shorter than 2^63 - 4. -/
import Derived.Test.YteipcmbbonfklaaOtsSpec
namespace Go.Proofs.Yteipcmbbonfklaa
open Go.RowKit
set_option linter.unusedVariables false
set_option linter.unusedSimpArgs false
set_option maxRecDepth 100000 in
theorem conv4 (a b c d : Int) (W : World) (B : Nat) (hB : W.heap.size = B) : (convert 67 9 (.slice (some ⟨B, 0, none⟩) 4 4)).run Try.prog (W.alloc (.cells #[.int .u8 a, .int .u8 b, .int .u8 c, .int .u8 d] 5)) =
    .ok (.string (strOfNums [a, b, c, d])) (W.alloc (.cells #[.int .u8 a, .int .u8 b, .int .u8 c, .int .u8 d] 5)) := by
  subst hB
  refine run_convert_bytes_arg _ _ 5 rfl rfl _ 0 4 4 [a, b, c, d] rfl (fun i hi => ?_) _ rfl
  have hw := (Whole.new W 5 #[.int .u8 a, .int .u8 b, .int .u8 c, .int .u8 d]).cell
  rw [hw]
  match i, hi with
  | 0, _ => rfl
  | 1, _ => rfl
  | 2, _ => rfl
  | 3, _ => rfl
set_option maxRecDepth 100000 in
theorem wnum_calls (n : Int) (w : World) :
    Calls Try.prog 79 #[.int .i64 n] w fun e w' => e = .returned (.string (numW n)) ∧ Below w.heap.size w w' := by
  have h4 := fun a b c d W => conv4 a b c d W _ rfl
  go_enter Try.func79, Try.ntmps79
  go_wp2
  all_goals go_returns
  all_goals go_light
  all_goals refine ⟨ret_str ?_, by go_grown⟩
  all_goals (try clear h4)
  all_goals unfold numW
  · rw [if_pos (by omega)]; rfl
  · rw [if_neg (by omega)]
  · rw [if_pos (by omega)]; rfl
set_option maxRecDepth 100000 in
theorem rnum_calls (n : Int) (w : World) :
    Calls Try.prog 81 #[.int .i64 n] w fun e w' => e = .returned (.string (numW n)) ∧ Below w.heap.size w w' := by
  have h4 := fun a b c d W => conv4 a b c d W _ rfl
  go_enter Try.func81, Try.ntmps81
  go_wp2
  all_goals go_returns
  all_goals go_light
  all_goals refine ⟨ret_str ?_, by go_grown⟩
  all_goals (try clear h4)
  all_goals unfold numW
  · rw [if_pos (by omega)]; rfl
  · rw [if_neg (by omega)]
  · rw [if_pos (by omega)]; rfl
theorem wtext_calls (s : ByteArray) (w : World) (hs : s.size ≤ 9223372036854775803) :
    Calls Try.prog 78 #[.string s] w fun e w' => e = .returned (.string (textW s)) ∧ Below w.heap.size w w' := by
  have h4 : ∀ n, (numW n).size = 4 := fun n => by simp [numW, strOfNums_size]
  go_enter Try.func78, Try.ntmps78
  go_wp2_with (go_at_call 79; refine (wnum_calls _ _).mono ?_; rintro e w' ⟨rfl, hb⟩)
  all_goals go_returns
  all_goals go_light
  all_goals exact ⟨rfl, hb⟩
theorem rtext_calls (s : ByteArray) (w : World) (hs : s.size ≤ 9223372036854775803) :
    Calls Try.prog 80 #[.string s] w fun e w' => e = .returned (.string (textW s)) ∧ Below w.heap.size w w' := by
  have h4 : ∀ n, (numW n).size = 4 := fun n => by simp [numW, strOfNums_size]
  go_enter Try.func80, Try.ntmps80
  go_wp2_with (go_at_call 81; refine (rnum_calls _ _).mono ?_; rintro e w' ⟨rfl, hb⟩)
  all_goals go_returns
  all_goals go_light
  all_goals exact ⟨rfl, hb⟩
end Go.Proofs.Yteipcmbbonfklaa
