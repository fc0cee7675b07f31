/- Contracts of package wire: numbers, texts. No conditions. -/
import Derived.Test.YtdohmkanpdhmaaaWireSpec
namespace Go.Proofs.Ytdohmkanpdhmaaa
open Go.RowKit
set_option linter.unusedVariables false
set_option linter.unusedSimpArgs false

theorem conv4 (a b c d : Int) (W : World) (B : Nat) (hB : W.heap.size = B) : (convert 86 9 (.slice (some ⟨B, 0, none⟩) 4 4)).run Try.prog (W.alloc (.cells #[.int .u8 a, .int .u8 b, .int .u8 c, .int .u8 d] 5)) =
    .ok (.string (strOfNums [a, b, c, d])) (W.alloc (.cells #[.int .u8 a, .int .u8 b, .int .u8 c, .int .u8 d] 5)) := by
  subst hB
  refine run_convert_bytes_arg _ _ 5 rfl rfl _ 0 4 4 [a, b, c, d] rfl (fun i hi => ?_) _ rfl
  have hw := (Whole.new W 5 #[.int .u8 a, .int .u8 b, .int .u8 c, .int .u8 d]).cell
  rw [hw]
  match i, hi with
  | 0, _ => rfl
  | 1, _ => rfl
  | 2, _ => rfl
  | 3, _ => rfl

set_option maxRecDepth 100000 in
theorem number_calls (n : Int) (w : World) :
    Calls Try.prog 23 #[.int .i64 n] w fun e w' => e = .returned (.string (numB n)) ∧ Below w.heap.size w w' := by
  have h4 := fun a b c d W => conv4 a b c d W _ rfl
  go_enter Try.func23, Try.ntmps23
  go_wp2
  all_goals go_returns
  all_goals go_light
  all_goals refine ⟨ret_str ?_, by go_grown⟩
  all_goals (try clear h4)
  all_goals unfold numB
  · rw [if_pos (by omega)]; rfl
  · rw [if_neg (by omega)]
  · rw [if_pos (by omega)]; rfl

theorem text_calls (s : ByteArray) (w : World) (hs : s.size ≤ 9223372036854775803) :
    Calls Try.prog 45 #[.string s] w fun e w' => e = .returned (.string (textB s)) ∧ Below w.heap.size w w' := by
  have h4 : ∀ n, (numB n).size = 4 := fun n => by simp [numB, strOfNums_size]
  go_enter Try.func45, Try.ntmps45
  go_wp2_with (go_at_call 23; refine (number_calls _ _).mono ?_; rintro e w' ⟨rfl, hb⟩)
  all_goals go_returns
  all_goals go_light
  all_goals exact ⟨rfl, hb⟩


theorem cut_calls (b : ByteArray) (bad : Bool) (n : Int) (g : Nat) (w : World) (hw : Whole w g 90 #[.string b, .bool bad]) :
    Calls Try.prog 48 #[.pointer (some ⟨g, 0, none⟩), .int .i64 n] w fun e w' =>
      e = .returned (.string (cutS b bad n)) ∧ Whole w' g 90 #[.string (cutR b bad n), .bool (cutX b bad n)] ∧ w.grownBy w' (some g) := by
  have hc := hw.cell
  have hf := hw.frozen
  have c0 := hc 0
  have c1 := hc 1
  have f0 := hf 0
  have f1 := hf 1
  clear hc hf
  cases bad
  · by_cases h : 0 ≤ n ∧ n ≤ b.size
    · obtain ⟨h0, h1⟩ := h
      have hp := hw.put 0 (.string (b.extract n.toNat b.size))
      go_enter Try.func48, Try.ntmps48
      go_wp2
      go_returns
      go_light
      refine ⟨ret_str ?_, ?_, only_put (only_same _ _) (.inl rfl) _⟩
      · exact (if_neg (by simp; omega)).symm
      · unfold cutR cutX; rw [if_neg (by simp; omega), if_neg (by simp; omega)]; exact hp
    · have hp := hw.put 1 (.bool true)
      have hd : (decide (n < 0) || decide ((b.size : Int) < n)) = true := by simp; omega
      go_enter Try.func48, Try.ntmps48
      go_wp2
      all_goals go_returns
      all_goals go_light
      all_goals refine ⟨ret_str ?_, ?_, only_put (only_same _ _) (.inl rfl) _⟩
      all_goals first | exact (if_pos (by omega)).symm | (unfold cutR cutX; rw [if_pos (by omega), if_pos (by omega)]; exact hp)
  · have hp := hw.put 1 (.bool true)
    go_enter Try.func48, Try.ntmps48
    go_wp2
    all_goals go_returns
    all_goals go_light
    all_goals refine ⟨ret_str ?_, ?_, only_put (only_same _ _) (.inl rfl) _⟩
    all_goals first | exact (if_pos (by simp)).symm | (unfold cutR cutX; rw [if_pos (by simp), if_pos (by simp)]; exact hp)


end Go.Proofs.Ytdohmkanpdhmaaa
