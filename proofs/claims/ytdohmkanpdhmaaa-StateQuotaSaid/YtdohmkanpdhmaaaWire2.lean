/- Contracts of package wire: the reader's numbers, texts, marks. No conditions. -/
import Derived.Test.YtdohmkanpdhmaaaWire1
import Derived.Test.YtdohmkanpdhmaaaBits
namespace Go.Proofs.Ytdohmkanpdhmaaa
open Go.RowKit
set_option linter.unusedVariables false
set_option linter.unusedSimpArgs false

set_option maxRecDepth 100000 in
theorem rnumber_calls (b : ByteArray) (bad : Bool) (g : Nat) (w : World) (hw : Whole w g 90 #[.string b, .bool bad]) :
    Calls Try.prog 47 #[.pointer (some ⟨g, 0, none⟩)] w fun e w' =>
      e = .returned (.int .i64 (numS b bad)) ∧ Whole w' g 90 #[.string (cutR b bad 4), .bool (numX b bad)] ∧ w.grownBy w' (some g) := by
  have kb := fun W s => Lib.run_convert_string_bytes (P := Try.prog) W 9 86 5 s Try.underlying9 Try.underlying86 Try.underlying5
  have hs4 : (cutS b bad 4).size ≤ 4 := cutS_le b bad 4
  have hn : numS b bad = beNum (cutS b bad 4).data.toList := rfl
  have hx : numX b bad = (cutX b bad 4 || decide (2147483647 < beNum (cutS b bad 4).data.toList)) := rfl
  generalize hs : cutS b bad 4 = s at hs4 hn hx
  have Hs := Lib.hid hs
  have Hn := Lib.hid hn
  have Hx := Lib.hid hx
  clear hs hn hx
  go_enter Try.func47, Try.ntmps47
  go_wp2_with (go_at_call 48; refine (cut_calls b bad 4 g _ hw).mono ?_; rintro e w' ⟨rfl, hw1, hg1⟩; rw [Hs.out])
  have hg := hw1.lt
  have hc := fun k h => Lib.bytesWorld_cell w' 5 s k h
  have hold := fun o => Lib.bytesWorld_old w' 5 s ⟨g, o, none⟩ hg
  have c1 := (hold 1).trans (hw1.cell 1)
  have f1 : (Lib.bytesWorld w' 5 s).frozen? ⟨g, 1, none⟩ = false := (World.frozen?_of_block (a := ⟨g, 1, none⟩) (Lib.bytesWorld_at_old w' 5 s g hg)).trans (hw1.frozen 1)
  have hb2 := Whole.bytes hw1 5 s
  have hg2 := only_then hg1 (only_bytes w' 5 s (some g))
  clear hold
  go_loop [3, 10] (fun n i => ∃ k : Nat, k ≤ s.size ∧ i = .int .i64 k ∧ n = .int .i64 (beNum (s.data.toList.take k))) (fun _ i => s.size - (intOf i).toNat)
  case atStart => exact ⟨0, Nat.zero_le _, rfl, rfl⟩
  case round =>
    obtain ⟨k, hk, rfl, rfl⟩ := hrel
    by_cases hlt : k < s.size
    · have hck := hc k hlt
      go_wp2
      go_light
      refine ⟨⟨k + 1, by omega, rfl, ?_⟩, by simp [intOf]; omega⟩
      refine congrArg _ ?_
      rw [or_byte _ _ (beNum_bound _).1 (beNum_small s k (by omega)), beNum_next s k hlt]; rfl
    · have hks : k = s.size := by omega
      have hall : s.data.toList.take s.size = s.data.toList := List.take_of_length_le (by simp)
      go_wp2
      all_goals go_returns
      all_goals go_light
      all_goals refine ⟨ret_int ?_, hb2.put' 1 _ ?_, only_put hg2 (.inl rfl) _⟩
      all_goals simp [Hn.out, Hx.out, *]
end Go.Proofs.Ytdohmkanpdhmaaa
