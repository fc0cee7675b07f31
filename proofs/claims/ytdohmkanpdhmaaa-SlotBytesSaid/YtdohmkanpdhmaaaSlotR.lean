/- Contracts of package slot: numbers read, what may be a place, a place's bytes. No conditions. -/
import Derived.Test.YtdohmkanpdhmaaaSlot1
import Derived.Test.YtdohmkanpdhmaaaWireS
import Derived.Test.YtdohmkanpdhmaaaWireLPlain
import Derived.Test.YtdohmkanpdhmaaaBits
namespace Go.Proofs.Ytdohmkanpdhmaaa
open Go.RowKit
set_option linter.unusedVariables false
set_option linter.unusedSimpArgs false
/-- A number's; -1 of none. -/
def num4 (s : ByteArray) : Int := if s.size = 4 then beNum s.data.toList else -1
def SL.L (s : SL) : List ByteArray := [numB s.p, numB s.b, s.v]
def SL.zero : SL := ⟨0, 0, ByteArray.empty⟩
def slotOf (l : List ByteArray) : SL × Int := match l with
  | [x, y, v] => if (⟨num4 x, num4 y, v⟩ : SL).right then (⟨num4 x, num4 y, v⟩, 0) else (SL.zero, 2)
  | _ => (SL.zero, 2)
def readSlot (b : ByteArray) : SL × Int := if (readList b).2 = 0 then slotOf (readList b).1 else (SL.zero, 2)
set_option maxRecDepth 100000 in
theorem snumber_calls (s : ByteArray) (w : World) :
    Calls Try.prog 51 #[.string s] w fun e w' => e = .returned (.int .i64 (num4 s)) ∧ Below w.heap.size w w' := by
  have kb := fun W s => Lib.run_convert_string_bytes (P := Try.prog) W 9 86 5 s Try.underlying9 Try.underlying86 Try.underlying5
  by_cases h4 : s.size = 4
  · have hn : num4 s = beNum s.data.toList := if_pos h4
    rw [hn]
    clear hn
    have h4' : (s.size : Int) = 4 := by omega
    replace h4 := Lib.hid h4
    go_enter Try.func51, Try.ntmps51
    go_wp2
    have hc := fun k h => Lib.bytesWorld_cell w 5 s k h
    have hB := below_only' (Below.refl w.heap.size w) (only_bytes w 5 s (some w.heap.size)) (Nat.le_refl _)
    go_loop [3, 12] (fun n i => ∃ k : Nat, k ≤ s.size ∧ i = .int .i64 k ∧ n = .int .i64 (beNum (s.data.toList.take k))) (fun _ i => s.size - (intOf i).toNat)
    case atStart => exact ⟨0, Nat.zero_le _, rfl, rfl⟩
    case round =>
      obtain ⟨k, hk, rfl, rfl⟩ := hrel
      by_cases hlt : k < s.size
      · have hck := hc k hlt
        go_wp2
        go_light
        refine ⟨⟨k + 1, by omega, rfl, ?_⟩, by simp [intOf]; omega⟩
        refine congrArg _ ?_
        rw [or_byte _ _ (beNum_bound _).1 (beNum_small s k (by omega)), beNum_next s k hlt]; rfl
      · have hks : k = s.size := by omega
        have hall : s.data.toList.take s.size = s.data.toList := List.take_of_length_le (by simp)
        go_wp2
        all_goals go_returns
        all_goals go_light
        all_goals refine ⟨ret_int ?_, hB⟩
        all_goals simp [*]
  · have hn : num4 s = -1 := if_neg h4
    rw [hn]
    have h5 : ¬ ((s.size : Int) = 4) := by omega
    clear hn
    replace h4 := Lib.hid h4
    go_enter Try.func51, Try.ntmps51
    go_wp2

    all_goals go_returns
    all_goals exact ⟨rfl, Below.refl _ _⟩
end Go.Proofs.Ytdohmkanpdhmaaa
