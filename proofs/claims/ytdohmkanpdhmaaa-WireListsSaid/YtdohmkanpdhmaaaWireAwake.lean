/- The laws' first question of package wire: a fixed list's bytes. No conditions. -/
import Derived.Test.YtdohmkanpdhmaaaWireList
namespace Go.Proofs.Ytdohmkanpdhmaaa
open Go.RowKit
set_option linter.unusedVariables false
set_option linter.unusedSimpArgs false
theorem awake_bytes : listB [⟨#[97]⟩] = ⟨#[76, 0, 0, 0, 1, 0, 0, 0, 1, 97]⟩ := by decide +kernel
set_option maxRecDepth 100000 in
theorem awake02_calls (w : World) : Calls Try.prog 24 #[] w fun e w' => e = .returned (.bool true) ∧ Below w.heap.size w w' := by
  have hb := Lib.hid awake_bytes
  go_enter Try.func24, Try.ntmps24
  go_wp2_with fail
  refine (list_calls (some ⟨w.heap.size, 0, none⟩) [⟨#[97]⟩] 1 _ ?_ (by decide +kernel)).mono ?_
  · refine ⟨by simp, fun _ => ⟨_, rfl, by simp, fun j x hj => ?_⟩⟩
    match j, hj with
    | 0, hj =>
      obtain rfl : (⟨#[97]⟩ : ByteArray) = x := by simpa using hj
      exact ⟨[.string ⟨#[97]⟩], rfl, fun i u hi => by
        match i, hi with
        | 0, hi =>
          obtain rfl : Value.string ⟨#[97]⟩ = u := by simpa using hi
          exact (Whole.new w 9 #[.string ⟨#[97]⟩]).cell 0⟩
  · rintro e w1 ⟨rfl, hb1⟩
    rw [hb.out]
    go_wp2
    go_returns
    exact ⟨rfl, below_next' (by go_grown) hb1⟩
end Go.Proofs.Ytdohmkanpdhmaaa
