/- The walk of the law WireNumbers. No conditions. -/
import Derived.Test.YtdohmkanpdhmaaaWireAwake
import Derived.WalkLawsBesides
namespace Go.Proofs.Ytdohmkanpdhmaaa
open Go.RowKit
set_option linter.unusedVariables false
set_option linter.unusedSimpArgs false
set_option maxRecDepth 100000 in
theorem wireNumbers_calls (a b : Int) (w : World) : Calls Try.prog 7 #[.int .i64 a, .int .i64 b] w fun e w' => e = .returned (.bool true) ∧ Below w.heap.size w w' := by
  have sa := numB_size a
  have sb := numB_size b
  obtain ⟨x, hx⟩ : ∃ x, numB a = x := ⟨_, rfl⟩
  obtain ⟨y, hy⟩ : ∃ x, numB b = x := ⟨_, rfl⟩
  have A1 := fun W => number_calls a W
  have A2 := fun W => number_calls b W
  rw [hx] at sa
  rw [hy] at sb
  simp only [hx] at A1
  simp only [hy] at A2
  replace A1 := Lib.hid A1
  replace A2 := Lib.hid A2
  replace hx := Lib.hid hx
  replace hy := Lib.hid hy
  go_enter Try.func7, Try.ntmps7
  go_wp2_with fail
  refine (A1.out _).mono ?_
  rintro e w1 ⟨rfl, hB⟩
  go_wp2_with fail
  refine (A2.out _).mono ?_
  rintro e w2 ⟨rfl, hb2⟩
  replace hB := below_next' (by first | (with_reducible exact hB) | (with_reducible exact hB.alloc hB.size _) | (with_reducible exact (hB.alloc hB.size _).alloc (hB.alloc hB.size _).size _) | exact below_drewN' hB _) hb2
  go_wp2_with fail
  refine (awake02_calls _).mono ?_
  rintro e w3 ⟨rfl, hb3⟩
  replace hB := below_next' (by first | (with_reducible exact hB) | (with_reducible exact hB.alloc hB.size _) | (with_reducible exact (hB.alloc hB.size _).alloc (hB.alloc hB.size _).size _) | exact below_drewN' hB _) hb3
  go_wp2
  all_goals go_returns
  all_goals go_light
  all_goals refine ⟨ret_bool ?_, hB⟩
  all_goals first
    | rfl
    | (have h1 := numB_less a b (by omega) (by omega) (by omega) (by omega)
       have h2 := numB_inj a b (by omega) (by omega) (by omega) (by omega)
       rw [hx.out, hy.out] at h1 h2
       simp_all)
end Go.Proofs.Ytdohmkanpdhmaaa
