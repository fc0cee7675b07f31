/- The law ShaSums, walked. No conditions. -/
import Derived.Test.YtadmpaeblbddgaaPSha
namespace Go.Proofs.Ytadmpaeblbddgaa
open Go.RowKit
set_option linter.unusedVariables false
set_option linter.unusedSimpArgs false
set_option maxHeartbeats 1000000 in
set_option maxRecDepth 100000 in
theorem shaSums_calls (s : ByteArray) (w : World) : Calls Try.prog 11 #[.string s] w fun e w' => e = .returned (.bool true) ∧ Below w.heap.size w w' := by
  have AW := fun w => awake01_calls w
  have M := fun w => make_calls w
  replace AW := Lib.hid AW
  by_cases hs : s.size ≤ 2000
  · have q : ((2000 : Int) < s.size) = False := eq_false (by omega)
    have SS := fun w => shaSum_calls s (by omega) w
    have RS := fun w => sum01_calls s (by omega) w
    generalize shaN s = H at *
    generalize arr .u32 (K64 ++ H8.L) = tb at *
    replace M := Lib.hid M
    replace SS := Lib.hid SS
    replace RS := Lib.hid RS
    go_enter Try.func11, Try.ntmps11
    go_wp2_with (first | ((with_reducible refine (AW.out _).mono ?_); rintro e w1 ⟨rfl, hB1⟩) | ((with_reducible refine (M.out _).mono ?_); rintro e w2 ⟨rfl, hb2⟩; replace hB1 := below_next' hB1 hb2) | ((with_reducible refine (SS.out _).mono ?_); rintro e w3 ⟨rfl, hb3⟩; replace hB1 := below_next' hB1 hb3) | ((with_reducible refine (RS.out _).mono ?_); rintro e w4 ⟨rfl, hb4⟩; replace hB1 := below_next' hB1 hb4))
    go_returns
    go_light
    exact ⟨by first | rfl | simp, hB1⟩
  · have q : ((2000 : Int) < s.size) = True := eq_true (by omega)
    go_enter Try.func11, Try.ntmps11
    go_upto_region 2 with ((with_reducible refine (AW.out _).mono ?_); rintro e w1 ⟨rfl, hB1⟩)
    go_wp2_with ((with_reducible refine (AW.out _).mono ?_); rintro e w2 ⟨rfl, hb2⟩; replace hB1 := below_next' hB1 hb2)
    go_returns
    go_light
    exact ⟨rfl, hB1⟩
end Go.Proofs.Ytadmpaeblbddgaa
