/- The program's SHA-256 whole: sha.Sum. -/
import Derived.Test.YtknjbkbbhgjnlaaPSum
import Derived.Test.YtknjbkbbhgjnlaaPMake
namespace Go.Proofs.Ytknjbkbbhgjnlaa
open Go.RowKit
set_option linter.unusedVariables false
set_option linter.unusedSimpArgs false
set_option maxHeartbeats 1000000 in
set_option maxRecDepth 100000 in
theorem shaSum_calls (s : ByteArray) (hs : s.size ≤ 549755813888) (w : World) :
    Calls Try.prog 33 #[.agg (arr .u32 (K64 ++ H8.L)), .string s] w fun e w' => e = .returned (.string (shaN s)) ∧ Below w.heap.size w w' := by
  have NW := fun w => new_calls w
  have WR := fun (g : Nat) (w : World) (h : MsgAt w g ⟨#[]⟩) => write_calls ⟨#[]⟩ s g w h (by show 0 + s.size ≤ _; omega)
  have SM := fun (g : Nat) (w : World) (h : MsgAt w g s) => sumD_calls s g w h hs
  have e0 : (⟨#[]⟩ : ByteArray) ++ s = s := by apply ba_ext; rw [ba_append]; rfl
  rw [e0] at WR
  have hsz : (Try.prog.info? 29).map (·.size) = some (arr .u32 (K64 ++ H8.L)).size := by kernel_rfl
  generalize arr .u32 (K64 ++ H8.L) = tb at *
  have h1 := Whole.new w 29 tb
  have hB1 : Below w.heap.size w (w.alloc (.cells tb 29)) := by go_grown
  replace NW := Lib.hid NW
  replace WR := Lib.hid WR
  replace SM := Lib.hid SM
  go_enter Try.func33, Try.ntmps33
  go_wp2_with (first | ((with_reducible apply wl_loadW (ty := 29) h1 Try.underlying29); rfl; rfl; rfl; exact hsz) | ((with_reducible refine (NW.out _).mono ?_); rintro e w2 ⟨⟨g, rfl, hg, hm⟩, hb2⟩; replace hB1 := below_next' hB1 hb2) | ((with_reducible refine (WR.out g w2 hm).mono ?_); rintro e w3 ⟨rfl, hm3, hg3⟩; have hB3 := below_only' hB1 hg3 (by simp at hg; omega)) | ((with_reducible refine (SM.out g w3 hm3).mono ?_); rintro e w4 ⟨rfl, hb4⟩; have hB4 := below_next' hB3 hb4))
  go_returns
  go_light
  exact ⟨rfl, hB4⟩
end Go.Proofs.Ytknjbkbbhgjnlaa
