/- The law's awake of layer 11. No conditions. -/
import Derived.Test.YtknjbkbbhgjnlaaState5
namespace Go.Proofs.Ytknjbkbbhgjnlaa
open Go.RowKit
set_option linter.unusedVariables false
set_option linter.unusedSimpArgs false
def AppAt (w w' : World) (e : Ending) (s : ST) (x : Array Value) (hv : Value) : Prop := ∃ A cap, e = .returned (.tuple #[.agg (s.A (.slice A s.l.length cap) hv), .agg x]) ∧ RowAt w' (.slice A s.l.length cap) s.l ∧ Below w.heap.size w w'
set_option maxHeartbeats 400000 in
set_option maxRecDepth 100000 in
theorem awake11_calls (w : World) : Calls Try.prog 34 #[] w fun e w' => e = .returned (.bool true) ∧ Below w.heap.size w w' := by
  obtain ⟨s2, hs2⟩ : ∃ s2, ST.zero.ap 0 ⟨0, 1, ⟨#[97]⟩, ⟨#[]⟩, ⟨#[]⟩⟩ = (s2, ⟨0, 0, 1⟩) := by
    refine ⟨ST.zero.put 0 ⟨1, 1, 0, 0, 1⟩ [⟨0, 1, ⟨#[97]⟩, ⟨#[]⟩, ⟨#[]⟩⟩], ?_⟩
    unfold ST.ap
    rw [if_neg (by decide), if_neg (by decide), if_neg (by decide), if_neg (by decide), if_neg (by decide)]
    rfl
  have P : Calls Try.prog 38 #[.agg #[.slice none 0 0, .int .i64 0, .int .i64 0, .int .i64 0, .int .i64 0, .int .i64 0, .int .i64 0, .int .i64 0, .int .i64 0, .int .i64 0, .int .i64 0, .int .i64 0, .int .i64 0, .int .i64 0, .int .i64 0, .int .i64 0, .int .i64 0, .int .i64 0, .int .i64 0, .int .i64 0, .int .i64 0, .slice none 0 0], .agg #[.int .i64 0, .int .i64 1, .string ⟨#[97]⟩, .string ⟨#[]⟩, .string ⟨#[]⟩]] w fun e w' => AppAt w w' e s2 #[.int .i64 0, .int .i64 0, .int .i64 1] (.slice none 0 0) := by
    have := apply_calls w ST.zero ⟨0, 1, ⟨#[97]⟩, ⟨#[]⟩, ⟨#[]⟩⟩ none none 0 0 0 (RowAt.nil w) (by decide) (by decide)
    rw [hs2] at this
    exact this
  replace P := Lib.hid P
  clear hs2
  have hB : Below w.heap.size w w := Below.refl _ _
  go_enter Try.func34, Try.ntmps34
  go_wp2_with (first | ((with_reducible refine P.out.mono ?_); rintro e w2 ⟨A, cap, rfl, hrow, hb⟩; have h1 := (Whole.new w2 75 #[.slice none 0 0, .int .i64 0, .int .i64 0, .int .i64 0, .int .i64 0, .int .i64 0, .int .i64 0, .int .i64 0, .int .i64 0, .int .i64 0, .int .i64 0, .int .i64 0, .int .i64 0, .int .i64 0, .int .i64 0, .int .i64 0, .int .i64 0, .int .i64 0, .int .i64 0, .int .i64 0, .int .i64 0, .slice none 0 0]).alloc (.cells #[.int .i64 0, .int .i64 0, .int .i64 0] 69); have h2 := Whole.new1 w2 (.cells #[.slice none 0 0, .int .i64 0, .int .i64 0, .int .i64 0, .int .i64 0, .int .i64 0, .int .i64 0, .int .i64 0, .int .i64 0, .int .i64 0, .int .i64 0, .int .i64 0, .int .i64 0, .int .i64 0, .int .i64 0, .int .i64 0, .int .i64 0, .int .i64 0, .int .i64 0, .int .i64 0, .int .i64 0, .slice none 0 0] 75) 69 #[.int .i64 0, .int .i64 0, .int .i64 0]; replace hB := (hb.alloc hb.size (.cells #[.slice none 0 0, .int .i64 0, .int .i64 0, .int .i64 0, .int .i64 0, .int .i64 0, .int .i64 0, .int .i64 0, .int .i64 0, .int .i64 0, .int .i64 0, .int .i64 0, .int .i64 0, .int .i64 0, .int .i64 0, .int .i64 0, .int .i64 0, .int .i64 0, .int .i64 0, .int .i64 0, .int .i64 0, .slice none 0 0] 75)).alloc (hb.alloc hb.size (.cells #[.slice none 0 0, .int .i64 0, .int .i64 0, .int .i64 0, .int .i64 0, .int .i64 0, .int .i64 0, .int .i64 0, .int .i64 0, .int .i64 0, .int .i64 0, .int .i64 0, .int .i64 0, .int .i64 0, .int .i64 0, .int .i64 0, .int .i64 0, .int .i64 0, .int .i64 0, .int .i64 0, .int .i64 0, .slice none 0 0] 75)).size (.cells #[.int .i64 0, .int .i64 0, .int .i64 0] 69); have hsz := hb.size) | (((with_reducible apply wl_storeW (ty := 75) h1); rfl; rfl; rfl; kernel_rfl; rfl; rfl; intro w5 hs5 hg5 hz5); have j2 := h2.only hg5 (by simp)) | ((with_reducible apply wl_storeW (ty := 69) j2); rfl; rfl; rfl; kernel_rfl; rfl; rfl; intro w6 hs6 hg6 hz6) | (first | ((with_reducible apply wl_loadW (ty := 69) hs6 Try.underlying69); rfl; rfl; rfl; kernel_rfl) | ((with_reducible apply wl_loadW (ty := 69) (hs6.alloc _) Try.underlying69); rfl; rfl; rfl; kernel_rfl) | ((with_reducible apply wl_loadW (ty := 69) ((hs6.alloc _).alloc _) Try.underlying69); rfl; rfl; rfl; kernel_rfl)))
  go_returns
  exact ⟨rfl, below_only' (below_only' hB hg5 (by omega)) hg6 (by omega)⟩
end Go.Proofs.Ytknjbkbbhgjnlaa
