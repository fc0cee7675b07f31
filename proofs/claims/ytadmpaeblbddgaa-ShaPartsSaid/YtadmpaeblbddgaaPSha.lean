/- The program's SHA-256 whole: sha.Sum; and that the program is awake. -/
import Derived.Test.YtadmpaeblbddgaaPSum
import Derived.Test.YtadmpaeblbddgaaPMake
namespace Go.Proofs.Ytadmpaeblbddgaa
open Go.RowKit
set_option linter.unusedVariables false
set_option linter.unusedSimpArgs false
set_option maxHeartbeats 1000000 in
set_option maxRecDepth 100000 in
theorem awake01_calls (w : World) : Calls Try.prog 30 #[] w fun e w' => e = .returned (.bool true) ∧ Below w.heap.size w w' := by
  have M := fun w => make_calls w
  have hext : (arr .u32 (K64 ++ H8.L)).extract 0 64 = arr .u32 K64 := by kernel_rfl
  obtain ⟨iu, hiu⟩ : ∃ i, Try.prog.info? 47 = some i ∧ i.size = 1 := by
    obtain ⟨i, h1, _, h3, _⟩ := info_parts (P := Try.prog) (e := 47) (z := .int .u32 0) (size := 1) (bytes := 4) (by kernel_rfl)
    exact ⟨i, h1, h3⟩
  have hidx : ∀ w, (Instr.index 48 (.agg (arr .u32 K64)) (.int .i64 0)).run Try.prog w = .ok (.int .u32 1116352408) w := fun w =>
    run_index_arr (n := 64) (e := 47) Try.underlying48 Try.underlying47 rfl hiu.1 hiu.2 (arr .u32 K64) .i64 0 (by decide) _ (by kernel_rfl) w
  have hfld : ∀ w, (Instr.field 51 (.agg (arr .u32 (K64 ++ H8.L))) 0).run Try.prog w = .ok (.agg (arr .u32 K64)) w := fun w => by kernel_rfl
  generalize arr .u32 (K64 ++ H8.L) = tb at *
  generalize arr .u32 K64 = ka at *
  replace M := Lib.hid M
  go_enter Try.func30, Try.ntmps30
  go_wp2_with ((with_reducible refine (M.out _).mono ?_); rintro e w1 ⟨rfl, hB1⟩)
  go_returns
  go_light
  exact ⟨rfl, hB1⟩
set_option maxHeartbeats 1000000 in
set_option maxRecDepth 100000 in
theorem shaSum_calls (s : ByteArray) (hs : s.size ≤ 549755813888) (w : World) :
    Calls Try.prog 35 #[.agg (arr .u32 (K64 ++ H8.L)), .string s] w fun e w' => e = .returned (.string (shaN s)) ∧ Below w.heap.size w w' := by
  have NW := fun w => new_calls w
  have WR := fun (g : Nat) (w : World) (h : MsgAt w g ⟨#[]⟩) => write_calls ⟨#[]⟩ s g w h (by show 0 + s.size ≤ _; omega)
  have SM := fun (g : Nat) (w : World) (h : MsgAt w g s) => sumD_calls s g w h hs
  have e0 : (⟨#[]⟩ : ByteArray) ++ s = s := by apply ba_ext; rw [ba_append]; rfl
  rw [e0] at WR
  have hsz : (Try.prog.info? 51).map (·.size) = some (arr .u32 (K64 ++ H8.L)).size := by kernel_rfl
  generalize arr .u32 (K64 ++ H8.L) = tb at *
  have h1 := Whole.new w 51 tb
  have hB1 : Below w.heap.size w (w.alloc (.cells tb 51)) := by go_grown
  replace NW := Lib.hid NW
  replace WR := Lib.hid WR
  replace SM := Lib.hid SM
  go_enter Try.func35, Try.ntmps35
  go_wp2_with (first | ((with_reducible apply wl_loadW (ty := 51) h1 Try.underlying51); rfl; rfl; rfl; exact hsz) | ((with_reducible refine (NW.out _).mono ?_); rintro e w2 ⟨⟨g, rfl, hg, hm⟩, hb2⟩; replace hB1 := below_next' hB1 hb2) | ((with_reducible refine (WR.out g w2 hm).mono ?_); rintro e w3 ⟨rfl, hm3, hg3⟩; have hB3 := below_only' hB1 hg3 (by simp at hg; omega)) | ((with_reducible refine (SM.out g w3 hm3).mono ?_); rintro e w4 ⟨rfl, hb4⟩; have hB4 := below_next' hB3 hb4))
  go_returns
  go_light
  exact ⟨rfl, hB4⟩
end Go.Proofs.Ytadmpaeblbddgaa
