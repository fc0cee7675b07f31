/- What the program and the reference tell of any signature of layer 3; a row of bytes. Conditions: messages of at most 2^30 bytes. -/
import Derived.Test.YteipcmbbonfklaaOtsRefV
import Derived.Lib.ConvBytes
import Derived.Lib.AtoiErrMem
import Derived.Laws.BitsAllLaws
namespace Go.Proofs.Yteipcmbbonfklaa
open Go.RowKit
set_option linter.unusedVariables false
set_option linter.unusedSimpArgs false
theorem verdicts (pub msg s : ByteArray) (hm : msg.size ≤ 1073741824) : ∃ (k : Nat) (ok : Bool),
    (∀ w, Calls Try.prog 76 #[.agg (arr .u32 (K64 ++ H8.L)), .string pub, .string msg, .string s] w fun e w' => e = .returned (.tuple #[.int .i64 k, .bool ok]) ∧ Below w.heap.size w w') ∧
    (∀ w, Calls Try.prog 77 #[.string pub, .string msg, .string s] w fun e w' => e = .returned (.bool ok) ∧ Below w.heap.size w w') ∧
    (ok = true → s.size = 2244 ∧ (bytesN s).getD 3 0 = k ∧ k < 8) ∧ (ok = false → k = 0) := by
  by_cases hs : s.size = 2244
  · by_cases hq : beV (bytesN (s.extract 0 4)) < 8
    · refine ⟨_, _, fun w => verify_ok pub msg s hm hs _ rfl hq w, fun w => refVerify_ok pub msg s hm hs _ rfl hq w, fun h => ?_, fun h => ?_⟩
      · rw [if_pos (of_decide_eq_true h)]
        refine ⟨hs, ?_, hq⟩
        rw [first4 s hs] at hq ⊢
        omega
      · rw [if_neg (of_decide_eq_false h)]
    · exact ⟨0, false, fun w => verify_bad pub msg s (.inr (by omega)) w, fun w => refVerify_bad pub msg s (.inr (by omega)) w, by simp, fun _ => rfl⟩
  · exact ⟨0, false, fun w => verify_bad pub msg s (.inl hs) w, fun w => refVerify_bad pub msg s (.inl hs) w, by simp, fun _ => rfl⟩
theorem bytes_fresh (w : World) (e : TypeId) (s : ByteArray) (j : Nat) (hj : j < s.size) : (Lib.bytesWorld w e s).frozen? ⟨w.heap.size, j, none⟩ = false := by
  unfold World.frozen?
  rw [Lib.bytesWorld_at_new]
  have : s.size ≤ (Lib.bytesCells w e s).size := by unfold Lib.bytesCells; simp
  simp
  omega
set_option maxRecDepth 100000 in
theorem conv_row {W : World} {G cap n : Nat} {L : List Nat} (hl : L.length = n) (h : ∀ j, j < n → W.cell? ⟨G, j, none⟩ = some (.int .u8 ((L.getD j 0 : Nat) : Int))) :
    (convert 67 9 (.slice (some ⟨G, 0, none⟩) n cap)).run Try.prog W = .ok (.string (outB L)) W := by
  rw [← outB_nums]
  refine run_convert_bytes_arg _ _ 5 rfl rfl _ 0 n cap (L.map fun (n : Nat) => (n : Int)) (by simp [hl]) (fun j hj => ?_) _ rfl
  rw [Nat.zero_add, h j hj]
  simp [List.getD_eq_getElem?_getD, List.getElem?_eq_getElem (show j < L.length by omega)]
end Go.Proofs.Yteipcmbbonfklaa
