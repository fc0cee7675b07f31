/- An own signature is verified; cells of small arrays. No conditions. -/
import Derived.Test.YteipcmbbonfklaaOtsPlain
namespace Go.Proofs.Yteipcmbbonfklaa
open Go.RowKit
set_option linter.unusedVariables false
set_option linter.unusedSimpArgs false
theorem two_str {W : World} {g : Nat} {T : TypeId} {x0 x1 : ByteArray} (h : Whole W g T #[.string x0, .string x1]) {n : Nat} (h0 : x0.size ≤ n) (h1 : x1.size ≤ n) {c : Nat} (hc : c < 2) : ∃ x : ByteArray, x.size ≤ n ∧ W.cell? ⟨g, c, none⟩ = some (.string x) := by
  match c, hc with
  | 0, _ => exact ⟨x0, h0, h.cell 0⟩
  | 1, _ => exact ⟨x1, h1, h.cell 1⟩
theorem two_u8 {W : World} {g : Nat} {T : TypeId} {x0 x1 : Nat} (h : Whole W g T #[.int .u8 x0, .int .u8 x1]) (h0 : x0 < 256) (h1 : x1 < 256) {c : Nat} (hc : c < 2) : ∃ x : Nat, x < 256 ∧ W.cell? ⟨g, c, none⟩ = some (.int .u8 x) := by
  match c, hc with
  | 0, _ => exact ⟨x0, h0, h.cell 0⟩
  | 1, _ => exact ⟨x1, h1, h.cell 1⟩
theorem verify_own (seed msg : ByteArray) (hm : msg.size ≤ 1073741824) (q : Nat) (hq : q < 8) (w : World) :
    Calls Try.prog 76 #[.agg (arr .u32 (K64 ++ H8.L)), .string (nodeN seed 3 0), .string msg, .string (sigN seed q msg)] w fun e w' => e = .returned (.tuple #[.int .i64 q, .bool true]) ∧ Below w.heap.size w w' := by
  have h := verify_ok (nodeN seed 3 0) msg (sigN seed q msg) hm (sigN_size _ _ _) q (sigN_num _ _ hq _) hq w
  rw [sig_holds seed q hq msg, if_pos rfl, decide_eq_true rfl] at h
  exact h
end Go.Proofs.Yteipcmbbonfklaa
