/- The program's number: a number's bytes, the greatest first. Conditions: at most 8 bytes. -/
import Derived.Test.YtknjbkbbhgjnlaaShaR3
import Derived.Test.YtknjbkbbhgjnlaaToolA
namespace Go.Proofs.Ytknjbkbbhgjnlaa
open Go.RowKit
set_option linter.unusedVariables false
set_option linter.unusedSimpArgs false
def numB (n size : Nat) : List Nat := (List.range size).map fun k => n / 256 ^ (size - 1 - k) % 256
theorem numB_length (n size : Nat) : (numB n size).length = size := by simp [numB]
theorem numB_get (n size k : Nat) (hk : k < size) : (numB n size).getD k 0 = n / 256 ^ (size - 1 - k) % 256 := by
  unfold numB
  rw [List.getD_eq_getElem?_getD, List.getElem?_map, List.getElem?_range hk]
  rfl
/-- A row of which the first k are there, noughts behind them. -/
def fillL (l : List Nat) (k : Nat) : List Nat := l.take k ++ List.replicate (l.length - k) 0
theorem fillL_length (l : List Nat) (k : Nat) : (fillL l k).length = l.length := by simp [fillL]; omega
theorem fillL_set (l : List Nat) {k : Nat} (hk : k < l.length) : (fillL l k).set k (l.getD k 0) = fillL l (k + 1) := by
  obtain ⟨m, hm⟩ : ∃ m, l.length - k = m + 1 := ⟨l.length - k - 1, by omega⟩
  have hl : (l.take k).length = k := by simp; omega
  unfold fillL
  rw [hm, show l.length - (k + 1) = m by omega, List.replicate_succ, List.set_append_right _ _ (by omega), hl, Nat.sub_self, List.set_cons_zero, List.take_succ_eq_append_getElem hk, List.append_assoc]
  rw [List.getD_eq_getElem?_getD, List.getElem?_eq_getElem hk]
  rfl
theorem fillL_all (l : List Nat) : fillL l l.length = l := by simp [fillL]
theorem fillL_none (l : List Nat) : fillL l 0 = List.replicate l.length 0 := by simp [fillL]
theorem outB_nums (l : List Nat) : strOfNums (l.map fun (n : Nat) => (n : Int)) = outB l := by
  unfold strOfNums outB
  rw [List.map_map]
  rfl
theorem wordB_num (x : Nat) (hx : x < 4294967296) : wordB x = numB x 4 := by
  have : numB x 4 = [x / 256 ^ 3 % 256, x / 256 ^ 2 % 256, x / 256 ^ 1 % 256, x / 256 ^ 0 % 256] := rfl
  rw [this]
  unfold wordB
  rw [show (256 : Nat) ^ 3 = 16777216 by decide, show (256 : Nat) ^ 2 = 65536 by decide, show (256 : Nat) ^ 1 = 256 by decide, show (256 : Nat) ^ 0 = 1 by decide]
  simp only [List.cons.injEq, and_true]
  exact ⟨by omega, trivial, trivial, by omega⟩
theorem lenB_num (n : Nat) : lenB n 8 = numB n 8 := rfl
set_option maxHeartbeats 1000000 in
set_option maxRecDepth 100000 in
theorem number_calls (n size : Nat) (hn : n < 18446744073709551616) (hs : size ≤ 8) (w : World) :
    Calls Try.prog 102 #[.int .u64 n, .int .i64 size] w fun e w' => e = .returned (.string (outB (numB n size))) ∧ Below w.heap.size w w' := by
  have hmk : ∀ w : World, (Instr.makeSlice 46 (.int .i64 (size : Int)) (.int .i64 (size : Int))).run Try.prog w = .ok (.slice (some ⟨w.heap.size, 0, none⟩) size size) (w.alloc (.cells (Array.replicate size (.int .u8 0)) 5)) := fun w => run_make1 (b := 1) Try.underlying46 (by kernel_rfl) rfl size (by omega) (by omega) w
  have hl := numB_length n size
  have hget := numB_get n size
  have h8 : ∀ x ∈ numB n size, x < 256 := by
    intro x hx
    simp only [numB, List.mem_map] at hx
    obtain ⟨k, _, rfl⟩ := hx
    exact Nat.mod_lt _ (by decide)
  generalize numB n size = L at *
  have hB : Below w.heap.size w (w.alloc (.cells (Array.replicate size (.int .u8 0)) 5)) := by go_grown
  have h5 : Whole (w.alloc (.cells (Array.replicate size (.int .u8 0)) 5)) w.heap.size 5 (arr .u8 (fillL L 0)) := by
    have e : arr .u8 (fillL L 0) = Array.replicate size (.int .u8 0) := by
      rw [fillL_none, hl]
      simp [arr]
    rw [e]
    exact Whole.new _ _ _
  replace hget := Lib.hid hget
  go_enter Try.func102, Try.ntmps102
  go_upto_region 2 with (fail)
  clear hmk
  generalize hG : w.heap.size = G at *
  generalize w.alloc (.cells (Array.replicate size (.int .u8 0)) 5) = W1 at *
  have hg0 : W1.grownBy W1 (some G) := only_same _ _
  have hlt1 := h5.lt
  go_wp2_with (fail)
  go_loopg [11] (size + 1) (fun kg i wr => ∃ (k : Nat), k ≤ size ∧ kg = size + 1 - k ∧ i = .int .i64 k ∧ Whole wr G 5 (arr .u8 (fillL L k)) ∧ W1.grownBy wr (some G))
  case atStart => exact ⟨0, Nat.zero_le _, rfl, rfl, h5, hg0⟩
  case round =>
    clear h5 hg0
    obtain ⟨k, hk, hkg, rfl, h5, hg⟩ := hrel
    replace hkg := Lib.hid hkg
    by_cases hlt : k < size
    · have hst := fillL_set L (k := k) (by omega)
      rw [hget.out k hlt] at hst
      obtain ⟨d, hd⟩ : ∃ d, 8 * (size - 1 - k) = d := ⟨_, rfl⟩
      have hp : 256 ^ (size - 1 - k) = 2 ^ d := by rw [show (256 : Nat) = 2 ^ 8 by decide, ← Nat.pow_mul, hd]
      rw [hp] at hst
      obtain ⟨y, hy⟩ : ∃ y, n / 2 ^ d % 256 = y := ⟨_, rfl⟩
      rw [hy] at hst
      have w1 : IntKind.i64.wrap ((size : Int) - 1) = (size : Int) - 1 := by simp [IntKind.wrap, IntKind.signed, IntKind.bits]; omega
      have w2 : IntKind.i64.wrap ((size : Int) - 1 - k) = (size : Int) - 1 - k := by simp [IntKind.wrap, IntKind.signed, IntKind.bits]; omega
      have w3 : IntKind.i64.wrap (8 * ((size : Int) - 1 - k)) = (d : Int) := by simp [IntKind.wrap, IntKind.signed, IntKind.bits]; omega
      have w4 : IntKind.u8.wrap ((n : Int) / 2 ^ d) = (y : Int) := by
        have e : (n : Int) / 2 ^ d = ((n / 2 ^ d : Nat) : Int) := by simp
        rw [e]
        simp only [IntKind.wrap, IntKind.signed, IntKind.bits]
        simp
        omega
      have w5 : (n : Int) / 2 ^ d % 256 = (y : Int) := by
        have e : (n : Int) / 2 ^ d = ((n / 2 ^ d : Nat) : Int) := by simp
        rw [e]
        omega
      have w6 : min d 64 = d := by omega
      have e0 := arr_cell h5 (i := k) (by rw [fillL_length]; omega)
      have f0 := h5.frozen k
      have h5n := arr_put h5 k y
      have hgn := only_put hg (p := ⟨G, k, none⟩) (.inl rfl) (.int .u8 (y : Int))
      generalize (fillL L k).getD k 0 = old at e0
      replace hst := Lib.hid hst
      clear hp hd hy
      have q9 : ((k : Int) < size) = True := eq_true (by omega)
      go_wp2
      go_roundg (size - k)
      case measure => go_light; rw [hkg.out]; omega
      case rel => go_light; exact ⟨k + 1, by omega, by omega, by go_num, by rw [← hst.out]; exact h5n, hgn⟩
    · obtain rfl : k = size := by omega
      rw [show fillL L k = L by rw [← hl]; exact fillL_all L] at h5
      have hcv : (convert 46 9 (.slice (some ⟨G, 0, none⟩) k k)).run Try.prog wr = .ok (.string (strOfNums (L.map fun (n : Nat) => (n : Int)))) wr := by
        refine run_convert_bytes_arg _ _ 5 rfl rfl _ 0 k k (L.map fun (n : Nat) => (n : Int)) (by simp [hl]) (fun i hi => ?_) _ rfl
        rw [Nat.zero_add, arr_cell h5 (by omega)]
        simp [List.getD_eq_getElem?_getD, List.getElem?_eq_getElem (show i < L.length by omega)]
      rw [outB_nums] at hcv
      have hBn := below_only hB (by omega) hg (Nat.le_refl _)
      go_wp2
      go_returns
      go_light
      exact ⟨rfl, by rw [hG]; exact hBn⟩
end Go.Proofs.Ytknjbkbbhgjnlaa
