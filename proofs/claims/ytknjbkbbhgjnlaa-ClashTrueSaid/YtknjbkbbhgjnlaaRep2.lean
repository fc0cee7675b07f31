/- strings.Repeat of one nought byte, at most 63 times. -/
import Derived.Test.YtknjbkbbhgjnlaaRepeat
namespace Go.Proofs.Ytknjbkbbhgjnlaa
open Go.RowKit
set_option linter.unusedVariables false
set_option linter.unusedSimpArgs false
theorem run_min3 {P : Program} {w : World} (ts : Array TypeId) (t : TypeId) (x y z : Int) :
    (Builtin.min_ ts t #[.int .i64 x, .int .i64 y, .int .i64 z]).run P w = .ok (.int .i64 (if z < (if y < x then y else x) then z else (if y < x then y else x))) w := by
  simp [Builtin.min_, Builtin.min2]
def zs (q : Nat) : List UInt8 := List.replicate q 0
theorem zs_add (a b : Nat) : zs a ++ zs b = zs (a + b) := by simp [zs]
theorem zs_len (a : Nat) : (zs a).length = a := by simp [zs]
set_option maxHeartbeats 1600000 in
set_option maxRecDepth 1000000 in
theorem repeat_main (c : Nat) (w : World) (hc2 : 2 ≤ c) (hc : c ≤ 63) :
    Calls Try.prog 101 #[.string ⟨#[0]⟩, .int .i64 c] w fun e w' => e = .returned (.string ⟨(zs c).toArray⟩) ∧ Below w.heap.size w w' := by
  have hMul : Calls Try.prog 122 #[.int .u64 1, .int .u64 c] w fun e w' => e = .returned (.tuple #[.int .u64 0, .int .u64 c]) ∧ w' = w := by
    have := mulU_calls 1 c (by decide) (by omega) w
    rw [Nat.one_mul, Nat.div_eq_of_lt (by omega : c < 18446744073709551616), Nat.mod_eq_of_lt (by omega : c < 18446744073709551616)] at this
    exact this
  have hsz : (⟨#[0]⟩ : ByteArray).size = 1 := rfl
  have hidx : ∀ w, (Instr.index 9 (.string ⟨#[0]⟩) (.int .i64 0)).run Try.prog w = .ok (.int .u8 0) w := fun w => by
    rw [run_index_string _ _ _ _ _ Try.underlying9]
    rfl
  have k1 : ((c : Int) == 0) = false := by rw [beq_eq_false_iff_ne]; omega
  have k2 : ((c : Int) == 1) = false := by rw [beq_eq_false_iff_ne]; omega
  have k3 : ((c : Int) < 0) = False := eq_false (by omega)
  have k4 : (8192 < (c : Int)) = False := eq_false (by omega)
  have k5 : (9223372036854775807 < (c : Int)) = False := eq_false (by omega)
  have kw : IntKind.u64.wrap (c : Int) = c := by simp [IntKind.wrap, IntKind.signed, IntKind.bits]; omega
  have kw2 : IntKind.i64.wrap (c : Int) = c := by simp [IntKind.wrap, IntKind.signed, IntKind.bits]; omega
  go_enter Try.func101, Try.ntmps101
  go_upto_region 36 with ((with_reducible refine hMul.mono ?_); rintro e w' ⟨rfl, hw⟩; rw [hw])
  clear hMul hidx k1 k2 k3 k4 k5 kw kw2
  have b0 : Below w.heap.size w (w.alloc (.cells #[.pointer none, .slice none 0 0] 181)) := (Below.refl _ w).alloc (Nat.le_refl _) _
  have cG := GrowFresh_calls w.heap.size w.heap.size c (w.alloc (.cells #[.pointer none, .slice none 0 0] 181)) (Nat.le_refl _) (heap_alloc_new w _) b0.size (by omega)
  go_upto_region 37 with ((with_reducible refine cG.mono ?_); rintro e W1 ⟨rfl, h1, b1⟩)
  clear cG
  have cW := writeStringF_calls w.heap.size w.heap.size [] ⟨#[0]⟩ W1 (Lib.IsBuilderF.of (Or.inr h1)) (by simp [hsz]) (Nat.le_trans b0.size b1.size)
  go_wp2_with ((with_reducible refine cW.mono ?_); rintro e W2 ⟨rfl, h2, b2⟩)
  clear cW h1
  have h2' : Lib.IsBuilderF 181 5 w.heap.size w.heap.size (Lib.byteCells (zs 1)) W2 := by
    rw [List.nil_append, Lib.strCells_eq] at h2
    exact Or.inr h2
  have b02 : Below w.heap.size w W2 := b0.trans (b1.trans b2)
  clear h2 b0 b1 b2
  go_loopg [] (c - 1) (fun g wx => ∃ q : Nat, 1 ≤ q ∧ q + g = c ∧ Lib.IsBuilderF 181 5 w.heap.size w.heap.size (Lib.byteCells (zs q)) wx ∧ Below w.heap.size w wx)
  case atStart => exact ⟨1, Nat.le_refl _, by omega, h2', b02⟩
  case round =>
    obtain ⟨q, hq1, hqg, hB, hbx⟩ := hrel
    have hlq : (Lib.byteCells (zs q)).length = q := by rw [Lib.byteCells_length, zs_len]
    have cLen := lenF_calls w.heap.size w.heap.size _ wr hB
    rw [hlq] at cLen
    have hne : zs q ≠ [] := by intro h; have := zs_len q; rw [h] at this; simp at this; omega
    have cStr := stringF_calls w.heap.size w.heap.size (zs q) wr hB hne
    obtain ⟨S, hS⟩ : ∃ S : ByteArray, (⟨(zs q).toArray⟩ : ByteArray) = S := ⟨_, rfl⟩
    have hSd : S.data.toList = zs q := by rw [← hS]
    have hSz : S.size = q := by rw [Lib.size_eq, hSd, zs_len]
    rw [hS] at cStr
    cases gk with
    | zero =>
      obtain rfl : q = c := by omega
      have hQn : ((q : Int) < (q : Int)) = False := eq_false (by omega)
      replace hS := Lib.hid hS
      go_wp2_with (first | ((with_reducible refine cLen.mono ?_); rintro e w' ⟨rfl, hw⟩; rw [hw]) | ((with_reducible refine cStr.mono ?_); rintro e W3 ⟨rfl, h3, b3⟩))
      go_ret
      exact ⟨by rw [hS.out] <;> rfl, hbx.trans b3⟩
    | succ g =>
      have hqc : q < c := by omega
      have hQn : ((q : Int) < (c : Int)) = True := eq_true (by omega)
      obtain ⟨CH, hCH⟩ : ∃ CH, min (c - q) q = CH := ⟨_, rfl⟩
      have hch : CH ≤ q ∧ 1 ≤ CH ∧ q + CH ≤ c := by omega
      have hsub : IntKind.i64.wrap ((c : Int) - q) = (c : Int) - q := by simp [IntKind.wrap, IntKind.signed, IntKind.bits]; omega
      have hmin3 : ∀ (ts : Array TypeId) (t : TypeId) (W : World), (Builtin.min_ ts t #[.int .i64 ((c : Int) - (q : Int)), .int .i64 (q : Int), .int .i64 (c : Int)]).run Try.prog W = .ok (.int .i64 (CH : Int)) W := fun ts t W => by
        rw [run_min3]
        have : (if (c : Int) < (if (q : Int) < (c : Int) - q then (q : Int) else (c : Int) - q) then (c : Int) else (if (q : Int) < (c : Int) - q then (q : Int) else (c : Int) - q)) = (CH : Int) := by
          split <;> split <;> omega
        rw [this]
      have hle : ((CH : Int) ≤ S.size) = True := eq_true (by omega)
      have hle2 : ((CH : Int) ≤ q) = True := eq_true (by omega)
      clear hCH
      replace hS := Lib.hid hS
      replace hSd := Lib.hid hSd
      go_upto_region 40 with ((with_reducible refine cLen.mono ?_); rintro e w' ⟨rfl, hw⟩; rw [hw])
      go_wp2_with (first | ((with_reducible refine cStr.mono ?_); rintro e W3 ⟨rfl, h3, b3⟩; have cWr := writeStringF_calls w.heap.size w.heap.size _ (S.extract 0 CH) W3 h3 (by rw [hlq, Lib.size_eq, Lib.extract_data, hSd.out]; simp only [List.drop_zero, Nat.sub_zero, List.length_take, zs_len]; omega) (Nat.le_trans hbx.size b3.size)) | ((with_reducible refine cWr.mono ?_); rintro e W4 ⟨rfl, h4, b4⟩))
      go_roundg (c - (q + CH))
      case measure => omega
      case rel =>
        refine ⟨q + CH, by omega, by omega, Or.inr ?_, hbx.trans (b3.trans b4)⟩
        rw [Lib.strCells_eq, ← Lib.byteCells_append, Lib.extract_data, hSd.out] at h4
        simp only [List.drop_zero, Nat.sub_zero] at h4
        have e1 : (zs q).take CH = zs CH := by simp [zs, List.take_replicate]; omega
        rw [e1, zs_add] at h4
        exact h4
set_option maxRecDepth 1000000 in
theorem repeat_calls (c : Nat) (w : World) (hc : c ≤ 63) :
    Calls Try.prog 101 #[.string ⟨#[0]⟩, .int .i64 c] w fun e w' => e = .returned (.string ⟨(zs c).toArray⟩) ∧ Below w.heap.size w w' := by
  match c, hc with
  | 0, _ =>
    have hB := Below.refl w.heap.size w
    go_enter Try.func101, Try.ntmps101
    go_wp2
    go_ret
    exact ⟨rfl, hB⟩
  | 1, _ =>
    have hB := Below.refl w.heap.size w
    go_enter Try.func101, Try.ntmps101
    go_wp2
    go_ret
    exact ⟨rfl, hB⟩
  | c + 2, hc => exact repeat_main (c + 2) w (by omega) hc
end Go.Proofs.Ytknjbkbbhgjnlaa
