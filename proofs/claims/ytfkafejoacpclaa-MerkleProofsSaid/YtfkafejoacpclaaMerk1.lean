/- The program's tree: leaf, pair, split; the reference's half. Conditions: texts of at most 2^30 bytes. -/
import Derived.Test.YtfkafejoacpclaaMerkSpec
import Derived.Test.YtfkafejoacpclaaPShaS
import Derived.Test.YtfkafejoacpclaaKinds
namespace Go.Proofs.Ytfkafejoacpclaa
open Go.RowKit
set_option linter.unusedVariables false
set_option linter.unusedSimpArgs false
def hfF : Nat → Nat → Nat → Nat
  | 0, k, n => k
  | f + 1, k, n => if n ≤ k then hfF f (k / 2) n else k
theorem hf_sp : ∀ n, n < 65 → 2 ≤ n → hfF 7 64 n = sp n := by decide
set_option maxHeartbeats 1000000 in
set_option maxRecDepth 100000 in
theorem leaf_calls (b : ByteArray) (hb : b.size ≤ 1073741824) (w : World) :
    Calls Try.prog 28 #[.agg (arr .u32 (K64 ++ H8.L)), .string b] w fun e w' => e = .returned (.string (leafN b)) ∧ Below w.heap.size w w' := by
  have hs : ((⟨#[0]⟩ : ByteArray) ++ b).size = 1 + b.size := ByteArray.size_append
  have SS := fun w => shaSum_calls ((⟨#[0]⟩ : ByteArray) ++ b) (by omega) w
  have nolen : (9223372036854775807 < 1 + b.size) = False := eq_false (by omega)
  have hsz : (Try.prog.info? 29).map (·.size) = some (arr .u32 (K64 ++ H8.L)).size := by kernel_rfl
  unfold leafN
  generalize shaN ((⟨#[0]⟩ : ByteArray) ++ b) = H at *
  generalize arr .u32 (K64 ++ H8.L) = tb at *
  have h1 := Whole.new w 29 tb
  have hB1 : Below w.heap.size w (w.alloc (.cells tb 29)) := by go_grown
  replace SS := Lib.hid SS
  clear hs
  go_enter Try.func28, Try.ntmps28
  go_wp2_with (first | ((with_reducible apply wl_loadW (ty := 29) h1 Try.underlying29); rfl; rfl; rfl; exact hsz) | ((with_reducible refine (SS.out _).mono ?_); rintro e w2 ⟨rfl, hb2⟩; replace hB1 := below_next' hB1 hb2))
  go_returns
  go_light
  exact ⟨rfl, hB1⟩
set_option maxHeartbeats 1000000 in
set_option maxRecDepth 100000 in
theorem pair_calls (a b : ByteArray) (ha : a.size ≤ 1073741824) (hb : b.size ≤ 1073741824) (w : World) :
    Calls Try.prog 61 #[.agg (arr .u32 (K64 ++ H8.L)), .string a, .string b] w fun e w' => e = .returned (.string (pairN a b)) ∧ Below w.heap.size w w' := by
  have hs1 : ((⟨#[1]⟩ : ByteArray) ++ a).size = 1 + a.size := ByteArray.size_append
  have hs : (((⟨#[1]⟩ : ByteArray) ++ a) ++ b).size = 1 + a.size + b.size := by rw [ByteArray.size_append, hs1]
  have SS := fun w => shaSum_calls (((⟨#[1]⟩ : ByteArray) ++ a) ++ b) (by omega) w
  have nolen : (9223372036854775807 < 1 + a.size) = False := eq_false (by omega)
  have nolen2 : (9223372036854775807 < 1 + a.size + b.size) = False := eq_false (by omega)
  have hsz : (Try.prog.info? 29).map (·.size) = some (arr .u32 (K64 ++ H8.L)).size := by kernel_rfl
  unfold pairN
  generalize shaN (((⟨#[1]⟩ : ByteArray) ++ a) ++ b) = H at *
  generalize arr .u32 (K64 ++ H8.L) = tb at *
  have h1 := Whole.new w 29 tb
  have hB1 : Below w.heap.size w (w.alloc (.cells tb 29)) := by go_grown
  replace SS := Lib.hid SS
  clear hs
  go_enter Try.func61, Try.ntmps61
  go_wp2_with (first | ((with_reducible apply wl_loadW (ty := 29) h1 Try.underlying29); rfl; rfl; rfl; exact hsz) | ((with_reducible refine (SS.out _).mono ?_); rintro e w2 ⟨rfl, hb2⟩; replace hB1 := below_next' hB1 hb2))
  go_returns
  go_light
  exact ⟨rfl, hB1⟩
set_option maxHeartbeats 1000000 in
set_option maxRecDepth 100000 in
theorem split_calls (n : Nat) (hn : n ≤ 1073741824) (w : World) :
    Calls Try.prog 60 #[.int .i64 n] w fun e w' => e = .returned (.int .i64 (sp n : Nat)) ∧ w' = w := by
  obtain ⟨Z, hZ⟩ : ∃ Z, sp n = Z := ⟨_, rfl⟩
  rw [hZ]
  replace hZ := Lib.hid hZ
  go_enter Try.func60, Try.ntmps60
  go_wp2_with (fail)
  go_loopg [3] n (fun kg i wr => ∃ (f k : Nat), i = .int .i64 k ∧ 1 ≤ k ∧ k ≤ 1073741824 ∧ n ≤ k + f ∧ spF f k n = Z ∧ kg = n + 1 - k ∧ (k ≤ n ∨ k = 1) ∧ wr = w)
  case atStart => exact ⟨n, 1, rfl, by omega, by omega, by omega, hZ.out, by omega, .inr rfl, rfl⟩
  case round =>
    obtain ⟨f, k, rfl, hk1, hk2, hf, hsp, hkg, hkn, rfl⟩ := hrel
    replace hkg := Lib.hid hkg
    have hw : IntKind.i64.wrap (2 * (k : Int)) = 2 * (k : Int) := by simp [IntKind.wrap, IntKind.signed, IntKind.bits]; omega
    have hw2 : IntKind.i64.wrap ((k : Int) * 2) = ((2 * k : Nat) : Int) := by simp [IntKind.wrap, IntKind.signed, IntKind.bits]; omega
    by_cases hlt : 2 * k < n
    · have q : (2 * (k : Int) < n) = True := eq_true (by omega)
      obtain ⟨f', rfl⟩ : ∃ f', f = f' + 1 := ⟨f - 1, by omega⟩
      rw [spF, if_pos hlt] at hsp
      replace hsp := Lib.hid hsp
      go_wp2_with (fail)
      go_roundg (n + 1 - 2 * k)
      case measure => go_light; rw [hkg.out]; omega
      case rel => go_light; exact ⟨f', 2 * k, by go_num, by omega, by omega, by omega, hsp.out, by omega, by omega, rfl⟩
    · have q : (2 * (k : Int) < n) = False := eq_false (by omega)
      have qn : ((n : Int) ≤ 2 * (k : Int)) = True := eq_true (by omega)
      rw [spF_stop f k n hlt] at hsp
      replace hsp := Lib.hid hsp
      go_wp2_with (fail)
      go_returns
      exact ⟨by rw [← hsp.out]; rfl, rfl⟩
end Go.Proofs.Ytfkafejoacpclaa
