/- Layer 9: the law's own helpers. Conditions: sizes as the law's. -/
import Derived.Test.YtadmpaeblbddgaaClash4
namespace Go.Proofs.Ytadmpaeblbddgaa
open Go.RowKit
set_option linter.unusedVariables false
set_option linter.unusedSimpArgs false
set_option maxRecDepth 100000 in
theorem awake09_calls (w : World) : Calls Try.prog 13 #[] w fun e w' => e = .returned (.bool true) ∧ Later w w' := by
  have C := fun w => path_calls two_hasher ⟨#[97]⟩ (by decide) w
  have hs : (weakS 2 (⟨#[75]⟩ ++ ⟨#[97]⟩)).size = 32 := weakS_size _ _
  generalize weakS 2 (⟨#[75]⟩ ++ ⟨#[97]⟩) = X at *
  replace C := Lib.hid C
  go_enter Try.func13, Try.ntmps13
  go_wp2_with (((with_reducible refine (C.out _).mono ?_); rintro e wN ⟨rfl, hbN⟩))
  go_returns
  go_light
  exact ⟨rfl, hbN⟩
def fewC (key : ByteArray) (a : An) : Bool := decide (key.size ≤ 300) && decide (a.value.size ≤ 300) && decide (a.proof.size ≤ 10000)
set_option maxRecDepth 100000 in
theorem few09_calls (key : ByteArray) (a : An) (w : World) : Calls Try.prog 14 #[.string key, .agg a.A] w fun e w' => e = .returned (.bool (fewC key a)) ∧ Later w w' := by
  obtain ⟨th, va, pr⟩ := a
  simp only [An.A, fewC] at *
  have hw := Whole.new w 23 #[.bool th, .string va, .string pr]
  have c0 := hw.cell 0
  have c1 := hw.cell 1
  have c2 := hw.cell 2
  by_cases h1 : key.size ≤ 300
  · by_cases h2 : va.size ≤ 300
    · by_cases h3 : pr.size ≤ 10000
      all_goals
        go_enter Try.func14, Try.ntmps14
        go_wp2
        all_goals (go_returns; go_light; exact ⟨ret_bool (by simp [h1, h2, h3] <;> omega), (Later.refl w).alloc _⟩)
    · go_enter Try.func14, Try.ntmps14
      go_wp2
      all_goals (go_returns; go_light; exact ⟨ret_bool (by simp [h1, h2] <;> omega), (Later.refl w).alloc _⟩)
  · go_enter Try.func14, Try.ntmps14
    go_wp2
    all_goals (go_returns; go_light; exact ⟨ret_bool (by simp [h1] <;> omega), (Later.refl w).alloc _⟩)
set_option maxHeartbeats 1000000 in
set_option maxRecDepth 100000 in
theorem lroot_calls (k : Nat) (hk : k < 256) (key : ByteArray) (a : An) (hkey : key.size ≤ 1099511627770) (hv : a.value.size ≤ 1099511627770) (hp : a.proof.size ≤ 1099511627770) (w : World) :
    Calls Try.prog 15 #[.int .u8 k, .string key, .agg a.A] w fun e w' => e = .returned (.tuple #[.string (rootC (hfOf k) key a).1, .bool (rootC (hfOf k) key a).2]) ∧ Later w w' := by
  have hr : hfOf k = if k % 3 = 0 then weakS 2 else if k % 3 = 1 then weakS 5 else shaN := rfl
  have h3 : k % 3 < 3 := Nat.mod_lt _ (by decide)
  obtain ⟨m, hm⟩ : ∃ m, k % 3 = m := ⟨_, rfl⟩
  rw [hm] at hr h3
  have m1 : (k : Int) % 3 = m := by omega
  have m2 : (k : Int).tmod 3 = m := by rw [Int.tmod_eq_emod_of_nonneg (Int.natCast_nonneg _)]; omega
  have C0 := fun w => root_calls two_hasher key a hkey hv hp w
  have C1 := fun w => root_calls five_hasher key a hkey hv hp w
  have C2 := fun w => root_calls full_hasher key a hkey hv hp w
  have hw := Whole.new w 23 a.A
  have hB : Later w (w.alloc (.cells a.A 23)) := (Later.refl w).alloc _
  rw [hr]
  clear hr hm
  match m, h3 with
  | 0, _ =>
    rw [if_pos rfl]
    generalize rootC (weakS 2) key a = R at *
    clear C1 C2
    obtain ⟨th, va, pr⟩ := a
    simp only [An.A] at *
    obtain ⟨R1, R2⟩ := R
    replace C0 := Lib.hid C0
    go_enter Try.func15, Try.ntmps15
    go_wp2_with (first | (first | ((with_reducible apply wl_loadW (ty := 23) hw Try.underlying23); rfl; rfl; rfl; kernel_rfl) | ((with_reducible apply wl_loadW (ty := 23) (hw.alloc _) Try.underlying23); rfl; rfl; rfl; kernel_rfl) | ((with_reducible apply wl_loadW (ty := 23) ((hw.alloc _).alloc _) Try.underlying23); rfl; rfl; rfl; kernel_rfl)) | ((with_reducible refine (C0.out _).mono ?_); rintro e wT ⟨rfl, hlT⟩; replace hB := hB.trans hlT))
    go_returns
    go_light
    exact ⟨rfl, hB⟩
  | 1, _ =>
    rw [if_neg (by decide), if_pos rfl]
    generalize rootC (weakS 5) key a = R at *
    clear C0 C2
    obtain ⟨th, va, pr⟩ := a
    simp only [An.A] at *
    obtain ⟨R1, R2⟩ := R
    replace C1 := Lib.hid C1
    go_enter Try.func15, Try.ntmps15
    go_wp2_with (first | (first | ((with_reducible apply wl_loadW (ty := 23) hw Try.underlying23); rfl; rfl; rfl; kernel_rfl) | ((with_reducible apply wl_loadW (ty := 23) (hw.alloc _) Try.underlying23); rfl; rfl; rfl; kernel_rfl) | ((with_reducible apply wl_loadW (ty := 23) ((hw.alloc _).alloc _) Try.underlying23); rfl; rfl; rfl; kernel_rfl)) | ((with_reducible refine (C1.out _).mono ?_); rintro e wT ⟨rfl, hlT⟩; replace hB := hB.trans hlT))
    go_returns
    go_light
    exact ⟨rfl, hB⟩
  | 2, _ =>
    rw [if_neg (by decide), if_neg (by decide)]
    generalize rootC shaN key a = R at *
    clear C0 C1
    obtain ⟨th, va, pr⟩ := a
    simp only [An.A] at *
    obtain ⟨R1, R2⟩ := R
    replace C2 := Lib.hid C2
    go_enter Try.func15, Try.ntmps15
    go_wp2_with (first | (first | ((with_reducible apply wl_loadW (ty := 23) hw Try.underlying23); rfl; rfl; rfl; kernel_rfl) | ((with_reducible apply wl_loadW (ty := 23) (hw.alloc _) Try.underlying23); rfl; rfl; rfl; kernel_rfl) | ((with_reducible apply wl_loadW (ty := 23) ((hw.alloc _).alloc _) Try.underlying23); rfl; rfl; rfl; kernel_rfl)) | ((with_reducible refine (C2.out _).mono ?_); rintro e wT ⟨rfl, hlT⟩; replace hB := hB.trans hlT))
    go_returns
    go_light
    exact ⟨rfl, hB⟩
end Go.Proofs.Ytadmpaeblbddgaa
