/- The law ClashRoots, walked. No conditions. -/
import Derived.Test.YtadmpaeblbddgaaClash5
namespace Go.Proofs.Ytadmpaeblbddgaa
open Go.RowKit
set_option linter.unusedVariables false
set_option linter.unusedSimpArgs false
set_option maxHeartbeats 1000000 in
set_option maxRecDepth 100000 in
theorem clashRoots_calls (k : Nat) (hk : k < 256) (key : ByteArray) (a : An) (w : World) :
    Calls Try.prog 3 #[.int .u8 k, .string key, .agg a.A] w fun e w' => e = .returned (.bool true) ∧ Later w w' := by
  have Aw := fun w => awake09_calls w
  have Fw := fun w => few09_calls key a w
  have hw := Whole.new w 23 a.A
  have hB : Later w (w.alloc (.cells a.A 23)) := (Later.refl w).alloc _
  cases hf : fewC key a
  · rw [hf] at Fw
    clear hf
    obtain ⟨th, va, pr⟩ := a
    simp only [An.A] at *
    replace Aw := Lib.hid Aw
    replace Fw := Lib.hid Fw
    go_enter Try.func3, Try.ntmps3
    go_wp2_with (first | (first | ((with_reducible apply wl_loadW (ty := 23) hw Try.underlying23); rfl; rfl; rfl; kernel_rfl) | ((with_reducible apply wl_loadW (ty := 23) (hw.alloc _) Try.underlying23); rfl; rfl; rfl; kernel_rfl) | ((with_reducible apply wl_loadW (ty := 23) ((hw.alloc _).alloc _) Try.underlying23); rfl; rfl; rfl; kernel_rfl)) | ((with_reducible refine (Aw.out _).mono ?_); rintro e wT ⟨rfl, hlT⟩; replace hw := hlT.whole hw; replace hB := hB.trans hlT) | ((with_reducible refine (Fw.out _).mono ?_); rintro e wT ⟨rfl, hlT⟩; replace hw := hlT.whole hw; replace hB := hB.trans hlT))
    go_returns
    go_light
    exact ⟨rfl, hB⟩
  · have h := hf
    simp only [fewC, Bool.and_eq_true, decide_eq_true_eq] at h
    have C1 := fun w => lroot_calls k hk key a (by omega) (by omega) (by omega) w
    have C2 := fun w => root09_calls k hk key a (by omega) (by omega) (by omega) w
    rw [hf] at Fw
    clear hf h
    generalize rootC (hfOf k) key a = R at *
    obtain ⟨R1, R2⟩ := R
    obtain ⟨th, va, pr⟩ := a
    simp only [An.A] at *
    replace Aw := Lib.hid Aw
    replace Fw := Lib.hid Fw
    replace C1 := Lib.hid C1
    replace C2 := Lib.hid C2
    go_enter Try.func3, Try.ntmps3
    go_wp2_with (first | (first | ((with_reducible apply wl_loadW (ty := 23) hw Try.underlying23); rfl; rfl; rfl; kernel_rfl) | ((with_reducible apply wl_loadW (ty := 23) (hw.alloc _) Try.underlying23); rfl; rfl; rfl; kernel_rfl) | ((with_reducible apply wl_loadW (ty := 23) ((hw.alloc _).alloc _) Try.underlying23); rfl; rfl; rfl; kernel_rfl)) | ((with_reducible refine (Aw.out _).mono ?_); rintro e wT ⟨rfl, hlT⟩; replace hw := hlT.whole hw; replace hB := hB.trans hlT) | ((with_reducible refine (Fw.out _).mono ?_); rintro e wT ⟨rfl, hlT⟩; replace hw := hlT.whole hw; replace hB := hB.trans hlT) | ((with_reducible refine (C1.out _).mono ?_); rintro e wT ⟨rfl, hlT⟩; replace hw := hlT.whole hw; replace hB := hB.trans hlT) | ((with_reducible refine (C2.out _).mono ?_); rintro e wT ⟨rfl, hlT⟩; replace hw := hlT.whole hw; replace hB := hB.trans hlT))
    go_returns
    go_light
    exact ⟨ret_bool (by simp), hB⟩
end Go.Proofs.Ytadmpaeblbddgaa
