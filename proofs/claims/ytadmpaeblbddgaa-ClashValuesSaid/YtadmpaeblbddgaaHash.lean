/- Hashers: what a hash function gives, whatever the world. Condition: at most 2^40 bytes. -/
import Derived.Test.YtadmpaeblbddgaaShaR3
import Derived.Test.YtadmpaeblbddgaaRows1
import Derived.Shelf.Abstract
namespace Go.Proofs.Ytadmpaeblbddgaa
open Go.RowKit
set_option linter.unusedVariables false
set_option linter.unusedSimpArgs false
/-- The weak hash's number, behind i bytes. -/
def weakK (s : ByteArray) : Nat → Nat
  | 0 => 7
  | i + 1 => (weakK s i * 31 + (s.data.toList.getD i 0).toNat + i) % 1009
theorem weakK_lt (s : ByteArray) (i : Nat) : weakK s i < 1009 := by
  cases i with
  | zero => show 7 < 1009; decide
  | succ i => exact Nat.mod_lt _ (by decide)
def weakS (n : Nat) (s : ByteArray) : ByteArray := strOfNums (((weakK s s.size % n : Nat) : Int) :: List.replicate 31 0)
theorem weakS_size (n : Nat) (s : ByteArray) : (weakS n s).size = 32 := by simp [weakS, strOfNums_size]
set_option maxRecDepth 100000 in
theorem conv32 (w : World) (x : Int) : (convert 66 9 (.slice (some ⟨w.heap.size, 0, none⟩) 32 32)).run Try.prog (w.alloc (.cells ((Array.replicate 32 (.int .u8 0)).setIfInBounds 0 (.int .u8 x)) 5)) = .ok (.string (strOfNums (x :: List.replicate 31 0))) (w.alloc (.cells ((Array.replicate 32 (.int .u8 0)).setIfInBounds 0 (.int .u8 x)) 5)) := by
  refine run_convert_bytes_arg _ _ 5 rfl rfl _ 0 32 32 (x :: List.replicate 31 0) rfl (fun i hi => ?_) _ rfl
  have hw := (Whole.new w 5 ((Array.replicate 32 (.int .u8 0)).setIfInBounds 0 (.int .u8 x))).cell
  rw [hw]
  cases i with
  | zero => simp
  | succ i =>
    have h31 : i < 31 := by omega
    rw [Array.getElem?_setIfInBounds_ne (by omega)]
    simp only [Nat.zero_add, Array.getElem?_replicate, if_pos hi]
    rw [List.getD_eq_getElem?_getD, List.getElem?_cons_succ, List.getElem?_replicate, if_pos h31]
    rfl
set_option maxHeartbeats 1000000 in
set_option maxRecDepth 100000 in
theorem weak_calls (s : ByteArray) (hs : s.size ≤ 1099511627776) (n : Nat) (hn : 0 < n) (hn2 : n ≤ 256) (w : World) :
    Calls Try.prog 63 #[.string s, .int .i64 n] w fun e w' => e = .returned (.string (weakS n s)) ∧ Later w w' := by
  go_enter Try.func63, Try.ntmps63
  go_wp2
  go_loop [5, 6] (fun k i => ∃ j : Nat, j ≤ s.size ∧ i = .int .i64 j ∧ k = .int .i64 (weakK s j)) (fun _ i => s.size - (intOf i).toNat)
  case atStart => exact ⟨0, Nat.zero_le _, rfl, rfl⟩
  case round =>
    obtain ⟨j, hj, rfl, rfl⟩ := hrel
    have hk := weakK_lt s j
    by_cases hlt : j < s.size
    · have hst : weakK s (j + 1) = (weakK s j * 31 + s[j].toNat + j) % 1009 := by
        simp only [weakK]
        rw [List.getD_eq_getElem?_getD, List.getElem?_eq_getElem (by simpa using hlt)]
        rfl
      replace hst := Lib.hid hst
      generalize weakK s j = x at *
      have hb : (s[j].toNat : Int) < 256 := by have := s[j].toNat_lt; omega
      go_wp2
      go_round
      case rel => exact ⟨j + 1, by omega, by go_num, by rw [hst.out]; exact congrArg (Value.int .i64) (by omega)⟩
      case measure => simp [intOf]; omega
    · obtain rfl : j = s.size := by omega
      have hmk : ∀ w : World, (Instr.makeSlice 66 (.int .i64 32) (.int .i64 32)).run Try.prog w = .ok (.slice (some ⟨w.heap.size, 0, none⟩) 32 32) (w.alloc (.cells (Array.replicate 32 (.int .u8 0)) 5)) := fun w => run_make1 (b := 1) Try.underlying66 (by kernel_rfl) rfl 32 (by decide) (by decide) w
      have hcv : ∀ (w : World) (x : Int), (convert 66 9 (.slice (some ⟨w.heap.size, 0, none⟩) 32 32)).run Try.prog (w.alloc (.cells ((Array.replicate 32 (.int .u8 0)).setIfInBounds 0 (.int .u8 x)) 5)) = .ok (.string (strOfNums (x :: List.replicate 31 0))) (w.alloc (.cells ((Array.replicate 32 (.int .u8 0)).setIfInBounds 0 (.int .u8 x)) 5)) := fun w x => conv32 w x
      obtain ⟨k, hkk⟩ : ∃ k, weakK s s.size = k := ⟨_, rfl⟩
      rw [hkk] at hk ⊢
      replace hkk := Lib.hid hkk
      have hkn : k % n < n := Nat.mod_lt _ hn
      obtain ⟨y, hy⟩ : ∃ y, k % n = y := ⟨_, rfl⟩
      have y1 : (k : Int) % (n : Int) = y := by rw [← hy]; simp
      have y2 : (k : Int).tmod (n : Int) = y := by rw [Int.tmod_eq_emod_of_nonneg (Int.natCast_nonneg _), y1]
      have y3 : IntKind.u8.wrap (y : Int) = y := by simp [IntKind.wrap, IntKind.signed, IntKind.bits]; omega
      have y4 : (y : Int) % 256 = y := by omega
      rw [hy] at hkn
      replace hy := Lib.hid hy
      have hz : (n : Int) ≠ 0 := by omega
      go_wp2
      go_returns
      go_light
      refine ⟨ret_str ?_, (Later.refl w).alloc _⟩
      unfold weakS
      rw [hkk.out, hy.out]
      rfl
/-- A hash function, by its number. -/
structure Hasher (f : FuncId) (hf : ByteArray → ByteArray) : Prop where
  enters : ∀ args w, (callFunc f args).run Try.prog w = .ok (.enter f args) w
  calls : ∀ (s : ByteArray) (w : World), s.size ≤ 1099511627776 → Calls Try.prog f #[.string s] w fun e w' => e = .returned (.string (hf s)) ∧ Later w w'
  size : ∀ s, (hf s).size = 32
theorem shaN_size (s : ByteArray) : (shaN s).size = 32 := by simp only [shaN, outB_size, flat_size]; rfl
set_option maxRecDepth 100000 in
theorem two_calls (s : ByteArray) (w : World) (hs : s.size ≤ 1099511627776) : Calls Try.prog 37 #[.string s] w fun e w' => e = .returned (.string (weakS 2 s)) ∧ Later w w' := by
  have C : ∀ w : World, Calls Try.prog 63 #[.string s, .int .i64 2] w (fun e w' => e = .returned (.string (weakS 2 s)) ∧ Later w w') := fun w => weak_calls s hs 2 (by decide) (by decide) w
  replace C := Lib.hid C
  go_enter Try.func37, Try.ntmps37
  go_wp2_with (((with_reducible refine (C.out _).mono ?_); rintro e wN ⟨rfl, hbN⟩))
  go_returns
  go_light
  exact ⟨rfl, hbN⟩
set_option maxRecDepth 100000 in
theorem five_calls (s : ByteArray) (w : World) (hs : s.size ≤ 1099511627776) : Calls Try.prog 39 #[.string s] w fun e w' => e = .returned (.string (weakS 5 s)) ∧ Later w w' := by
  have C : ∀ w : World, Calls Try.prog 63 #[.string s, .int .i64 5] w (fun e w' => e = .returned (.string (weakS 5 s)) ∧ Later w w') := fun w => weak_calls s hs 5 (by decide) (by decide) w
  replace C := Lib.hid C
  go_enter Try.func39, Try.ntmps39
  go_wp2_with (((with_reducible refine (C.out _).mono ?_); rintro e wN ⟨rfl, hbN⟩))
  go_returns
  go_light
  exact ⟨rfl, hbN⟩
set_option maxRecDepth 100000 in
theorem full_calls (s : ByteArray) (w : World) (hs : s.size ≤ 1099511627776) : Calls Try.prog 40 #[.string s] w fun e w' => e = .returned (.string (shaN s)) ∧ Later w w' := by
  have C := fun w => sum01_calls s hs w
  replace C := Lib.hid C
  go_enter Try.func40, Try.ntmps40
  go_wp2_with (((with_reducible refine (C.out _).mono ?_); rintro e wN ⟨rfl, hbN⟩))
  go_returns
  go_light
  exact ⟨rfl, hbN⟩
def hfOf (k : Nat) : ByteArray → ByteArray := if k % 3 = 0 then weakS 2 else if k % 3 = 1 then weakS 5 else shaN
theorem hfOf_size (k : Nat) (s : ByteArray) : (hfOf k s).size = 32 := by
  unfold hfOf
  split
  · exact weakS_size _ _
  · split
    · exact weakS_size _ _
    · exact shaN_size _
theorem two_hasher : Hasher 37 (weakS 2) := ⟨enters_of Try.func37 (by kernel_rfl) rfl, fun s w h => two_calls s w h, weakS_size 2⟩
theorem five_hasher : Hasher 39 (weakS 5) := ⟨enters_of Try.func39 (by kernel_rfl) rfl, fun s w h => five_calls s w h, weakS_size 5⟩
theorem full_hasher : Hasher 40 shaN := ⟨enters_of Try.func40 (by kernel_rfl) rfl, fun s w h => full_calls s w h, shaN_size⟩
set_option maxRecDepth 100000 in
theorem hash_calls (k : Nat) (hk : k < 256) (s : ByteArray) (w : World) (hs : s.size ≤ 1099511627776) : Calls Try.prog 41 #[.int .u8 k, .string s] w fun e w' => e = .returned (.string (hfOf k s)) ∧ Later w w' := by
  have C0 := fun w => two_calls s w hs
  have C1 := fun w => five_calls s w hs
  have C2 := fun w => full_calls s w hs
  replace C0 := Lib.hid C0
  replace C1 := Lib.hid C1
  replace C2 := Lib.hid C2
  have hr : hfOf k = if k % 3 = 0 then weakS 2 else if k % 3 = 1 then weakS 5 else shaN := rfl
  have h3 : k % 3 < 3 := Nat.mod_lt _ (by decide)
  obtain ⟨m, hm⟩ : ∃ m, k % 3 = m := ⟨_, rfl⟩
  rw [hm] at hr h3
  have m1 : (k : Int) % 3 = m := by omega
  have m2 : (k : Int).tmod 3 = m := by rw [Int.tmod_eq_emod_of_nonneg (Int.natCast_nonneg _)]; omega
  rw [hr]
  clear hr hm
  match m, h3 with
  | 0, _ =>
    go_enter Try.func41, Try.ntmps41
    go_wp2_with (first | ((with_reducible refine (C0.out _).mono ?_); rintro e wN ⟨rfl, hbN⟩))
    go_returns
    go_light
    exact ⟨rfl, hbN⟩
  | 1, _ =>
    go_enter Try.func41, Try.ntmps41
    go_wp2_with (first | ((with_reducible refine (C1.out _).mono ?_); rintro e wN ⟨rfl, hbN⟩))
    go_returns
    go_light
    exact ⟨rfl, hbN⟩
  | 2, _ =>
    go_enter Try.func41, Try.ntmps41
    go_wp2_with (first | ((with_reducible refine (C2.out _).mono ?_); rintro e wN ⟨rfl, hbN⟩))
    go_returns
    go_light
    exact ⟨rfl, hbN⟩
end Go.Proofs.Ytadmpaeblbddgaa
