/- The reference's bit of a path. Condition: at most 2^40 bytes. -/
import Derived.Test.YtknjbkbbhgjnlaaClashSpec
namespace Go.Proofs.Ytknjbkbbhgjnlaa
open Go.RowKit
set_option linter.unusedVariables false
set_option linter.unusedSimpArgs false
set_option maxRecDepth 100000 in
theorem bit05_calls (p : ByteArray) (i : Nat) (hi : i < 8 * p.size) (hp : p.size ≤ 1099511627776) (w : World) :
    Calls Try.prog 62 #[.string p, .int .i64 i] w fun e w' => e = .returned (.int .i64 ((bitN p i : Nat) : Int)) ∧ w' = w := by
  have hlt : i / 8 < p.size := by omega
  have hq : bitN p i = p[i / 8].toNat / 2 ^ (7 - i % 8) % 2 := by
    unfold bitN
    rw [List.getD_eq_getElem?_getD, List.getElem?_eq_getElem (by simpa using hlt)]
    rfl
  obtain ⟨j, hj⟩ : ∃ j, i / 8 = j := ⟨_, rfl⟩
  obtain ⟨r, hr⟩ : ∃ r, i % 8 = r := ⟨_, rfl⟩
  have j1 : (i : Int) / 8 = j := by omega
  have j2 : (i : Int).tdiv 8 = j := by rw [Int.tdiv_eq_ediv_of_nonneg (Int.natCast_nonneg _)]; omega
  have r1 : (i : Int) % 8 = r := by omega
  have r2 : (i : Int).tmod 8 = r := by rw [Int.tmod_eq_emod_of_nonneg (Int.natCast_nonneg _)]; omega
  have hr8 : r < 8 := by omega
  simp only [hj, hr] at hq hlt
  have hy8 : (p[j].toNat : Int) < 256 := by have := p[j].toNat_lt; omega
  replace hq := Lib.hid hq
  go_enter Try.func62, Try.ntmps62
  go_wp2
  go_loop [5, 6] (fun c k => ∃ m : Nat, r ≤ m ∧ m ≤ 7 ∧ k = .int .i64 m ∧ c = .int .i64 ((p[j].toNat / 2 ^ (m - r) : Nat) : Int)) (fun _ k => 7 - (intOf k).toNat)
  case atStart => exact ⟨r, Nat.le_refl _, by omega, rfl, by rw [Nat.sub_self, Nat.pow_zero, Nat.div_one]⟩
  case round =>
    obtain ⟨m, hm1, hm2, rfl, rfl⟩ := hrel
    have hle : p[j].toNat / 2 ^ (m - r) ≤ p[j].toNat := Nat.div_le_self _ _
    by_cases hlt : m < 7
    · have hn : p[j].toNat / 2 ^ (m + 1 - r) = p[j].toNat / 2 ^ (m - r) / 2 := by rw [show m + 1 - r = (m - r) + 1 by omega, Nat.pow_succ, Nat.div_div_eq_div_mul]
      generalize p[j].toNat / 2 ^ (m - r) = x at *
      replace hn := Lib.hid hn
      go_wp2
      go_round
      case rel => exact ⟨m + 1, by omega, by omega, by go_num, by rw [hn.out]; exact congrArg (Value.int .i64) (by omega)⟩
      case measure => simp [intOf]; omega
    · obtain rfl : m = 7 := by omega
      go_wp2
      go_returns
      refine ⟨ret_int ?_, rfl⟩
      have e1 : ((p[j].toNat : Int) / 2 ^ (7 - r)) = ((p[j].toNat / 2 ^ (7 - r) : Nat) : Int) := by simp
      rw [hq.out, e1, Int.tmod_eq_emod_of_nonneg (Int.natCast_nonneg _)]
      generalize p[j].toNat / 2 ^ (7 - r) = x at *
      omega
end Go.Proofs.Ytknjbkbbhgjnlaa
