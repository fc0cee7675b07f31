/- The program's SHA-256: turning a word, and 64 by 64 bits. Conditions: a word is of 32 bits. -/
import Derived.Test.YtknjbkbbhgjnlaaSha0
import Derived.Test.YtknjbkbbhgjnlaaToolA
namespace Go.Proofs.Ytknjbkbbhgjnlaa
open Go.RowKit
set_option linter.unusedVariables false
set_option linter.unusedSimpArgs false
theorem rr_or (n x : Nat) (hx : x < 4294967296) (h0 : 0 < n) (hn : n < 32) : x * 2 ^ (32 - n) % 4294967296 ||| x / 2 ^ n = rr n x := by
  have e : (4294967296 : Nat) = 2 ^ (32 - n) * 2 ^ n := by rw [← Nat.pow_add, show 32 - n + n = 32 by omega]
  have hp : 0 < 2 ^ n := Nat.pow_pos (by decide)
  have hq : 0 < 2 ^ (32 - n) := Nat.pow_pos (by decide)
  have hlt : x / 2 ^ n < 2 ^ (32 - n) := by rw [Nat.div_lt_iff_lt_mul hp, ← e]; exact hx
  have e2 : (x * 4294967296 + x) / 2 ^ n = x * 2 ^ (32 - n) + x / 2 ^ n := by
    rw [e, ← Nat.mul_assoc, Nat.add_comm, Nat.add_mul_div_right _ _ hp, Nat.add_comm]
  have hm : x * 2 ^ (32 - n) % 4294967296 = (x % 2 ^ n) * 2 ^ (32 - n) := by
    rw [e, Nat.mul_comm (2 ^ (32 - n)), Nat.mul_mod_mul_right]
  unfold rr
  rw [e2, nat_join (32 - n) _ _ (by rw [hm]; simp) hlt, hm, Nat.add_mod, hm]
  have hxm : x % 2 ^ n < 2 ^ n := Nat.mod_lt _ hp
  have hb : (x % 2 ^ n) * 2 ^ (32 - n) + x / 2 ^ n < 4294967296 := by
    have : (x % 2 ^ n + 1) * 2 ^ (32 - n) ≤ 2 ^ n * 2 ^ (32 - n) := Nat.mul_le_mul_right _ hxm
    rw [Nat.mul_comm (2 ^ n), ← e, Nat.add_mul, Nat.one_mul] at this
    omega
  have hq2 : x / 2 ^ n < 4294967296 := by omega
  rw [Nat.mod_eq_of_lt hq2, Nat.mod_eq_of_lt hb]
set_option maxRecDepth 100000 in
theorem rotl_calls (x n : Nat) (hx : x < 4294967296) (h0 : 0 < n) (hn : n < 32) (w : World) :
    Calls Try.prog 137 #[.int .u32 x, .int .i64 (-(n : Int))] w fun e w' => e = .returned (.int .u32 (rr n x)) ∧ w' = w := by
  have e1 : IntKind.u64.wrap (-(n : Int)) = ((18446744073709551616 - n : Nat) : Int) := by simp [IntKind.wrap, IntKind.signed, IntKind.bits]; omega
  have e2 : bits .and .u64 ((18446744073709551616 - n : Nat) : Int) 31 = ((32 - n : Nat) : Int) := by
    have := u64_and_nat (18446744073709551616 - n) 31 (by omega) (by omega)
    rw [nat_mask5, show (18446744073709551616 - n) % 32 = 32 - n by omega] at this
    exact this
  have e3 : IntKind.u64.wrap (32 - ((32 - n : Nat) : Int)) = (n : Int) := by simp [IntKind.wrap, IntKind.signed, IntKind.bits]; omega
  have e4 : bits .or .u32 ((x : Int) * 2 ^ (32 - n) % 4294967296) ((x : Int) / 2 ^ n) = ((rr n x : Nat) : Int) := by
    rw [← rr_or n x hx h0 hn]
    have := u32_or_nat (x * 2 ^ (32 - n) % 4294967296) (x / 2 ^ n) (Nat.mod_lt _ (by decide)) (Nat.lt_of_le_of_lt (Nat.div_le_self _ _) hx)
    rw [← this]
    simp
  go_enter Try.func137, Try.ntmps137
  go_wp2
  go_returns
  exact ⟨rfl, rfl⟩
set_option maxRecDepth 100000 in
theorem turn_calls (x n : Nat) (hx : x < 4294967296) (h0 : 0 < n) (hn : n < 32) (w : World) :
    Calls Try.prog 121 #[.int .u32 x, .int .i64 n] w fun e w' => e = .returned (.int .u32 (rr n x)) ∧ w' = w := by
  have R := fun w => rotl_calls x n hx h0 hn w
  have e1 : IntKind.i64.wrap (-(n : Int)) = -(n : Int) := by simp [IntKind.wrap, IntKind.signed, IntKind.bits]; omega
  go_enter Try.func121, Try.ntmps121
  go_wp2_with ((with_reducible refine (R _).mono ?_); rintro e w4 ⟨rfl, rfl⟩)
  go_returns
  exact ⟨rfl, rfl⟩
set_option maxRecDepth 100000 in
theorem mul64_calls (x y : Nat) (hx : x < 18446744073709551616) (hy : y < 18446744073709551616) (w : World) :
    Calls Try.prog 89 #[.int .u64 x, .int .u64 y] w fun e w' => e = .returned (.tuple #[.int .u64 ((x * y / 18446744073709551616 : Nat) : Int), .int .u64 ((x * y % 18446744073709551616 : Nat) : Int)]) ∧ w' = w := by
  obtain ⟨x0, hx0⟩ : ∃ x0, x % 4294967296 = x0 := ⟨_, rfl⟩
  obtain ⟨x1, hx1⟩ : ∃ x1, x / 4294967296 = x1 := ⟨_, rfl⟩
  obtain ⟨y0, hy0⟩ : ∃ y0, y % 4294967296 = y0 := ⟨_, rfl⟩
  obtain ⟨y1, hy1⟩ : ∃ y1, y / 4294967296 = y1 := ⟨_, rfl⟩
  have ax0 : bits .and .u64 (x : Int) 4294967295 = (x0 : Int) := by
    have := u64_and_nat x 4294967295 hx (by decide)
    rw [show (4294967295 : Nat) = 2 ^ 32 - 1 by decide, Nat.and_two_pow_sub_one_eq_mod] at this
    rw [← hx0]
    exact this
  have ay0 : bits .and .u64 (y : Int) 4294967295 = (y0 : Int) := by
    have := u64_and_nat y 4294967295 hy (by decide)
    rw [show (4294967295 : Nat) = 2 ^ 32 - 1 by decide, Nat.and_two_pow_sub_one_eq_mod] at this
    rw [← hy0]
    exact this
  have ax1 : (x : Int) / 4294967296 = (x1 : Int) := by omega
  have ay1 : (y : Int) / 4294967296 = (y1 : Int) := by omega
  have hb : ∀ u v : Nat, u < 4294967296 → v < 4294967296 → u * v ≤ 18446744065119617025 := fun u v hu hv =>
    Nat.le_trans (Nat.mul_le_mul (Nat.le_of_lt_succ hu) (Nat.le_of_lt_succ hv)) (by decide)
  have la := hb x0 y0 (by omega) (by omega)
  have lb := hb x1 y0 (by omega) (by omega)
  have lc := hb x0 y1 (by omega) (by omega)
  have ld := hb x1 y1 (by omega) (by omega)
  have hP : x * y = x1 * y1 * 18446744073709551616 + (x1 * y0 + x0 * y1) * 4294967296 + x0 * y0 := by
    have e1 : x = x1 * 4294967296 + x0 := by omega
    have e2 : y = y1 * 4294967296 + y0 := by omega
    rw [e1, e2]
    simp only [Nat.add_mul, Nat.mul_add]
    have r1 : x1 * 4294967296 * (y1 * 4294967296) = x1 * y1 * 18446744073709551616 := by rw [Nat.mul_mul_mul_comm]
    have r2 : x0 * (y1 * 4294967296) = x0 * y1 * 4294967296 := by rw [Nat.mul_assoc]
    have r3 : x1 * 4294967296 * y0 = x1 * y0 * 4294967296 := by rw [Nat.mul_assoc, Nat.mul_comm 4294967296, ← Nat.mul_assoc]
    omega
  have wa : IntKind.u64.wrap ((x0 : Int) * y0) = ((x0 * y0 : Nat) : Int) := by rw [← Int.natCast_mul]; simp only [IntKind.wrap, IntKind.signed, IntKind.bits]; simp; omega
  have wb : IntKind.u64.wrap ((x1 : Int) * y0) = ((x1 * y0 : Nat) : Int) := by rw [← Int.natCast_mul]; simp only [IntKind.wrap, IntKind.signed, IntKind.bits]; simp; omega
  have wc : IntKind.u64.wrap ((x0 : Int) * y1) = ((x0 * y1 : Nat) : Int) := by rw [← Int.natCast_mul]; simp only [IntKind.wrap, IntKind.signed, IntKind.bits]; simp; omega
  have wd : IntKind.u64.wrap ((x1 : Int) * y1) = ((x1 * y1 : Nat) : Int) := by rw [← Int.natCast_mul]; simp only [IntKind.wrap, IntKind.signed, IntKind.bits]; simp; omega
  have wP : IntKind.u64.wrap ((x : Int) * y) = ((x * y % 18446744073709551616 : Nat) : Int) := by rw [← Int.natCast_mul]; simp only [IntKind.wrap, IntKind.signed, IntKind.bits]; simp
  generalize x * y = P at *
  generalize x0 * y0 = a at *
  generalize x1 * y0 = b at *
  generalize x0 * y1 = c at *
  generalize x1 * y1 = d at *
  obtain ⟨a1, ha1⟩ : ∃ a1, a / 4294967296 = a1 := ⟨_, rfl⟩
  obtain ⟨t, ht⟩ : ∃ t, b + a1 = t := ⟨_, rfl⟩
  obtain ⟨t0, ht0⟩ : ∃ t0, t % 4294967296 = t0 := ⟨_, rfl⟩
  obtain ⟨t1, ht1⟩ : ∃ t1, t / 4294967296 = t1 := ⟨_, rfl⟩
  obtain ⟨s, hs⟩ : ∃ s, t0 + c = s := ⟨_, rfl⟩
  obtain ⟨s1, hs1⟩ : ∃ s1, s / 4294967296 = s1 := ⟨_, rfl⟩
  have ka1 : (a : Int) / 4294967296 = (a1 : Int) := by omega
  have kt : IntKind.u64.wrap ((b : Int) + a1) = t := by simp [IntKind.wrap, IntKind.signed, IntKind.bits]; omega
  have kt0 : bits .and .u64 (t : Int) 4294967295 = (t0 : Int) := by
    have := u64_and_nat t 4294967295 (by omega) (by decide)
    rw [show (4294967295 : Nat) = 2 ^ 32 - 1 by decide, Nat.and_two_pow_sub_one_eq_mod] at this
    rw [← ht0]
    exact this
  have kt1 : (t : Int) / 4294967296 = (t1 : Int) := by omega
  have ks : IntKind.u64.wrap ((t0 : Int) + c) = s := by simp [IntKind.wrap, IntKind.signed, IntKind.bits]; omega
  have ks1 : (s : Int) / 4294967296 = (s1 : Int) := by omega
  have kd : IntKind.u64.wrap ((d : Int) + t1) = ((d + t1 : Nat) : Int) := by simp [IntKind.wrap, IntKind.signed, IntKind.bits]; omega
  have eP : P / 18446744073709551616 = d + t1 + s1 := by omega
  have kh : IntKind.u64.wrap (((d : Int) + t1) + s1) = ((P / 18446744073709551616 : Nat) : Int) := by rw [eP]; simp [IntKind.wrap, IntKind.signed, IntKind.bits]; omega
  have kd' : IntKind.u64.wrap ((d : Int) + t1) = (d : Int) + t1 := by rw [kd]; simp
  clear kd eP hP la lb lc ld hb hx0 hx1 hy0 hy1 ha1 ht ht0 ht1 hs hs1
  go_enter Try.func89, Try.ntmps89
  go_wp2
  go_returns
  exact ⟨rfl, rfl⟩
end Go.Proofs.Ytknjbkbbhgjnlaa
