/- The program's SHA-256: roots, bit by bit. Conditions: a prime is of 32 bits. -/
import Derived.Test.YtknjbkbbhgjnlaaPSha1
namespace Go.Proofs.Ytknjbkbbhgjnlaa
open Go.RowKit
set_option linter.unusedVariables false
set_option linter.unusedSimpArgs false
/-- The greatest number of so many bits, behind x, that is so. -/
def grG (g : Nat → Bool) : Nat → Nat → Nat
  | 0, x => x
  | n + 1, x => grG g n (if g (x ||| 2 ^ n) then x ||| 2 ^ n else x)
theorem grG_lt (g : Nat → Bool) : ∀ n x, n ≤ 36 → x < 68719476736 → grG g n x < 68719476736
  | 0, x, _, hx => hx
  | n + 1, x, hn, hx => by
    rw [grG]
    refine grG_lt g n _ (by omega) ?_
    split
    · exact Nat.or_lt_two_pow (n := 36) hx (Nat.pow_lt_pow_right (by decide) (by omega))
    · exact hx
/-- What square and cube ask. -/
def sqB (p x : Nat) : Bool := decide (x * x ≤ p * 18446744073709551616)
def cuB (p x : Nat) : Bool := decide (x * x * x ≤ p * 79228162514264337593543950336)
set_option maxHeartbeats 1000000 in
set_option maxRecDepth 100000 in
theorem squareFn_calls (p x B : Nat) (hp : p < 4294967296) (hx : x < 68719476736) (w : World) (hc : w.cell? ⟨B, 0, none⟩ = some (.int .u64 p)) :
    Calls Try.prog 90 #[.int .u64 x, .pointer (some ⟨B, 0, none⟩)] w fun e w' => e = .returned (.bool (sqB p x)) ∧ w' = w := by
  have R := fun w => mul64_calls x x (by omega) (by omega) w
  have e : sqB p x = (decide (x * x / 18446744073709551616 < p) || (decide (x * x / 18446744073709551616 = p) && decide (x * x % 18446744073709551616 = 0))) := by
    unfold sqB
    generalize x * x = y
    rw [Bool.eq_iff_iff]
    simp
    omega
  rw [e]
  clear e
  generalize x * x / 18446744073709551616 = h at *
  generalize x * x % 18446744073709551616 = l at *
  replace R := Lib.hid R
  by_cases h1 : h < p
  · have h1' : ((h : Int) < p) = True := eq_true (by omega)
    rw [decide_eq_true h1, Bool.true_or]
    clear h1
    go_enter Try.func90, Try.ntmps90
    go_wp2_with ((with_reducible refine (R.out _).mono ?_); rintro e w4 ⟨rfl, rfl⟩)
    go_returns
    exact ⟨rfl, rfl⟩
  · have h1' : ((h : Int) < p) = False := eq_false (by omega)
    rw [decide_eq_false h1, Bool.false_or]
    by_cases h2 : h = p
    · subst h2
      rw [decide_eq_true rfl, Bool.true_and]
      clear h1
      by_cases h3 : l = 0
      · subst h3
        go_enter Try.func90, Try.ntmps90
        go_wp2_with ((with_reducible refine (R.out _).mono ?_); rintro e w4 ⟨rfl, rfl⟩)
        go_returns
        exact ⟨rfl, rfl⟩
      · have h3' : ((l : Int) = 0) = False := eq_false (by omega)
        rw [decide_eq_false h3]
        go_enter Try.func90, Try.ntmps90
        go_wp2_with ((with_reducible refine (R.out _).mono ?_); rintro e w4 ⟨rfl, rfl⟩)
        go_returns
        exact ⟨by simp [h3], rfl⟩
    · have h2' : ((h : Int) = p) = False := eq_false (by omega)
      rw [decide_eq_false h2, Bool.false_and]
      clear h1 h2
      go_enter Try.func90, Try.ntmps90
      go_wp2_with ((with_reducible refine (R.out _).mono ?_); rintro e w4 ⟨rfl, rfl⟩)
      go_returns
      exact ⟨by simp [h2'], rfl⟩
set_option maxHeartbeats 1000000 in
set_option maxRecDepth 100000 in
theorem greatest_calls (g : Nat → Bool) (f : FuncId) (hf : f = 90 ∨ f = 88) (B : Nat) (w : World)
    (hg : ∀ x : Nat, x < 68719476736 → Calls Try.prog f #[.int .u64 x, .pointer (some ⟨B, 0, none⟩)] w fun e w' => e = .returned (.bool (g x)) ∧ w' = w) :
    Calls Try.prog 87 #[.func (.func f) #[] #[.pointer (some ⟨B, 0, none⟩)]] w fun e w' => e = .returned (.int .u64 ((grG g 36 0 : Nat) : Int)) ∧ w' = w := by
  obtain ⟨Z, hZ⟩ : ∃ Z, grG g 36 0 = Z := ⟨_, rfl⟩
  rw [hZ]
  replace hZ := Lib.hid hZ
  replace hg := Lib.hid hg
  go_enter Try.func87, Try.ntmps87
  go_wp2_with (fail)
  go_loopg [3, 4] 37 (fun kg x i wr => ∃ (n X b : Nat), n ≤ 36 ∧ kg = n + 1 ∧ x = .int .u64 X ∧ i = .int .u64 b ∧ b = 2 ^ n / 2 ∧ X < 68719476736 ∧ grG g n X = Z ∧ wr = w)
  case atStart => exact ⟨36, 0, 34359738368, Nat.le_refl _, rfl, rfl, rfl, by decide, by decide, hZ.out, rfl⟩
  case round =>
    obtain ⟨n, X, b, hn, hkg, rfl, rfl, hb, hX, hG, rfl⟩ := hrel
    replace hkg := Lib.hid hkg
    cases n with
    | zero =>
      obtain rfl : b = 0 := by simpa using hb
      have hG' : X = Z := hG
      clear hG hb
      replace hG' := Lib.hid hG'
      go_wp2_with (fail)
      go_returns
      exact ⟨by rw [← hG'.out]; rfl, rfl⟩
    | succ m =>
      have hb' : b = 2 ^ m := by rw [hb, Nat.pow_succ]; omega
      have hb0 : 0 < b := by rw [hb']; exact Nat.pow_pos (by decide)
      have hbl : b < 68719476736 := by rw [hb']; exact Nat.pow_lt_pow_right (m := m) (n := 36) (a := 2) (by decide) (by omega)
      have hgt : ((0 : Int) < b) = True := eq_true (by omega)
      have hor := u64_or_nat X b (by omega) (by omega)
      have hXo : X ||| b < 68719476736 := Nat.or_lt_two_pow (n := 36) hX hbl
      have hG' : grG g m (if g (X ||| b) then X ||| b else X) = Z := by rw [← hG, grG, hb']
      have R := hg.out (X ||| b) hXo
      have hb2 : b / 2 = 2 ^ m / 2 := by rw [hb']
      generalize X ||| b = Y at *
      obtain ⟨t, ht⟩ : ∃ t, g Y = t := ⟨_, rfl⟩
      rw [ht] at R hG'
      clear hb hG hb' ht
      replace hb2 := Lib.hid hb2
      replace hG' := Lib.hid hG'
      rcases hf with rfl | rfl
      · cases t
        · go_wp2_with ((with_reducible refine R.mono ?_); rintro e w3 ⟨rfl, rfl⟩)
          go_roundg (m + 1)
          case measure => go_light; rw [hkg.out]; omega
          case rel => go_light; exact ⟨m, X, b / 2, by omega, rfl, rfl, by go_num, hb2.out, hX, by simpa using hG'.out, rfl⟩
        · go_wp2_with ((with_reducible refine R.mono ?_); rintro e w3 ⟨rfl, rfl⟩)
          go_roundg (m + 1)
          case measure => go_light; rw [hkg.out]; omega
          case rel => go_light; exact ⟨m, Y, b / 2, by omega, rfl, rfl, by go_num, hb2.out, hXo, by simpa using hG'.out, rfl⟩
      · cases t
        · go_wp2_with ((with_reducible refine R.mono ?_); rintro e w3 ⟨rfl, rfl⟩)
          go_roundg (m + 1)
          case measure => go_light; rw [hkg.out]; omega
          case rel => go_light; exact ⟨m, X, b / 2, by omega, rfl, rfl, by go_num, hb2.out, hX, by simpa using hG'.out, rfl⟩
        · go_wp2_with ((with_reducible refine R.mono ?_); rintro e w3 ⟨rfl, rfl⟩)
          go_roundg (m + 1)
          case measure => go_light; rw [hkg.out]; omega
          case rel => go_light; exact ⟨m, Y, b / 2, by omega, rfl, rfl, by go_num, hb2.out, hXo, by simpa using hG'.out, rfl⟩
set_option maxHeartbeats 1000000 in
set_option maxRecDepth 100000 in
theorem cubeFn_calls (p x B : Nat) (hp : p < 4294967296) (hx : x < 68719476736) (w : World) (hc : w.cell? ⟨B, 0, none⟩ = some (.int .u64 p)) :
    Calls Try.prog 88 #[.int .u64 x, .pointer (some ⟨B, 0, none⟩)] w fun e w' => e = .returned (.bool (cuB p x)) ∧ w' = w := by
  have R := fun w => mul64_calls x x (by omega) (by omega) w
  have hxx : x * x < 4722366482869645213696 := by
    have := Nat.mul_lt_mul_of_lt_of_lt hx hx
    simpa using this
  obtain ⟨h, hh⟩ : ∃ h, x * x / 18446744073709551616 = h := ⟨_, rfl⟩
  obtain ⟨l, hl⟩ : ∃ l, x * x % 18446744073709551616 = l := ⟨_, rfl⟩
  have lh : h < 256 := by omega
  have ll : l < 18446744073709551616 := by omega
  have R2 := fun w => mul64_calls l x ll (by omega) w
  have hhx : h * x < 17592186044416 := by
    have := Nat.mul_lt_mul_of_lt_of_lt lh hx
    simpa using this
  have hlx : l * x / 18446744073709551616 < 68719476736 := by
    have : l * x < 18446744073709551616 * 68719476736 := Nat.mul_lt_mul_of_lt_of_lt ll hx
    exact Nat.div_lt_of_lt_mul this
  have e0 : x * x * x = (l * x / 18446744073709551616 + h * x) * 18446744073709551616 + l * x % 18446744073709551616 := by
    have e1 : x * x = h * 18446744073709551616 + l := by omega
    rw [e1, Nat.add_mul, Nat.add_mul, Nat.mul_right_comm]
    omega
  have e : cuB p x = (decide (l * x / 18446744073709551616 + h * x < p * 4294967296) || (decide (l * x / 18446744073709551616 + h * x = p * 4294967296) && decide (l * x % 18446744073709551616 = 0))) := by
    unfold cuB
    rw [e0]
    generalize l * x / 18446744073709551616 + h * x = y
    rw [Bool.eq_iff_iff]
    simp
    omega
  rw [e]
  rw [hh, hl] at R
  clear e e0 hh hl hxx
  have m1 : IntKind.u64.wrap ((h : Int) * x) = ((h * x : Nat) : Int) := by rw [← Int.natCast_mul]; simp only [IntKind.wrap, IntKind.signed, IntKind.bits]; simp; omega
  generalize h * x = hx' at *
  generalize l * x / 18446744073709551616 = h2 at *
  generalize l * x % 18446744073709551616 = l2 at *
  obtain ⟨y, hy⟩ : ∃ y, h2 + hx' = y := ⟨_, rfl⟩
  rw [hy]
  have m2 : IntKind.u64.wrap ((h2 : Int) + hx') = y := by simp [IntKind.wrap, IntKind.signed, IntKind.bits]; omega
  clear hy hhx hlx lh ll
  replace R := Lib.hid R
  replace R2 := Lib.hid R2
  by_cases h1 : y < p * 4294967296
  · have h1' : ((y : Int) < (p : Int) * 4294967296) = True := eq_true (by omega)
    rw [decide_eq_true h1, Bool.true_or]
    clear h1
    go_enter Try.func88, Try.ntmps88
    go_wp2_with (first | ((with_reducible refine (R.out _).mono ?_); rintro e w4 ⟨rfl, rfl⟩) | ((with_reducible refine (R2.out _).mono ?_); rintro e w4 ⟨rfl, rfl⟩))
    go_returns
    exact ⟨rfl, rfl⟩
  · have h1' : ((y : Int) < (p : Int) * 4294967296) = False := eq_false (by omega)
    have h1n : ((p : Int) * 4294967296 ≤ y) = True := eq_true (by omega)
    rw [decide_eq_false h1, Bool.false_or]
    by_cases h2 : y = p * 4294967296
    · have h2' : ((y : Int) = (p : Int) * 4294967296) = True := eq_true (by omega)
      rw [decide_eq_true h2, Bool.true_and]
      clear h2
      clear h1
      by_cases h3 : l2 = 0
      · subst h3
        go_enter Try.func88, Try.ntmps88
        go_wp2_with (first | ((with_reducible refine (R.out _).mono ?_); rintro e w4 ⟨rfl, rfl⟩) | ((with_reducible refine (R2.out _).mono ?_); rintro e w4 ⟨rfl, rfl⟩))
        go_returns
        exact ⟨by simp [h2'], rfl⟩
      · have h3' : ((l2 : Int) = 0) = False := eq_false (by omega)
        rw [decide_eq_false h3]
        go_enter Try.func88, Try.ntmps88
        go_wp2_with (first | ((with_reducible refine (R.out _).mono ?_); rintro e w4 ⟨rfl, rfl⟩) | ((with_reducible refine (R2.out _).mono ?_); rintro e w4 ⟨rfl, rfl⟩))
        go_returns
        exact ⟨by simp [h3], rfl⟩
    · have h2' : ((y : Int) = (p : Int) * 4294967296) = False := eq_false (by omega)
      rw [decide_eq_false h2, Bool.false_and]
      clear h1
      go_enter Try.func88, Try.ntmps88
      go_wp2_with (first | ((with_reducible refine (R.out _).mono ?_); rintro e w4 ⟨rfl, rfl⟩) | ((with_reducible refine (R2.out _).mono ?_); rintro e w4 ⟨rfl, rfl⟩))
      go_returns
      exact ⟨by simp [h2], rfl⟩
def sqN (p : Nat) : Nat := grG (sqB p) 36 0 % 4294967296
def cuN (p : Nat) : Nat := grG (cuB p) 36 0 % 4294967296
set_option maxRecDepth 100000 in
theorem square_calls (p : Nat) (hp : p < 4294967296) (w : World) : Calls Try.prog 54 #[.int .u64 p] w fun e w' => e = .returned (.int .u32 ((sqN p : Nat) : Int)) ∧ Below w.heap.size w w' := by
  have hc := (Whole.new w 105 #[.int .u64 (p : Int)]).cell 0
  have R := greatest_calls (sqB p) 90 (.inl rfl) w.heap.size (w.alloc (.cells #[.int .u64 (p : Int)] 105)) (fun x hx => squareFn_calls p x w.heap.size hp hx _ hc)
  have hB : Below w.heap.size w (w.alloc (.cells #[.int .u64 (p : Int)] 105)) := by go_grown
  replace hc := Lib.hid hc
  unfold sqN
  generalize grG (sqB p) 36 0 = z at *
  go_enter Try.func54, Try.ntmps54
  go_wp2_with ((with_reducible refine R.mono ?_); rintro e w4 ⟨rfl, rfl⟩)
  go_returns
  go_light
  exact ⟨by simp [IntKind.wrap, IntKind.signed, IntKind.bits], hB⟩
set_option maxRecDepth 100000 in
theorem cube_calls (p : Nat) (hp : p < 4294967296) (w : World) : Calls Try.prog 53 #[.int .u64 p] w fun e w' => e = .returned (.int .u32 ((cuN p : Nat) : Int)) ∧ Below w.heap.size w w' := by
  have hc := (Whole.new w 105 #[.int .u64 (p : Int)]).cell 0
  have R := greatest_calls (cuB p) 88 (.inr rfl) w.heap.size (w.alloc (.cells #[.int .u64 (p : Int)] 105)) (fun x hx => cubeFn_calls p x w.heap.size hp hx _ hc)
  have hB : Below w.heap.size w (w.alloc (.cells #[.int .u64 (p : Int)] 105)) := by go_grown
  replace hc := Lib.hid hc
  unfold cuN
  generalize grG (cuB p) 36 0 = z at *
  go_enter Try.func53, Try.ntmps53
  go_wp2_with ((with_reducible refine R.mono ?_); rintro e w4 ⟨rfl, rfl⟩)
  go_returns
  go_light
  exact ⟨by simp [IntKind.wrap, IntKind.signed, IntKind.bits], hB⟩
end Go.Proofs.Ytknjbkbbhgjnlaa
