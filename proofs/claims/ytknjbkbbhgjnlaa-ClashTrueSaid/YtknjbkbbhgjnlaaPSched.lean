/- The program's schedule: a block's words. Conditions: 64 bytes. -/
import Derived.Test.YtknjbkbbhgjnlaaPSha1
import Derived.Test.YtknjbkbbhgjnlaaShaR3
namespace Go.Proofs.Ytknjbkbbhgjnlaa
open Go.RowKit
set_option linter.unusedVariables false
set_option linter.unusedSimpArgs false
theorem bytesN_get (s : ByteArray) {j : Nat} (hj : j < s.size) : ((bytesN s).getD j 0 : Nat) = (s.get j hj).toNat := by
  unfold bytesN
  rw [List.getD_eq_getElem?_getD, List.getElem?_map, List.getElem?_eq_getElem (by simpa using hj)]
  rfl
theorem filled_all (b : List Nat) : filled b 64 = words b 64 := by
  unfold filled
  rw [Nat.sub_self, List.replicate_zero, List.append_nil]
/-- The two blocks of a call. -/
theorem sched_blocks (w : World) : ∃ W, W = (w.alloc (.cells #[.int .u32 0, .int .u32 0, .int .u32 0, .int .u32 0, .int .u32 0, .int .u32 0, .int .u32 0, .int .u32 0, .int .u32 0, .int .u32 0, .int .u32 0, .int .u32 0, .int .u32 0, .int .u32 0, .int .u32 0, .int .u32 0, .int .u32 0, .int .u32 0, .int .u32 0, .int .u32 0, .int .u32 0, .int .u32 0, .int .u32 0, .int .u32 0, .int .u32 0, .int .u32 0, .int .u32 0, .int .u32 0, .int .u32 0, .int .u32 0, .int .u32 0, .int .u32 0, .int .u32 0, .int .u32 0, .int .u32 0, .int .u32 0, .int .u32 0, .int .u32 0, .int .u32 0, .int .u32 0, .int .u32 0, .int .u32 0, .int .u32 0, .int .u32 0, .int .u32 0, .int .u32 0, .int .u32 0, .int .u32 0, .int .u32 0, .int .u32 0, .int .u32 0, .int .u32 0, .int .u32 0, .int .u32 0, .int .u32 0, .int .u32 0, .int .u32 0, .int .u32 0, .int .u32 0, .int .u32 0, .int .u32 0, .int .u32 0, .int .u32 0, .int .u32 0] 26)).alloc (.cells #[.int .u32 0, .int .u32 0, .int .u32 0, .int .u32 0, .int .u32 0, .int .u32 0, .int .u32 0, .int .u32 0, .int .u32 0, .int .u32 0, .int .u32 0, .int .u32 0, .int .u32 0, .int .u32 0, .int .u32 0, .int .u32 0, .int .u32 0, .int .u32 0, .int .u32 0, .int .u32 0, .int .u32 0, .int .u32 0, .int .u32 0, .int .u32 0, .int .u32 0, .int .u32 0, .int .u32 0, .int .u32 0, .int .u32 0, .int .u32 0, .int .u32 0, .int .u32 0, .int .u32 0, .int .u32 0, .int .u32 0, .int .u32 0, .int .u32 0, .int .u32 0, .int .u32 0, .int .u32 0, .int .u32 0, .int .u32 0, .int .u32 0, .int .u32 0, .int .u32 0, .int .u32 0, .int .u32 0, .int .u32 0, .int .u32 0, .int .u32 0, .int .u32 0, .int .u32 0, .int .u32 0, .int .u32 0, .int .u32 0, .int .u32 0, .int .u32 0, .int .u32 0, .int .u32 0, .int .u32 0, .int .u32 0, .int .u32 0, .int .u32 0, .int .u32 0] 26) ∧ Whole W w.heap.size 26 #[.int .u32 0, .int .u32 0, .int .u32 0, .int .u32 0, .int .u32 0, .int .u32 0, .int .u32 0, .int .u32 0, .int .u32 0, .int .u32 0, .int .u32 0, .int .u32 0, .int .u32 0, .int .u32 0, .int .u32 0, .int .u32 0, .int .u32 0, .int .u32 0, .int .u32 0, .int .u32 0, .int .u32 0, .int .u32 0, .int .u32 0, .int .u32 0, .int .u32 0, .int .u32 0, .int .u32 0, .int .u32 0, .int .u32 0, .int .u32 0, .int .u32 0, .int .u32 0, .int .u32 0, .int .u32 0, .int .u32 0, .int .u32 0, .int .u32 0, .int .u32 0, .int .u32 0, .int .u32 0, .int .u32 0, .int .u32 0, .int .u32 0, .int .u32 0, .int .u32 0, .int .u32 0, .int .u32 0, .int .u32 0, .int .u32 0, .int .u32 0, .int .u32 0, .int .u32 0, .int .u32 0, .int .u32 0, .int .u32 0, .int .u32 0, .int .u32 0, .int .u32 0, .int .u32 0, .int .u32 0, .int .u32 0, .int .u32 0, .int .u32 0, .int .u32 0] ∧ Whole W (w.heap.size + 1) 26 #[.int .u32 0, .int .u32 0, .int .u32 0, .int .u32 0, .int .u32 0, .int .u32 0, .int .u32 0, .int .u32 0, .int .u32 0, .int .u32 0, .int .u32 0, .int .u32 0, .int .u32 0, .int .u32 0, .int .u32 0, .int .u32 0, .int .u32 0, .int .u32 0, .int .u32 0, .int .u32 0, .int .u32 0, .int .u32 0, .int .u32 0, .int .u32 0, .int .u32 0, .int .u32 0, .int .u32 0, .int .u32 0, .int .u32 0, .int .u32 0, .int .u32 0, .int .u32 0, .int .u32 0, .int .u32 0, .int .u32 0, .int .u32 0, .int .u32 0, .int .u32 0, .int .u32 0, .int .u32 0, .int .u32 0, .int .u32 0, .int .u32 0, .int .u32 0, .int .u32 0, .int .u32 0, .int .u32 0, .int .u32 0, .int .u32 0, .int .u32 0, .int .u32 0, .int .u32 0, .int .u32 0, .int .u32 0, .int .u32 0, .int .u32 0, .int .u32 0, .int .u32 0, .int .u32 0, .int .u32 0, .int .u32 0, .int .u32 0, .int .u32 0, .int .u32 0] ∧ Below w.heap.size w W ∧ W.heap.size = w.heap.size + 2 :=
  ⟨_, rfl, (Whole.new w _ _).alloc _, Whole.new1 w _ _ _, ((Below.refl _ _).alloc (Nat.le_refl _) _).alloc (by simp) _, by simp⟩
set_option maxHeartbeats 2000000 in
set_option maxRecDepth 100000 in
theorem sched_calls (s : ByteArray) (hs : s.size = 64) (w : World) :
    Calls Try.prog 120 #[.string s] w fun e w' => e = .returned (.agg (arr .u32 (words (bytesN s) 64))) ∧ Below w.heap.size w w' := by
  obtain ⟨W, hW, h2, h3, hB, hsz⟩ := sched_blocks w
  have hg0 : W.grownBy W (some (w.heap.size + 1)) := only_same _ _
  obtain ⟨b, hb⟩ : ∃ b, bytesN s = b := ⟨_, rfl⟩
  have hb8 : ∀ x ∈ b, x < 256 := by rw [← hb]; exact bytesN_lt s
  rw [hb]
  go_enter Try.func120, Try.ntmps120
  go_upto_region 2 with (fail)
  rw [← hW]
  clear hW
  generalize hG : w.heap.size = G at *
  replace h3 : Whole W (G + 1) 26 (arr .u32 (filled b 0)) := h3
  go_wp2_with (fail)
  go_loopg [8] 17 (fun kg i wr => ∃ (k : Nat), k ≤ 16 ∧ kg = 17 - k ∧ i = .int .i64 k ∧ Whole wr (G + 1) 26 (arr .u32 (filled b k)) ∧ W.grownBy wr (some (G + 1)))
  case atStart => exact ⟨0, by decide, rfl, rfl, h3, hg0⟩
  case round =>
    clear h3 hg0
    obtain ⟨k, hk, hkg, rfl, h3, hg⟩ := hrel
    replace hkg := Lib.hid hkg
    by_cases hlt : k < 16
    · have hnext := filled_next b (k := k) (by omega)
      rw [if_pos hlt] at hnext
      replace hnext := Lib.hid hnext
      have e0 : wr.drew.cell? ⟨G + 1, k, none⟩ = some (.int .u32 (((filled b k).getD k 0 : Nat) : Int)) := arr_cell h3.drew (i := k) (by rw [filled_length b (by omega)]; omega)
      have f0 := h3.drew.frozen k
      have q2 : IntKind.i64.wrap (4 * (k : Int)) = 4 * k := by simp [IntKind.wrap, IntKind.signed, IntKind.bits]; omega
      have q31 : IntKind.i64.wrap (4 * (k : Int) + 1) = 4 * k + 1 := by simp [IntKind.wrap, IntKind.signed, IntKind.bits]; omega
      have q32 : IntKind.i64.wrap (4 * (k : Int) + 2) = 4 * k + 2 := by simp [IntKind.wrap, IntKind.signed, IntKind.bits]; omega
      have q33 : IntKind.i64.wrap (4 * (k : Int) + 3) = 4 * k + 3 := by simp [IntKind.wrap, IntKind.signed, IntKind.bits]; omega
      have q9 : ((k : Int) < 64) = True := eq_true (by omega)
      have n0 : (4 * (k : Int) < 64) = True := eq_true (by omega)
      have n1 : (4 * (k : Int) + 1 < 64) = True := eq_true (by omega)
      have n2 : (4 * (k : Int) + 2 < 64) = True := eq_true (by omega)
      have n3 : (4 * (k : Int) + 3 < 64) = True := eq_true (by omega)
      have o0 : (0 ≤ 4 * (k : Int)) = True := eq_true (by omega)
      have o1 : (0 ≤ 4 * (k : Int) + 1) = True := eq_true (by omega)
      have o2 : (0 ≤ 4 * (k : Int) + 2) = True := eq_true (by omega)
      have o3 : (0 ≤ 4 * (k : Int) + 3) = True := eq_true (by omega)
      have t0 : (4 * (k : Int)).toNat = 4 * k := by omega
      have t1 : (4 * (k : Int) + 1).toNat = 4 * k + 1 := by omega
      have t2 : (4 * (k : Int) + 2).toNat = 4 * k + 2 := by omega
      have t3 : (4 * (k : Int) + 3).toNat = 4 * k + 3 := by omega
      have hd : ∀ j (hj : j < s.size), (s[j]'hj).toNat = b.getD j 0 := fun j hj => by rw [← hb, bytesN_get s hj]; rfl
      have d0 := hd (4 * k) (by omega)
      have d1 := hd (4 * k + 1) (by omega)
      have d2 := hd (4 * k + 2) (by omega)
      have d3 := hd (4 * k + 3) (by omega)
      have y0 : b.getD (4 * k) 0 < 256 := getD_lt (by decide) hb8 _
      have y1 : b.getD (4 * k + 1) 0 < 256 := getD_lt (by decide) hb8 _
      have y2 : b.getD (4 * k + 2) 0 < 256 := getD_lt (by decide) hb8 _
      have y3 : b.getD (4 * k + 3) 0 < 256 := getD_lt (by decide) hb8 _
      unfold byteWord at hnext
      generalize b.getD (4 * k) 0 = x0 at *
      generalize b.getD (4 * k + 1) 0 = x1 at *
      generalize b.getD (4 * k + 2) 0 = x2 at *
      generalize b.getD (4 * k + 3) 0 = x3 at *
      clear hd
      have z0 : IntKind.u32.wrap (x0 : Int) = x0 := by simp [IntKind.wrap, IntKind.signed, IntKind.bits]; omega
      have z1 : IntKind.u32.wrap (x1 : Int) = x1 := by simp [IntKind.wrap, IntKind.signed, IntKind.bits]; omega
      have z2 : IntKind.u32.wrap (x2 : Int) = x2 := by simp [IntKind.wrap, IntKind.signed, IntKind.bits]; omega
      have z3 : IntKind.u32.wrap (x3 : Int) = x3 := by simp [IntKind.wrap, IntKind.signed, IntKind.bits]; omega
      obtain ⟨g0, eg0⟩ : ∃ g, x0 * 16777216 = g := ⟨_, rfl⟩
      obtain ⟨g1, eg1⟩ : ∃ g, x1 * 65536 = g := ⟨_, rfl⟩
      obtain ⟨g2, eg2⟩ : ∃ g, x2 * 256 = g := ⟨_, rfl⟩
      obtain ⟨z, ez⟩ : ∃ z, g0 + g1 + g2 + x3 = z := ⟨_, rfl⟩
      have m0 : IntKind.u32.wrap ((x0 : Int) * 16777216) = g0 := by simp [IntKind.wrap, IntKind.signed, IntKind.bits]; omega
      have m1 : IntKind.u32.wrap ((x1 : Int) * 65536) = g1 := by simp [IntKind.wrap, IntKind.signed, IntKind.bits]; omega
      have m2 : IntKind.u32.wrap ((x2 : Int) * 256) = g2 := by simp [IntKind.wrap, IntKind.signed, IntKind.bits]; omega
      obtain ⟨g01, eg01⟩ : ∃ g, g0 + g1 = g := ⟨_, rfl⟩
      obtain ⟨g012, eg012⟩ : ∃ g, g01 + g2 = g := ⟨_, rfl⟩
      have k1 : bits .or .u32 (g0 : Int) (g1 : Int) = (g01 : Int) := by
        rw [u32_or_nat g0 g1 (by omega) (by omega), nat_join 24 g0 g1 (by omega) (by omega), eg01]
      have k2 : bits .or .u32 (g01 : Int) (g2 : Int) = (g012 : Int) := by
        rw [u32_or_nat g01 g2 (by omega) (by omega), nat_join 16 g01 g2 (by omega) (by omega), eg012]
      have k3 : bits .or .u32 (g012 : Int) (x3 : Int) = (z : Int) := by
        rw [u32_or_nat g012 x3 (by omega) (by omega), nat_join 8 g012 x3 (by omega) (by omega)]
        omega
      have ehz : ((x0 * 256 + x1) * 256 + x2) * 256 + x3 = z := by omega
      rw [ehz] at hnext
      replace hnext := Lib.hid hnext
      have h3n := arr_put h3.drew k z
      have hgn := only_put (only_drew hg) (p := ⟨G + 1, k, none⟩) (.inl rfl) (.int .u32 (z : Int))
      generalize (filled b k).getD k 0 = old at e0
      clear eg0 eg1 eg2 ez eg01 eg012 ehz y0 y1 y2 y3
      go_upto_region 5 with (fail)
      go_still_tail 31, (by kernel_rfl)
      change wpList _ _ _ _ _ wr.drew
      go_wp2
      go_roundg (16 - k)
      case measure => go_light; rw [hkg.out]; omega
      case rel => go_light; exact ⟨k + 1, by omega, by omega, by go_num, by rw [hnext.out]; exact h3n, hgn⟩
    · obtain rfl : k = 16 := by omega
      clear hkg
      go_wp2_with (fail)
      go_loopg [5] 49 (fun kg i wr => ∃ (k : Nat), 16 ≤ k ∧ k ≤ 64 ∧ kg = 65 - k ∧ i = .int .i64 k ∧ Whole wr (G + 1) 26 (arr .u32 (filled b k)) ∧ W.grownBy wr (some (G + 1)))
      case atStart => exact ⟨16, by decide, by decide, rfl, rfl, h3, hg⟩
      case round =>
        clear h3 hg
        obtain ⟨k, h16, hk, hkg, rfl, h3, hg⟩ := hrel
        replace hkg := Lib.hid hkg
        by_cases hlt : k < 64
        · have hnext := filled_next b hlt
          rw [if_neg (by omega)] at hnext
          have hwl := words_lt hb8 k
          have hget : ∀ d, d < k → k ≤ 64 → wr.cell? ⟨G + 1, d, none⟩ = some (.int .u32 (((words b k).getD d 0 : Nat) : Int)) := fun d hd hk => by
            have := arr_cell h3 (i := d) (by rw [filled_length b hk]; omega)
            rw [filled_getD b hd] at this
            exact this
          have c15 := hget (k - 15) (by omega) hk
          have c2 := hget (k - 2) (by omega) hk
          have c16 := hget (k - 16) (by omega) hk
          have c7 := hget (k - 7) (by omega) hk
          have l15 : (words b k).getD (k - 15) 0 < 4294967296 := getD_lt (by decide) hwl _
          have l2 : (words b k).getD (k - 2) 0 < 4294967296 := getD_lt (by decide) hwl _
          have l16 : (words b k).getD (k - 16) 0 < 4294967296 := getD_lt (by decide) hwl _
          have l7 : (words b k).getD (k - 7) 0 < 4294967296 := getD_lt (by decide) hwl _
          unfold nextWord at hnext
          generalize (words b k).getD (k - 15) 0 = x15 at *
          generalize (words b k).getD (k - 2) 0 = x2 at *
          generalize (words b k).getD (k - 16) 0 = x16 at *
          generalize (words b k).getD (k - 7) 0 = x7 at *
          clear hget hwl
          have R7 := fun w => turn_calls x15 7 l15 (by decide) (by decide) w
          have R18 := fun w => turn_calls x15 18 l15 (by decide) (by decide) w
          have R17 := fun w => turn_calls x2 17 l2 (by decide) (by decide) w
          have R19 := fun w => turn_calls x2 19 l2 (by decide) (by decide) w
          have m7 := rr_lt 7 x15
          have m18 := rr_lt 18 x15
          have m17 := rr_lt 17 x2
          have m19 := rr_lt 19 x2
          generalize rr 7 x15 = r7 at *
          generalize rr 18 x15 = r18 at *
          generalize rr 17 x2 = r17 at *
          generalize rr 19 x2 = r19 at *
          obtain ⟨d8, e8⟩ : ∃ d8, x15 / 8 = d8 := ⟨_, rfl⟩
          obtain ⟨d10, e10⟩ : ∃ d10, x2 / 1024 = d10 := ⟨_, rfl⟩
          have n8 : d8 < 4294967296 := by omega
          have n10 : d10 < 4294967296 := by omega
          have t8 : (x15 : Int) / 8 = d8 := by omega
          have t10 : (x2 : Int) / 1024 = d10 := by omega
          rw [e8, e10] at hnext
          have xx : ∀ a b : Nat, a < 4294967296 → b < 4294967296 → a ^^^ b < 4294967296 := fun a b ha hb => Nat.xor_lt_two_pow (n := 32) ha hb
          have b1 := u32_xor_nat r7 r18 (by omega) (by omega)
          have b2 := u32_xor_nat r17 r19 (by omega) (by omega)
          have n1 := xx r7 r18 m7 m18
          have n2 := xx r17 r19 m17 m19
          generalize r7 ^^^ r18 = y1 at *
          generalize r17 ^^^ r19 = y2 at *
          have b3 := u32_xor_nat y1 d8 (by omega) (by omega)
          have b4 := u32_xor_nat y2 d10 (by omega) (by omega)
          have n3 := xx y1 d8 n1 n8
          have n4 := xx y2 d10 n2 n10
          generalize y1 ^^^ d8 = y3 at *
          generalize y2 ^^^ d10 = y4 at *
          clear xx
          replace hnext := Lib.hid hnext
          replace R7 := Lib.hid R7
          replace R18 := Lib.hid R18
          replace R17 := Lib.hid R17
          replace R19 := Lib.hid R19
          have g15 : IntKind.i64.wrap ((k : Int) - 15) = k - 15 := by simp [IntKind.wrap, IntKind.signed, IntKind.bits]; omega
          have g2 : IntKind.i64.wrap ((k : Int) - 2) = k - 2 := by simp [IntKind.wrap, IntKind.signed, IntKind.bits]; omega
          have g16 : IntKind.i64.wrap ((k : Int) - 16) = k - 16 := by simp [IntKind.wrap, IntKind.signed, IntKind.bits]; omega
          have g7 : IntKind.i64.wrap ((k : Int) - 7) = k - 7 := by simp [IntKind.wrap, IntKind.signed, IntKind.bits]; omega
          have j15 : ((k : Int) - 15).toNat = k - 15 := by omega
          have j2 : ((k : Int) - 2).toNat = k - 2 := by omega
          have j16 : ((k : Int) - 16).toNat = k - 16 := by omega
          have j7 : ((k : Int) - 7).toNat = k - 7 := by omega
          have i15 : ((k : Int) - 15 < 64) = True := eq_true (by omega)
          have i2 : ((k : Int) - 2 < 64) = True := eq_true (by omega)
          have i16 : ((k : Int) - 16 < 64) = True := eq_true (by omega)
          have i7 : ((k : Int) - 7 < 64) = True := eq_true (by omega)
          have o15 : ((0 : Int) ≤ (k : Int) - 15) = True := eq_true (by omega)
          have o2 : ((0 : Int) ≤ (k : Int) - 2) = True := eq_true (by omega)
          have o16 : ((0 : Int) ≤ (k : Int) - 16) = True := eq_true (by omega)
          have o7 : ((0 : Int) ≤ (k : Int) - 7) = True := eq_true (by omega)
          have q9 : ((k : Int) < 64) = True := eq_true (by omega)
          have r16 : ((16 : Int) ≤ k) = True := eq_true (by omega)
          have r15 : ((15 : Int) ≤ k) = True := eq_true (by omega)
          have r2' : ((2 : Int) ≤ k) = True := eq_true (by omega)
          have r7' : ((7 : Int) ≤ k) = True := eq_true (by omega)
          go_upto_region 10 with (fail)
          go_quiet (fail)
          go_upto_region 11 with (fail)
          have h3q := (h3.drewN nq).drew
          have hgq := only_drew (only_drewN hg nq)
          have z16 : (wr.drewN nq).drew.cell? ⟨G + 1, k - 16, none⟩ = some (.int .u32 (x16 : Int)) := c16
          have z7 : (wr.drewN nq).drew.cell? ⟨G + 1, k - 7, none⟩ = some (.int .u32 (x7 : Int)) := c7
          clear h3 hg c16 c7 c15 c2
          generalize wr.drewN nq = W2 at *
          have f0 := h3q.frozen k
          have e0 : W2.drew.cell? ⟨G + 1, k, none⟩ = some (.int .u32 (((filled b k).getD k 0 : Nat) : Int)) := arr_cell h3q (i := k) (by rw [filled_length b hk]; exact hlt)
          generalize (filled b k).getD k 0 = old at e0
          obtain ⟨p1, ep1⟩ : ∃ p, (x16 + x7) % 4294967296 = p := ⟨_, rfl⟩
          obtain ⟨p2, ep2⟩ : ∃ p, (p1 + y3) % 4294967296 = p := ⟨_, rfl⟩
          obtain ⟨z, ez⟩ : ∃ z, (x16 + x7 + y3 + y4) % 4294967296 = z := ⟨_, rfl⟩
          have u1 : IntKind.u32.wrap ((x16 : Int) + x7) = p1 := by simp [IntKind.wrap, IntKind.signed, IntKind.bits]; omega
          have u2 : IntKind.u32.wrap ((p1 : Int) + y3) = p2 := by simp [IntKind.wrap, IntKind.signed, IntKind.bits]; omega
          have u3 : IntKind.u32.wrap ((p2 : Int) + y4) = z := by simp [IntKind.wrap, IntKind.signed, IntKind.bits]; omega
          have h3n := arr_put h3q k z
          have hgn := only_put hgq (p := ⟨G + 1, k, none⟩) (.inl rfl) (.int .u32 (z : Int))
          clear ep1 ep2
          refine wp_region_still_tail 29 (by kernel_rfl) (by kernel_rfl) ?_
          simp only [List.take_succ_cons, List.take_zero, List.drop_succ_cons, List.drop_zero]
          repeat still_step
          still_call (R7.out _)
          repeat still_step
          still_call (R18.out _)
          repeat still_step
          still_call (R17.out _)
          repeat still_step
          still_call (R19.out _)
          repeat still_step
          refine wpStill_nil ?_
          change wpList _ _ _ _ _ W2.drew
          go_wp2
          go_roundg (64 - k)
          case measure => go_light; rw [hkg.out]; omega
          case rel => go_light; exact ⟨k + 1, by omega, by omega, by omega, by go_num, by rw [hnext.out, ez]; exact h3n, hgn⟩
        · obtain rfl : k = 64 := by omega
          have hfin := filled_all b
          have hlen : (arr .u32 (words b 64)).size = 64 := by rw [arr_size, words_length]
          obtain ⟨ww, hww⟩ : ∃ ww, words b 64 = ww := ⟨_, rfl⟩
          rw [hww] at hfin hlen
          rw [hfin] at h3
          have hall := arr_one .u32 ww
          have h2' := h2.only hg (by simp)
          have hBn := below_only hB (by omega) hg (by omega)
          have hinf : (Try.prog.info? 26).map (·.size) = some 64 := by kernel_rfl
          have hinf2 : (Try.prog.info? 26).map (·.size) = some (arr .u32 ww).size := by rw [hlen]; exact hinf
          generalize hawe : arr .u32 ww = aw at *
          clear hkg hfin
          replace hww := Lib.hid hww
          go_wp2_with (first | ((with_reducible apply wl_loadW (ty := 26) h3 Try.underlying26); rfl; rfl; rfl; exact hinf2) | ((with_reducible apply wl_storeW (ty := 26) h2'); rfl; rfl; rfl; exact hinf; exact hlen; exact hall; intro w5 hs5 hg5 hz5))
          refine bodyPost_ret (results_cell_row rfl _ _ _ _ _ _ _ (by rfl) hs5 Try.underlying26 rfl hinf2) rfl ?_
          go_light
          rw [hww.out, hawe, hG]
          exact ⟨rfl, below_only hBn (by have := hg.size; omega) hg5 (by omega)⟩
end Go.Proofs.Ytknjbkbbhgjnlaa
