/- The program's step: a block put into the state. Conditions: 64 bytes; the table's numbers are there. -/
import Derived.Test.YtknjbkbbhgjnlaaPSched
namespace Go.Proofs.Ytknjbkbbhgjnlaa
open Go.RowKit
set_option linter.unusedVariables false
set_option linter.unusedSimpArgs false
theorem maj_xor (a b c : Nat) : (a &&& b) ^^^ (a &&& c) ^^^ (b &&& c) = majN a b c := by
  unfold majN
  apply Nat.eq_of_testBit_eq
  intro i
  simp only [Nat.testBit_xor, Nat.testBit_and, Nat.testBit_or]
  cases a.testBit i <;> cases b.testBit i <;> cases c.testBit i <;> rfl
/-- A table's 64 numbers, at the head of a block. -/
def TabAt (W : World) (D : Nat) (K : List Nat) : Prop := D < W.heap.size ∧ ∀ j, j < 64 → W.cell? ⟨D, j, none⟩ = some (.int .u32 ((K.getD j 0 : Nat) : Int))
theorem TabAt.below {W W' : World} {D : Nat} {K : List Nat} (h : TabAt W D K) (hb : Below W.heap.size W W') : TabAt W' D K :=
  ⟨Nat.lt_of_lt_of_le h.1 hb.size, fun j hj => cell_keep (h.2 j hj) hb⟩
theorem TabAt.only {W W' : World} {D g : Nat} {K : List Nat} (h : TabAt W D K) (hg : W.grownBy W' (some g)) (hne : D ≠ g) : TabAt W' D K :=
  ⟨Nat.lt_of_lt_of_le h.1 hg.size, fun j hj => cell_only (h.2 j hj) hg (by simpa using hne)⟩
theorem not_xor (x : Nat) (hx : x < 4294967296) : 4294967295 ^^^ x = 4294967295 - x := by
  have h := congrArg BitVec.toNat (BitVec.allOnes_xor (x := BitVec.ofNat 32 x))
  rw [BitVec.toNat_xor, BitVec.toNat_not, BitVec.toNat_ofNat, BitVec.toNat_allOnes, Nat.mod_eq_of_lt (by simpa using hx)] at h
  simpa using h
theorem run_index_arr {P : Program} {t e : TypeId} {n : Nat} {i : TypeInfo} {d : TypeDesc} (ht : P.underlying t = some (.array n e)) (hd : P.underlying e = some d) (hdd : (match d with | .struct _ | .array _ _ => true | _ => false) = false) (hi : P.info? e = some i) (h1 : i.size = 1)
    (cs : Array Value) (k : IntKind) (j : Nat) (hj : j < n) (v : Value) (hv : cs[j]? = some v) (w : World) : (Instr.index t (.agg cs) (.int k (j : Int))).run P w = .ok v w := by
  have hq : (0 : Int) ≤ (j : Int) ∧ (j : Int) < n := ⟨by omega, by omega⟩
  have ha : (isAgg e).run P w = .ok false w := by
    unfold isAgg
    simp only [Sem.run_bind, run_underlying hd, Result.andThen_ok]
    cases d <;> first | rfl | (simp at hdd)
  have hs : (sizeOf e).run P w = .ok 1 w := by
    unfold sizeOf
    simp [Sem.run_bind, run_typeInfo w hi, h1]
  unfold Instr.index
  simp only [asIntOf, Sem.run_bind, Sem.run_pure, Result.andThen_ok, run_underlying ht]
  rw [if_pos hq]
  simp only [Sem.run_bind, hs, Result.andThen_ok, Nat.mul_one, Int.toNat_natCast]
  unfold part
  simp [Sem.run_bind, ha, hv]
theorem step_blocks (w : World) (v : V8) : ∃ W, W = (w.alloc (.cells #[.int .u32 v.a, .int .u32 v.b, .int .u32 v.c, .int .u32 v.d, .int .u32 v.e, .int .u32 v.f, .int .u32 v.g, .int .u32 v.h] 27)).alloc (.cells #[.int .u32 0, .int .u32 0, .int .u32 0, .int .u32 0, .int .u32 0, .int .u32 0, .int .u32 0, .int .u32 0] 27) ∧ Whole W w.heap.size 27 #[.int .u32 v.a, .int .u32 v.b, .int .u32 v.c, .int .u32 v.d, .int .u32 v.e, .int .u32 v.f, .int .u32 v.g, .int .u32 v.h] ∧ Whole W (w.heap.size + 1) 27 #[.int .u32 0, .int .u32 0, .int .u32 0, .int .u32 0, .int .u32 0, .int .u32 0, .int .u32 0, .int .u32 0] ∧ Below w.heap.size w W ∧ W.heap.size = w.heap.size + 2 :=
  ⟨_, rfl, (Whole.new w _ _).alloc _, Whole.new1 w _ _ _, ((Below.refl _ _).alloc (Nat.le_refl _) _).alloc (by simp) _, by simp⟩
set_option maxHeartbeats 2000000 in
set_option maxRecDepth 100000 in
theorem step_calls (K : List Nat) (v : V8) (hK : K.length = 64) (hK32 : ∀ x ∈ K, x < 4294967296) (hv : v.ok) (s : ByteArray) (hs : s.size = 64) (D : Nat) (w : World) (ht : TabAt w D K) :
    Calls Try.prog 100 #[.pointer (some ⟨D, 0, none⟩), .agg #[.int .u32 v.a, .int .u32 v.b, .int .u32 v.c, .int .u32 v.d, .int .u32 v.e, .int .u32 v.f, .int .u32 v.g, .int .u32 v.h], .string s] w fun e w' => e = .returned (.agg (arr .u32 (blockN K (bytesN s) v).L)) ∧ Below w.heap.size w w' := by
  have SC := fun w => sched_calls s hs w
  have hl : (words (bytesN s) 64).length = 64 := words_length _ _
  have hl32 := words_lt (bytesN_lt s) 64
  unfold blockN
  generalize words (bytesN s) 64 = ww at *
  replace SC := Lib.hid SC
  obtain ⟨W, hW, h4, h6, hB, hsz⟩ := step_blocks w v
  have hDG := ht.1
  replace ht := ht.below hB
  clear hs
  go_enter Try.func100, Try.ntmps100
  go_upto_region 1 with (fail)
  rw [← hW]
  clear hW
  generalize hG : w.heap.size = G at *
  go_upto_region 2 with (first | (first | ((with_reducible apply wl_loadW (ty := 27) h4 Try.underlying27); rfl; rfl; rfl; kernel_rfl) | ((with_reducible apply wl_loadW (ty := 27) (h4.alloc _) Try.underlying27); rfl; rfl; rfl; kernel_rfl) | ((with_reducible apply wl_loadW (ty := 27) ((h4.alloc _).alloc _) Try.underlying27); rfl; rfl; rfl; kernel_rfl)) | fail)
  have h7 := Whole.new W 27 #[.int .u32 v.a, .int .u32 v.b, .int .u32 v.c, .int .u32 v.d, .int .u32 v.e, .int .u32 v.f, .int .u32 v.g, .int .u32 v.h]
  rw [hsz] at h7
  replace ht := ht.below ((Below.refl _ W).alloc (Nat.le_refl _) (.cells #[.int .u32 v.a, .int .u32 v.b, .int .u32 v.c, .int .u32 v.d, .int .u32 v.e, .int .u32 v.f, .int .u32 v.g, .int .u32 v.h] 27))
  replace h4 := h4.alloc (.cells #[.int .u32 v.a, .int .u32 v.b, .int .u32 v.c, .int .u32 v.d, .int .u32 v.e, .int .u32 v.f, .int .u32 v.g, .int .u32 v.h] 27)
  replace h6 := h6.alloc (.cells #[.int .u32 v.a, .int .u32 v.b, .int .u32 v.c, .int .u32 v.d, .int .u32 v.e, .int .u32 v.f, .int .u32 v.g, .int .u32 v.h] 27)
  replace hB := hB.alloc (by omega) (.cells #[.int .u32 v.a, .int .u32 v.b, .int .u32 v.c, .int .u32 v.d, .int .u32 v.e, .int .u32 v.f, .int .u32 v.g, .int .u32 v.h] 27)
  have hsz3 : G + 3 = (W.alloc (.cells #[.int .u32 v.a, .int .u32 v.b, .int .u32 v.c, .int .u32 v.d, .int .u32 v.e, .int .u32 v.f, .int .u32 v.g, .int .u32 v.h] 27)).heap.size := by simp [hsz]
  generalize W.alloc (.cells #[.int .u32 v.a, .int .u32 v.b, .int .u32 v.c, .int .u32 v.d, .int .u32 v.e, .int .u32 v.f, .int .u32 v.g, .int .u32 v.h] 27) = W2 at *
  clear hsz W
  go_wp2_with ((with_reducible refine (SC.out _).mono ?_); rintro e w3 ⟨rfl, hb3⟩; replace ht := ht.below hb3; replace h4 := h4.below hb3 h4.lt; replace h6 := h6.below hb3 h6.lt; replace h7 := h7.below hb3 h7.lt; replace hB := hB.trans (hb3.mono (by omega)); have hs3 := hb3.size)
  clear SC hb3
  replace hsz3 : G + 3 ≤ w3.heap.size := by omega
  clear hs3
  have hg0 : w3.grownBy w3 (some (G + 2)) := only_same _ _
  replace h7 : Whole w3 (G + 2) 27 (arr .u32 (rounds K ww v 0).L) := h7
  have info8u : (Try.prog.info? 27).map (·.size) = some 8 := by kernel_rfl
  go_loopg [18] 65 (fun kg i wr => ∃ (n : Nat), n ≤ 64 ∧ kg = 65 - n ∧ i = .int .i64 n ∧ Whole wr (G + 2) 27 (arr .u32 (rounds K ww v n).L) ∧ w3.grownBy wr (some (G + 2)))
  case atStart => exact ⟨0, by decide, rfl, rfl, h7, hg0⟩
  case round =>
    clear h7 hg0
    obtain ⟨n, hn, hkg, rfl, h7, hg⟩ := hrel
    replace hkg := Lib.hid hkg
    by_cases hlt : n < 64
    · have hnx : rounds K ww v (n + 1) = (rounds K ww v n).round (K.getD n 0) (ww.getD n 0) := rfl
      have hok := rounds_ok K ww hv n
      have kc : wr.cell? ⟨D, n, none⟩ = some (.int .u32 ((K.getD n 0 : Nat) : Int)) := (ht.only hg (by omega)).2 n hlt
      have kl : K.getD n 0 < 4294967296 := getD_lt (by decide) hK32 _
      have wl : ww.getD n 0 < 4294967296 := getD_lt (by decide) hl32 _
      obtain ⟨iu, hiu⟩ : ∃ i, Try.prog.info? 25 = some i ∧ i.size = 1 := by
        obtain ⟨i, h1, _, h3, _⟩ := info_parts (P := Try.prog) (e := 25) (z := .int .u32 0) (size := 1) (bytes := 4) (by kernel_rfl)
        exact ⟨i, h1, h3⟩
      have hidx : ∀ w, (Instr.index 26 (.agg (arr .u32 ww)) (.int .i64 (n : Int))).run Try.prog w = .ok (.int .u32 ((ww.getD n 0 : Nat) : Int)) w := fun w =>
        run_index_arr (n := 64) (e := 25) Try.underlying26 Try.underlying25 rfl hiu.1 hiu.2 _ _ n hlt _ (by simp [arr, show n < ww.length by omega]) w
      generalize ww.getD n 0 = wn at *
      generalize K.getD n 0 = kn at *
      generalize rounds K ww v n = u at *
      obtain ⟨ua, ub, uc, ud, ue, uf, ug, uh⟩ := u
      obtain ⟨la, lb, lc, ld, le, lf, lg, lh⟩ := hok
      simp only at la lb lc ld le lf lg lh
      simp only [V8.round, V8.t1, V8.t2, chN, ← maj_xor] at hnx
      have a0 : wr.cell? ⟨G + 2, 0, none⟩ = some (.int .u32 (ua : Int)) := h7.cell 0
      have a1 : wr.cell? ⟨G + 2, 1, none⟩ = some (.int .u32 (ub : Int)) := h7.cell 1
      have a2 : wr.cell? ⟨G + 2, 2, none⟩ = some (.int .u32 (uc : Int)) := h7.cell 2
      have a3 : wr.cell? ⟨G + 2, 3, none⟩ = some (.int .u32 (ud : Int)) := h7.cell 3
      have a4 : wr.cell? ⟨G + 2, 4, none⟩ = some (.int .u32 (ue : Int)) := h7.cell 4
      have a5 : wr.cell? ⟨G + 2, 5, none⟩ = some (.int .u32 (uf : Int)) := h7.cell 5
      have a6 : wr.cell? ⟨G + 2, 6, none⟩ = some (.int .u32 (ug : Int)) := h7.cell 6
      have a7 : wr.cell? ⟨G + 2, 7, none⟩ = some (.int .u32 (uh : Int)) := h7.cell 7
      have xx : ∀ x y : Nat, x < 4294967296 → y < 4294967296 → x ^^^ y < 4294967296 := fun x y hx hy => Nat.xor_lt_two_pow (n := 32) hx hy
      have nn : ∀ x y : Nat, x < 4294967296 → x &&& y < 4294967296 := fun x y hx => Nat.lt_of_le_of_lt Nat.and_le_left hx
      obtain ⟨m, em⟩ : ∃ m, 4294967295 - ue = m := ⟨_, rfl⟩
      have lm : m < 4294967296 := by omega
      have c0 : bits .xor .u32 (if IntKind.u32.signed = true then -1 else IntKind.u32.max) (ue : Int) = (m : Int) := by
        rw [show (if IntKind.u32.signed = true then (-1 : Int) else IntKind.u32.max) = ((4294967295 : Nat) : Int) from rfl, u32_xor_nat 4294967295 ue (by decide) le, not_xor ue le, em]
      have c1 := u32_and_nat ue uf (by omega) (by omega)
      have c2 := u32_and_nat m ug (by omega) (by omega)
      have d1 := nn ue uf le
      have d2 := nn m ug lm
      rw [em] at hnx
      generalize ue &&& uf = x1 at *
      generalize m &&& ug = x2 at *
      have c3 := u32_xor_nat x1 x2 (by omega) (by omega)
      have d3 := xx x1 x2 d1 d2
      generalize x1 ^^^ x2 = x3 at *
      have c4 := u32_and_nat ua ub (by omega) (by omega)
      have c5 := u32_and_nat ua uc (by omega) (by omega)
      have c6 := u32_and_nat ub uc (by omega) (by omega)
      have d4 := nn ua ub la
      have d5 := nn ua uc la
      have d6 := nn ub uc lb
      generalize ua &&& ub = y1 at *
      generalize ua &&& uc = y2 at *
      generalize ub &&& uc = y4 at *
      have c7 := u32_xor_nat y1 y2 (by omega) (by omega)
      have d7 := xx y1 y2 d4 d5
      generalize y1 ^^^ y2 = y3 at *
      have c8 := u32_xor_nat y3 y4 (by omega) (by omega)
      have d8 := xx y3 y4 d7 d6
      generalize y3 ^^^ y4 = y5 at *
      have R6 := fun w => turn_calls ue 6 le (by decide) (by decide) w
      have R11 := fun w => turn_calls ue 11 le (by decide) (by decide) w
      have R25 := fun w => turn_calls ue 25 le (by decide) (by decide) w
      have R2 := fun w => turn_calls ua 2 la (by decide) (by decide) w
      have R13 := fun w => turn_calls ua 13 la (by decide) (by decide) w
      have R22 := fun w => turn_calls ua 22 la (by decide) (by decide) w
      have m6 := rr_lt 6 ue
      have m11 := rr_lt 11 ue
      have m25 := rr_lt 25 ue
      have m2 := rr_lt 2 ua
      have m13 := rr_lt 13 ua
      have m22 := rr_lt 22 ua
      generalize rr 6 ue = r6 at *
      generalize rr 11 ue = r11 at *
      generalize rr 25 ue = r25 at *
      generalize rr 2 ua = r2 at *
      generalize rr 13 ua = r13 at *
      generalize rr 22 ua = r22 at *
      have c9 := u32_xor_nat r6 r11 (by omega) (by omega)
      have d9 := xx r6 r11 m6 m11
      generalize r6 ^^^ r11 = s1 at *
      have c10 := u32_xor_nat s1 r25 (by omega) (by omega)
      have d10 := xx s1 r25 d9 m25
      generalize s1 ^^^ r25 = s2 at *
      have c11 := u32_xor_nat r2 r13 (by omega) (by omega)
      have d11 := xx r2 r13 m2 m13
      generalize r2 ^^^ r13 = s3 at *
      have c12 := u32_xor_nat s3 r22 (by omega) (by omega)
      have d12 := xx s3 r22 d11 m22
      generalize s3 ^^^ r22 = s4 at *
      clear xx nn
      obtain ⟨p1, ep1⟩ : ∃ p, (uh + s2) % 4294967296 = p := ⟨_, rfl⟩
      obtain ⟨p2, ep2⟩ : ∃ p, (p1 + x3) % 4294967296 = p := ⟨_, rfl⟩
      obtain ⟨p3, ep3⟩ : ∃ p, (p2 + kn) % 4294967296 = p := ⟨_, rfl⟩
      obtain ⟨T1, eT1⟩ : ∃ p, (p3 + wn) % 4294967296 = p := ⟨_, rfl⟩
      obtain ⟨T2, eT2⟩ : ∃ p, (s4 + y5) % 4294967296 = p := ⟨_, rfl⟩
      obtain ⟨z0, ez0⟩ : ∃ p, (T1 + T2) % 4294967296 = p := ⟨_, rfl⟩
      obtain ⟨z4, ez4⟩ : ∃ p, (ud + T1) % 4294967296 = p := ⟨_, rfl⟩
      have w1 : IntKind.u32.wrap ((uh : Int) + s2) = p1 := by simp [IntKind.wrap, IntKind.signed, IntKind.bits]; omega
      have w2 : IntKind.u32.wrap ((p1 : Int) + x3) = p2 := by simp [IntKind.wrap, IntKind.signed, IntKind.bits]; omega
      have w3' : IntKind.u32.wrap ((p2 : Int) + kn) = p3 := by simp [IntKind.wrap, IntKind.signed, IntKind.bits]; omega
      have w4 : IntKind.u32.wrap ((p3 : Int) + wn) = T1 := by simp [IntKind.wrap, IntKind.signed, IntKind.bits]; omega
      have w5 : IntKind.u32.wrap ((s4 : Int) + y5) = T2 := by simp [IntKind.wrap, IntKind.signed, IntKind.bits]; omega
      have w6 : IntKind.u32.wrap ((T1 : Int) + T2) = z0 := by simp [IntKind.wrap, IntKind.signed, IntKind.bits]; omega
      have w7 : IntKind.u32.wrap ((ud : Int) + T1) = z4 := by simp [IntKind.wrap, IntKind.signed, IntKind.bits]; omega
      have e0 : (uh + s2 + x3 + kn + wn + (s4 + y5)) % 4294967296 = z0 := by omega
      have e4 : (ud + (uh + s2 + x3 + kn + wn)) % 4294967296 = z4 := by omega
      rw [e0, e4] at hnx
      clear e0 e4 ep1 ep2 ep3 eT1 eT2 ez0 ez4 em d1 d2 d3 d4 d5 d6 d7 d8 d9 d10 d11 d12 m6 m11 m25 m2 m13 m22 kl wl lm
      have q9 : ((n : Int) < 64) = True := eq_true (by omega)
      replace hnx := Lib.hid hnx
      replace R6 := Lib.hid R6
      replace R11 := Lib.hid R11
      replace R25 := Lib.hid R25
      replace R2 := Lib.hid R2
      replace R13 := Lib.hid R13
      replace R22 := Lib.hid R22
      go_upto_region 5 with (fail)
      generalize hwr : wr.drew = W5
      have A0 : W5.cell? ⟨G + 2, 0, none⟩ = some (.int .u32 (ua : Int)) := by rw [← hwr]; exact a0
      have A4 : W5.cell? ⟨G + 2, 4, none⟩ = some (.int .u32 (ue : Int)) := by rw [← hwr]; exact a4
      refine wp_region_still_lit (by kernel_rfl) (by kernel_rfl) ?_
      rw [show ({ wr with drawn := wr.drawn + 1 } : World) = W5 from hwr]
      repeat still_step
      refine wpStill_nil ?_
      clear A0 A4
      go_upto_region 6 with (fail)
      generalize hwr2 : W5.drew = W6
      have A5 : W6.cell? ⟨G + 2, 5, none⟩ = some (.int .u32 (uf : Int)) := by rw [← hwr2, ← hwr]; exact a5
      have A6 : W6.cell? ⟨G + 2, 6, none⟩ = some (.int .u32 (ug : Int)) := by rw [← hwr2, ← hwr]; exact a6
      have A7 : W6.cell? ⟨G + 2, 7, none⟩ = some (.int .u32 (uh : Int)) := by rw [← hwr2, ← hwr]; exact a7
      have KC : W6.cell? ⟨D, n, none⟩ = some (.int .u32 (kn : Int)) := by rw [← hwr2, ← hwr]; exact kc
      refine wp_region_still_lit (by kernel_rfl) (by kernel_rfl) ?_
      rw [show ({ W5 with drawn := W5.drawn + 1 } : World) = W6 from hwr2]
      repeat still_step
      still_call (R6.out _)
      repeat still_step
      still_call (R11.out _)
      repeat still_step
      still_call (R25.out _)
      repeat still_step
      refine wpStill_nil ?_
      clear A5 A6 A7 KC R6 R11 R25 w1 w2 w3' w4 c9 c10 c1 c2 c3
      go_upto_region 7 with (fail)
      generalize hwr3 : W6.drew = W7
      have A1 : W7.cell? ⟨G + 2, 1, none⟩ = some (.int .u32 (ub : Int)) := by rw [← hwr3, ← hwr2, ← hwr]; exact a1
      have A2 : W7.cell? ⟨G + 2, 2, none⟩ = some (.int .u32 (uc : Int)) := by rw [← hwr3, ← hwr2, ← hwr]; exact a2
      refine wp_region_still_lit (by kernel_rfl) (by kernel_rfl) ?_
      rw [show ({ W6 with drawn := W6.drawn + 1 } : World) = W7 from hwr3]
      repeat still_step
      still_call (R2.out _)
      repeat still_step
      still_call (R13.out _)
      repeat still_step
      still_call (R22.out _)
      repeat still_step
      refine wpStill_nil ?_
      clear R2 R13 R22 c4 c5 c6 c7 c8 c11 c12 w5
      have A0 : W7.cell? ⟨G + 2, 0, none⟩ = some (.int .u32 (ua : Int)) := by rw [← hwr3, ← hwr2, ← hwr]; exact a0
      have A3 : W7.cell? ⟨G + 2, 3, none⟩ = some (.int .u32 (ud : Int)) := by rw [← hwr3, ← hwr2, ← hwr]; exact a3
      have A4 : W7.cell? ⟨G + 2, 4, none⟩ = some (.int .u32 (ue : Int)) := by rw [← hwr3, ← hwr2, ← hwr]; exact a4
      have A5 : W7.cell? ⟨G + 2, 5, none⟩ = some (.int .u32 (uf : Int)) := by rw [← hwr3, ← hwr2, ← hwr]; exact a5
      have A6 : W7.cell? ⟨G + 2, 6, none⟩ = some (.int .u32 (ug : Int)) := by rw [← hwr3, ← hwr2, ← hwr]; exact a6
      have h7w : Whole W7 (G + 2) 27 (arr .u32 (⟨ua, ub, uc, ud, ue, uf, ug, uh⟩ : V8).L) := by rw [← hwr3, ← hwr2, ← hwr]; exact h7.drew.drew.drew
      have hgw : w3.grownBy W7 (some (G + 2)) := by rw [← hwr3, ← hwr2, ← hwr]; exact only_drew (only_drew (only_drew hg))
      clear a0 a1 a2 a3 a4 a5 a6 a7 h7 hg hwr hwr2 hwr3
      have hfin : (arr .u32 (⟨z0, ua, ub, uc, z4, ue, uf, ug⟩ : V8).L) = #[.int .u32 z0, .int .u32 ua, .int .u32 ub, .int .u32 uc, .int .u32 z4, .int .u32 ue, .int .u32 uf, .int .u32 ug] := rfl
      generalize hold : (arr .u32 (⟨ua, ub, uc, ud, ue, uf, ug, uh⟩ : V8).L) = old at h7w
      have hos : old.size = 8 := by rw [← hold]; rfl
      clear hold
      go_wp2_with (first | ((with_reducible apply wl_storeW (ty := 27) h7w); rfl; rfl; rfl; (rw [hos]; exact info8u); (rw [hos]; rfl); rfl; intro w9 hs9 hg9 hz9))
      go_roundg (64 - n)
      case measure => go_light; rw [hkg.out]; omega
      case rel => go_light; exact ⟨n + 1, by omega, by omega, by go_num, by rw [hnx.out, hfin]; exact hs9, only_then hgw hg9⟩
    · obtain rfl : n = 64 := by omega
      obtain ⟨u, eu⟩ : ∃ u, rounds K ww v 64 = u := ⟨_, rfl⟩
      have hou := rounds_ok K ww hv 64
      rw [eu] at h7 hou
      replace eu := Lib.hid eu
      have h4n : Whole wr G 27 (arr .u32 (v.sums u 0)) := h4.only hg (by simp)
      have h6n := h6.only hg (by simp)
      have hBn := below_only hB (by omega) hg (by omega)
      have hgs := hg.size
      clear h4 h6 hB hkg hg ht
      generalize wr = W5 at *
      have hg1 : W5.grownBy W5 (some G) := only_same _ _
      go_wp2_with (fail)
      go_loopg [102] 9 (fun kg i wr => ∃ (n : Nat), n ≤ 8 ∧ kg = 9 - n ∧ i = .int .i64 n ∧ Whole wr G 27 (arr .u32 (v.sums u n)) ∧ W5.grownBy wr (some G))
      case atStart => exact ⟨0, by decide, rfl, rfl, h4n, hg1⟩
      case round =>
        clear h4n hg1
        obtain ⟨n, hn, hkg, rfl, h4n, hg⟩ := hrel
        replace hkg := Lib.hid hkg
        by_cases hlt : n < 8
        · obtain ⟨hst, hgd⟩ := V8.sums_step v u hlt
          have e0 : wr.drew.cell? ⟨G, n, none⟩ = some (.int .u32 (((v.sums u n).getD n 0 : Nat) : Int)) := arr_cell h4n.drew (by rw [V8.sums_length v u hn]; omega)
          have e1 : wr.drew.cell? ⟨G + 2, n, none⟩ = some (.int .u32 ((u.L.getD n 0 : Nat) : Int)) := arr_cell (h7.only hg (by simp)).drew (by show n < 8; omega)
          have f0 := h4n.drew.frozen n
          have l0 : (v.sums u n).getD n 0 < 4294967296 := by rw [hgd]; exact getD_lt (by decide) (V8.L_lt hv) _
          have l1 : u.L.getD n 0 < 4294967296 := getD_lt (by decide) (V8.L_lt hou) _
          clear hgd
          generalize (v.sums u n).getD n 0 = x at *
          generalize u.L.getD n 0 = y at *
          obtain ⟨z, ez⟩ : ∃ z, (x + y) % 4294967296 = z := ⟨_, rfl⟩
          rw [ez] at hst
          have h4m := arr_put h4n.drew n z
          rw [hst] at h4m
          have hgn := only_put (only_drew hg) (p := ⟨G, n, none⟩) (.inl rfl) (.int .u32 (z : Int))
          have v1 : IntKind.u32.wrap ((x : Int) + y) = z := by simp [IntKind.wrap, IntKind.signed, IntKind.bits]; omega
          have q9 : ((n : Int) < 8) = True := eq_true (by omega)
          clear hst
          go_upto_region 13 with (fail)
          go_still_tail 8, (by kernel_rfl)
          change wpList _ _ _ _ _ wr.drew
          go_wp2
          go_roundg (8 - n)
          case measure => go_light; rw [hkg.out]; omega
          case rel => go_light; exact ⟨n + 1, by omega, by omega, by go_num, h4m, hgn⟩
        · obtain rfl : n = 8 := by omega
          have hs8 : v.sums u 8 = (v.plus u).L := rfl
          rw [hs8] at h4n
          have h6m := h6n.only hg (by simp)
          have hBm := below_only hBn (by omega) hg (by omega)
          have hgs2 := hg.size
          have hlen : (arr .u32 (v.plus u).L).size = 8 := V8.size _ _
          have hall := arr_one .u32 (v.plus u).L
          have hinf2 : (Try.prog.info? 27).map (·.size) = some (arr .u32 (v.plus u).L).size := by rw [hlen]; exact info8u
          generalize hawe : arr .u32 (v.plus u).L = aw at *
          clear hkg hg h7 h6n hBn hs8
          go_wp2_with (first | ((with_reducible apply wl_loadW (ty := 27) h4n Try.underlying27); rfl; rfl; rfl; exact hinf2) | ((with_reducible apply wl_storeW (ty := 27) h6m); rfl; rfl; rfl; exact info8u; exact hlen; exact hall; intro w5 hs5 hg5 hz5))
          refine bodyPost_ret (results_cell_row rfl _ _ _ _ _ _ _ (by rfl) hs5 Try.underlying27 rfl hinf2) rfl ?_
          go_light
          rw [eu.out, hawe, hG]
          exact ⟨rfl, below_only hBm (by omega) hg5 (by omega)⟩
end Go.Proofs.Ytknjbkbbhgjnlaa
