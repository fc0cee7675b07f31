/- Chains, nodes, signatures: the reference's. Conditions: seeds of at most 2^20 bytes, messages of at most 2^30. -/
import Derived.Test.YtfkafejoacpclaaOtsPlain
import Derived.Test.YtfkafejoacpclaaOtsDig
namespace Go.Proofs.Ytfkafejoacpclaa
open Go.RowKit
set_option linter.unusedVariables false
set_option linter.unusedSimpArgs false
set_option maxHeartbeats 4000000 in
set_option maxRecDepth 100000 in
theorem refValue_calls (seed : ByteArray) (hs : seed.size ≤ 1048576) (q i n : Nat) (hn : n ≤ 1000) (w : World) :
    Calls Try.prog 81 #[.string seed, .int .i64 q, .int .i64 i, .int .i64 n] w fun e w' => e = .returned (.string (wkN q i 0 (begN seed q i) n)) ∧ Below w.heap.size w w' := by
  have NQ := fun w => rnum_calls (q : Int) w
  have NI := fun w => rnum_calls (i : Int) w
  have NJ := fun (j : Nat) w => rnum_calls (j : Int) w
  have TC := fun w => rtext_calls seed w (by omega)
  have n4 := numW_size (q : Int)
  have n5 := numW_size (i : Int)
  have n6 := fun (j : Nat) => numW_size (j : Int)
  have tz := textW_size seed
  have z1 : ((⟨#[107]⟩ : ByteArray) ++ textW seed).size = 1 + (textW seed).size := ByteArray.size_append
  have z2 : (((⟨#[107]⟩ : ByteArray) ++ textW seed) ++ numW q).size = 1 + (textW seed).size + (numW q).size := by rw [ByteArray.size_append, z1]
  have z3 : ((((⟨#[107]⟩ : ByteArray) ++ textW seed) ++ numW q) ++ numW i).size = 1 + (textW seed).size + (numW q).size + (numW i).size := by rw [ByteArray.size_append, z2]
  have SC := fun w => refH03_calls ((((⟨#[107]⟩ : ByteArray) ++ textW seed) ++ numW q) ++ numW i) (by omega) w
  have nolen1 : (9223372036854775807 < 1 + (textW seed).size) = False := eq_false (by omega)
  have nolen2 : (9223372036854775807 < 1 + (textW seed).size + (numW q).size) = False := eq_false (by omega)
  have nolen3 : (9223372036854775807 < 1 + (textW seed).size + (numW q).size + (numW i).size) = False := eq_false (by omega)
  have eS : shaN ((((⟨#[107]⟩ : ByteArray) ++ textW seed) ++ numW q) ++ numW i) = begN seed q i := rfl
  rw [eS] at SC
  have y1 : ((⟨#[99]⟩ : ByteArray) ++ numW q).size = 1 + (numW q).size := ByteArray.size_append
  have y2 : (((⟨#[99]⟩ : ByteArray) ++ numW q) ++ numW i).size = 1 + (numW q).size + (numW i).size := by rw [ByteArray.size_append, y1]
  have nolen4 : (9223372036854775807 < 1 + (numW q).size) = False := eq_false (by omega)
  have nolen5 : (9223372036854775807 < 1 + (numW q).size + (numW i).size) = False := eq_false (by omega)
  have LK : ∀ (j : Nat) (y : ByteArray), y.size ≤ 1000 → ∀ w, Calls Try.prog 69 #[.string (((((⟨#[99]⟩ : ByteArray) ++ numW q) ++ numW i) ++ numW j) ++ y)] w fun e w' => e = .returned (.string (linkN q i j y)) ∧ Below w.heap.size w w' := by
    intro j y hy w
    refine refH03_calls (((((⟨#[99]⟩ : ByteArray) ++ numW q) ++ numW i) ++ numW j) ++ y) ?_ w
    rw [ByteArray.size_append, ByteArray.size_append, y2, n4, n5, n6 j]
    omega
  have hb32 := begN_size seed q i
  generalize begN seed q i = S at *
  have hw0 : wkN q i 0 S 0 = S := rfl
  have hws : ∀ k, wkN q i 0 S (k + 1) = linkN q i k (wkN q i 0 S k) := fun k => by rw [wkN, Nat.zero_add]
  have hwl := fun k => wkN_le q i 0 S (by omega) k
  generalize wkN q i 0 S = F at *
  generalize linkN q i = LN at *
  generalize numW (q : Int) = nq at *
  generalize numW (i : Int) = ni at *
  generalize textW seed = tq at *
  clear eS z1 z2 z3 y1 y2 tz
  replace NQ := Lib.hid NQ
  replace NI := Lib.hid NI
  replace NJ := Lib.hid NJ
  replace TC := Lib.hid TC
  replace SC := Lib.hid SC
  replace LK := Lib.hid LK
  replace hws := Lib.hid hws
  replace hwl := Lib.hid hwl
  replace n6 := Lib.hid n6
  replace hw0 := Lib.hid hw0
  replace n4 := Lib.hid n4
  replace n5 := Lib.hid n5
  have hB : Later w w := Later.refl w
  go_enter Try.func81, Try.ntmps81
  go_wp2_with (first | ((with_reducible refine (TC.out _).mono ?_); rintro e w2 ⟨rfl, hb2⟩; replace hB := Later.trans hB hb2) | ((with_reducible refine (NQ.out _).mono ?_); rintro e w3 ⟨rfl, hb3⟩; replace hB := Later.trans hB hb3) | ((with_reducible refine (NI.out _).mono ?_); rintro e w4 ⟨rfl, hb4⟩; replace hB := Later.trans hB hb4) | ((with_reducible refine (SC.out _).mono ?_); rintro e w5 ⟨rfl, hb5⟩; replace hB := Later.trans hB hb5))
  clear hb2 hb3 hb4 hb5
  go_loopg [9, 10] (n + 1) (fun kg x j wr => ∃ k : Nat, j = .int .i64 k ∧ k ≤ n ∧ kg = n + 1 - k ∧ x = .string (F k) ∧ Later w wr)
  case atStart => exact ⟨0, rfl, by omega, rfl, by rw [hw0.out], hB⟩
  case round =>
    clear hB
    obtain ⟨k, rfl, hk, hkg, rfl, hl⟩ := hrel
    replace hkg := Lib.hid hkg
    by_cases hlt : k < n
    · have qlt : ((k : Int) < (n : Int)) = True := eq_true (by omega)
      have NK := fun w => NJ.out k w
      have hyl := hwl.out k
      have SK := fun w => LK.out k (F k) hyl w
      rw [← hws.out k] at SK
      have n7 := n6.out k
      generalize hY : F (k + 1) = Y at *
      replace hY := Lib.hid hY
      generalize F k = X at *
      generalize numW (k : Int) = nj at *
      have nolen6 : (9223372036854775807 < 1 + nq.size + ni.size + nj.size) = False := eq_false (by have := n4.out; have := n5.out; omega)
      have nolen7 : (9223372036854775807 < 1 + nq.size + ni.size + nj.size + X.size) = False := eq_false (by have := n4.out; have := n5.out; omega)
      clear n7
      replace NK := Lib.hid NK
      replace SK := Lib.hid SK
      go_wp2_with (first | ((with_reducible refine (NK.out _).mono ?_); rintro e w2 ⟨rfl, hb2⟩; replace hl := Later.trans hl hb2) | ((with_reducible refine (NQ.out _).mono ?_); rintro e w3 ⟨rfl, hb3⟩; replace hl := Later.trans hl hb3) | ((with_reducible refine (NI.out _).mono ?_); rintro e w4 ⟨rfl, hb4⟩; replace hl := Later.trans hl hb4) | ((with_reducible refine (SK.out _).mono ?_); rintro e w5 ⟨rfl, hb5⟩; replace hl := Later.trans hl hb5))
      clear hb2 hb3 hb4 hb5
      go_roundg (n - k)
      case measure => go_light; rw [hkg.out]; omega
      case rel => go_light; exact ⟨k + 1, by go_num, by omega, by omega, by rw [hY.out], hl⟩
    · obtain rfl : k = n := by omega
      go_wp2_with (fail)
      go_returns
      go_light
      exact ⟨rfl, hl⟩
set_option maxHeartbeats 4000000 in
set_option maxRecDepth 100000 in
theorem refNode_calls (seed : ByteArray) (hs : seed.size ≤ 1048576) : ∀ (h k : Nat) (w : World), h ≤ 3 → (k + 1) * 2 ^ h ≤ 1000 →
    Calls Try.prog 40 #[.string seed, .int .i64 h, .int .i64 k] w fun e w' => e = .returned (.string (nodeN seed h k)) ∧ Below w.heap.size w w'
  | 0, q, w, hh, hk1000 => by
    have NQ := fun w => rnum_calls (q : Int) w
    have n4 := numW_size (q : Int)
    have VC : ∀ (i : Nat) (w : World), Calls Try.prog 81 #[.string seed, .int .i64 q, .int .i64 i, .int .i64 15] w fun e w' => e = .returned (.string (wkN q i 0 (begN seed q i) 15)) ∧ Below w.heap.size w w' := fun i w => refValue_calls seed hs q i 15 (by omega) w
    have hez := endsN_size seed q
    have hes := endsN_succ seed q
    have he0 : endsN seed q 0 = ⟨#[]⟩ := rfl
    have hw32 := fun i => wkN_32 seed q i 0 15
    have z1 : ((⟨#[112]⟩ : ByteArray) ++ numW q).size = 1 + (numW q).size := ByteArray.size_append
    have SC := fun w => refH03_calls (((⟨#[112]⟩ : ByteArray) ++ numW q) ++ endsN seed q 67) (by rw [ByteArray.size_append, z1, n4, hez]; omega) w
    have nolen1 : (9223372036854775807 < 1 + (numW q).size) = False := eq_false (by omega)
    have eS : shaN (((⟨#[112]⟩ : ByteArray) ++ numW q) ++ endsN seed q 67) = nodeN seed 0 q := rfl
    rw [eS] at SC
    generalize nodeN seed 0 q = NX at *
    generalize endsN seed q = EN at *
    generalize hP0 : ((⟨#[112]⟩ : ByteArray) ++ numW q) = P0 at *
    have hP0z : P0.size = 5 := by omega
    have hpz : ∀ k, (P0 ++ EN k).size = 5 + 32 * k := fun k => by rw [ByteArray.size_append, hez, hP0z]
    have hp0 : P0 ++ EN 0 = P0 := by
      rw [he0]
      apply ba_ext
      rw [ba_append]
      simp
    have hps : ∀ k, P0 ++ EN (k + 1) = (P0 ++ EN k) ++ wkN q k 0 (begN seed q k) 15 := fun k => by rw [hes, ByteArray.append_assoc]
    generalize hPP : (fun k => P0 ++ EN k) = PP
    have ePP : ∀ k, P0 ++ EN k = PP k := fun k => by rw [← hPP]
    simp only [ePP] at hpz hp0 hps SC
    clear eS z1 ePP hPP he0 hes hez
    have hB : Later w w := Later.refl w
    replace NQ := Lib.hid NQ
    replace VC := Lib.hid VC
    replace SC := Lib.hid SC
    replace hpz := Lib.hid hpz
    replace hps := Lib.hid hps
    replace hw32 := Lib.hid hw32
    go_enter Try.func40, Try.ntmps40
    go_wp2_with ((with_reducible refine (NQ.out _).mono ?_); rintro e w3 ⟨rfl, hb3⟩; replace hB := Later.trans hB hb3)
    try rw [hP0]
    clear hb3
    replace hp0 := Lib.hid hp0
    go_loopg [7, 8] 68 (fun kg s j wr => ∃ k : Nat, j = .int .i64 k ∧ k ≤ 67 ∧ kg = 68 - k ∧ s = .string (PP k) ∧ Later w wr)
    case atStart => exact ⟨0, rfl, by omega, rfl, by rw [hp0.out], hB⟩
    case round =>
      clear hB
      obtain ⟨k, rfl, hk, hkg, rfl, hl⟩ := hrel
      replace hkg := Lib.hid hkg
      by_cases hlt : k < 67
      · have VK := fun w => VC.out k w
        have h1 := hpz.out k
        have h2 := hw32.out k
        have h3 := hps.out k
        generalize wkN q k 0 (begN seed q k) 15 = X at *
        generalize hY : PP (k + 1) = Y at *
        replace hY := Lib.hid hY
        generalize PP k = P at *
        have nolen6 : (9223372036854775807 < P.size + X.size) = False := eq_false (by omega)
        have nolen7 : (9223372036854775807 < P.size + 32) = False := eq_false (by omega)
        have nolen8 : (9223372036854775807 < 5 + 32 * k + 32) = False := eq_false (by omega)
        replace h3 := Lib.hid h3
        replace VK := Lib.hid VK
        go_wp2_with ((with_reducible refine (VK.out _).mono ?_); rintro e w3 ⟨rfl, hb3⟩; replace hl := Later.trans hl hb3)
        clear hb3
        go_roundg (67 - k)
        case measure => go_light; rw [hkg.out]; omega
        case rel => go_light; exact ⟨k + 1, by go_num, by omega, by omega, by rw [hY.out, h3.out], hl⟩
      · obtain rfl : k = 67 := by omega
        go_wp2_with ((with_reducible refine (SC.out _).mono ?_); rintro e w3 ⟨rfl, hb3⟩; replace hl := Later.trans hl hb3)
        go_returns
        go_light
        exact ⟨rfl, hl⟩
  | h + 1, k, w, hh, hk1000 => by
    have ep : (2 * k + 1 + 1) * 2 ^ h = (k + 1) * 2 ^ (h + 1) := by rw [Nat.pow_succ, Nat.mul_comm (2 ^ h) 2, ← Nat.mul_assoc]; congr 1; omega
    have el : (2 * k + 1) * 2 ^ h ≤ (2 * k + 1 + 1) * 2 ^ h := Nat.mul_le_mul_right _ (by omega)
    have ek : (k + 1) * 1 ≤ (k + 1) * 2 ^ (h + 1) := Nat.mul_le_mul_left _ Nat.one_le_two_pow
    have I1 := fun w => refNode_calls seed hs h (2 * k) w (by omega) (by omega)
    have I2 := fun w => refNode_calls seed hs h (2 * k + 1) w (by omega) (by omega)
    have s1 := nodeN_size seed h (2 * k)
    have s2 := nodeN_size seed h (2 * k + 1)
    have hn : nodeN seed (h + 1) k = pairO (nodeN seed h (2 * k)) (nodeN seed h (2 * k + 1)) := rfl
    rw [hn]
    unfold pairO
    generalize nodeN seed h (2 * k) = a at *
    generalize nodeN seed h (2 * k + 1) = b at *
    have z1 : ((⟨#[116]⟩ : ByteArray) ++ a).size = 1 + a.size := ByteArray.size_append
    have z2 : (((⟨#[116]⟩ : ByteArray) ++ a) ++ b).size = 1 + a.size + b.size := by rw [ByteArray.size_append, z1]
    have SC := fun w => refH03_calls (((⟨#[116]⟩ : ByteArray) ++ a) ++ b) (by omega) w
    have nolen1 : (9223372036854775807 < 1 + a.size) = False := eq_false (by omega)
    have nolen2 : (9223372036854775807 < 1 + a.size + b.size) = False := eq_false (by omega)
    generalize shaN (((⟨#[116]⟩ : ByteArray) ++ a) ++ b) = X at *
    have h0 : ((0 : Int) < ((h + 1 : Nat) : Int)) = True := eq_true (by omega)
    have x0 : IntKind.i64.wrap (((h + 1 : Nat) : Int) - 1) = (h : Int) := by simp [IntKind.wrap, IntKind.signed, IntKind.bits]; omega
    have x1 : IntKind.i64.wrap (2 * (k : Int)) = ((2 * k : Nat) : Int) := by simp [IntKind.wrap, IntKind.signed, IntKind.bits]; omega
    have x2 : IntKind.i64.wrap (((2 * k : Nat) : Int) + 1) = ((2 * k + 1 : Nat) : Int) := by simp [IntKind.wrap, IntKind.signed, IntKind.bits]; omega
    have x3 : ((2 * k : Nat) : Int) = 2 * (k : Int) := by omega
    have h0' : (0 < h + 1) = True := eq_true (by omega)
    clear z1 z2 s1 s2 hn ep el ek
    generalize hk1 : 2 * k + 1 = k1 at *
    generalize hk0 : 2 * k = k0 at *
    generalize hh1 : h + 1 = h1 at *
    clear x3
    replace I1 := Lib.hid I1
    replace I2 := Lib.hid I2
    replace SC := Lib.hid SC
    clear hk1 hk0 hh1
    have hB : Later w w := Later.refl w
    go_enter Try.func40, Try.ntmps40
    go_wp2_with (first | ((with_reducible refine (I1.out _).mono ?_); rintro e w2 ⟨rfl, hb2⟩; replace hB := Later.trans hB hb2) | ((with_reducible refine (I2.out _).mono ?_); rintro e w3 ⟨rfl, hb3⟩; replace hB := Later.trans hB hb3) | ((with_reducible refine (SC.out _).mono ?_); rintro e w4 ⟨rfl, hb4⟩; replace hB := Later.trans hB hb4))
    go_returns
    go_light
    exact ⟨rfl, hB⟩
end Go.Proofs.Ytfkafejoacpclaa
