/- Layer 10, the program: a child's seed, signatures. Conditions: seeds of at most 100 bytes, messages of at most 1000. -/
import Derived.Test.YteipcmbbonfklaaVerdict
import Derived.Test.YteipcmbbonfklaaOtsOwn
import Derived.Test.YteipcmbbonfklaaOtsBad
namespace Go.Proofs.Yteipcmbbonfklaa
open Go.RowKit
set_option linter.unusedVariables false
set_option linter.unusedSimpArgs false
def childN (seed : ByteArray) (k : Nat) : ByteArray := (textW seed ++ ⟨#[99]⟩) ++ numW (k : Int)
theorem childN_size (seed : ByteArray) (k : Nat) : (childN seed k).size = seed.size + 9 := by
  have h1 := textW_size seed
  have h2 := numW_size (k : Int)
  have e : ∀ x y : ByteArray, (x ++ y).size = x.size + y.size := fun _ _ => ByteArray.size_append
  rw [childN, e, e, h1, h2]
  have : (⟨#[99]⟩ : ByteArray).size = 1 := rfl
  omega
def hssA (seed : ByteArray) (n : Nat) : ByteArray := sigN seed (n / 8) (⟨#[67]⟩ ++ nodeN (childN seed (n / 8)) 3 0)
def hssN (seed : ByteArray) (n : Nat) (msg : ByteArray) : ByteArray := (hssA seed n ++ nodeN (childN seed (n / 8)) 3 0) ++ sigN (childN seed (n / 8)) (n % 8) msg
theorem hssN_size (seed : ByteArray) (n : Nat) (msg : ByteArray) : (hssN seed n msg).size = 4520 := by
  have e : ∀ x y : ByteArray, (x ++ y).size = x.size + y.size := fun _ _ => ByteArray.size_append
  rw [hssN, e, e, hssA, sigN_size, sigN_size, nodeN_size]
theorem hssN_one (seed : ByteArray) (n : Nat) (msg : ByteArray) : (hssN seed n msg).extract 0 2244 = hssA seed n := by
  have hz : (hssA seed n).size = 2244 := sigN_size _ _ _
  rw [hssN, ext_left _ _ _ _ (by rw [ByteArray.size_append, hz]; omega), ext_left _ _ _ _ (by omega)]
  apply ba_ext
  rw [ba_extract, List.drop_zero, List.take_of_length_le (by simp [hz])]
theorem hssN_two (seed : ByteArray) (n : Nat) (msg : ByteArray) : (hssN seed n msg).extract 2244 2276 = nodeN (childN seed (n / 8)) 3 0 := by
  have hz : (hssA seed n).size = 2244 := sigN_size _ _ _
  have hn := nodeN_size (childN seed (n / 8)) 3 0
  rw [hssN, ext_left _ _ _ _ (by rw [ByteArray.size_append, hz, hn]; omega)]
  exact ext_right _ _ _ _ hz.symm (by rw [hz, hn])
theorem hssN_three (seed : ByteArray) (n : Nat) (msg : ByteArray) : (hssN seed n msg).extract 2276 4520 = sigN (childN seed (n / 8)) (n % 8) msg := by
  have hz : (hssA seed n).size = 2244 := sigN_size _ _ _
  have hn := nodeN_size (childN seed (n / 8)) 3 0
  have hs := sigN_size (childN seed (n / 8)) (n % 8) msg
  rw [hssN]
  exact ext_right _ _ _ _ (by rw [ByteArray.size_append, hz, hn]) (by rw [ByteArray.size_append, hz, hn, hs])
set_option maxHeartbeats 1000000 in
set_option maxRecDepth 100000 in
theorem child_calls (seed : ByteArray) (hs : seed.size ≤ 100) (k : Nat) (w : World) :
    Calls Try.prog 37 #[.string seed, .int .i64 k] w fun e w' => e = .returned (.string (childN seed k)) ∧ Below w.heap.size w w' := by
  have TC := fun w => wtext_calls seed w (by omega)
  have NC := fun w => wnum_calls (k : Int) w
  have tz := textW_size seed
  have nz := numW_size (k : Int)
  unfold childN
  generalize textW seed = tq at *
  generalize numW (k : Int) = nq at *
  have z1 : (tq ++ ⟨#[99]⟩ : ByteArray).size = tq.size + 1 := ByteArray.size_append
  have nolen1 : (9223372036854775807 < tq.size + 1) = False := eq_false (by omega)
  have nolen2 : (9223372036854775807 < tq.size + 1 + nq.size) = False := eq_false (by omega)
  replace TC := Lib.hid TC
  replace NC := Lib.hid NC
  replace tz := Lib.hid tz
  replace nz := Lib.hid nz
  clear z1
  have hB : Later w w := Later.refl w
  go_enter Try.func37, Try.ntmps37
  go_wp2_with (first | ((with_reducible refine (TC.out _).mono ?_); rintro e w2 ⟨rfl, hb2⟩; replace hB := Later.trans hB hb2) | ((with_reducible refine (NC.out _).mono ?_); rintro e w3 ⟨rfl, hb3⟩; replace hB := Later.trans hB hb3))
  go_returns
  go_light
  exact ⟨by first | rfl | simp, hB⟩
set_option maxHeartbeats 1000000 in
set_option maxRecDepth 100000 in
theorem hsign_bad (n : Int) (h : n < 0 ∨ 64 ≤ n) (seed msg : ByteArray) (w : World) :
    Calls Try.prog 33 #[.agg (arr .u32 (K64 ++ H8.L)), .string seed, .int .i64 n, .string msg] w fun e w' => e = .returned (.tuple #[.string ⟨#[]⟩, .int .i64 4]) ∧ Below w.heap.size w w' := by
  generalize arr .u32 (K64 ++ H8.L) = tb at *
  have hB1 : Below w.heap.size w (w.alloc (.cells tb 31)) := by go_grown
  have hB2 : Below w.heap.size w w := Below.refl _ _
  by_cases h1 : n < 0
  · have q1 : (n < 0) = True := eq_true h1
    go_enter Try.func33, Try.ntmps33
    go_wp2_with (fail)
    go_returns
    go_light
    exact ⟨rfl, by first | exact hB1 | exact hB2⟩
  · have q1 : (n < 0) = False := eq_false h1
    have q2 : (64 ≤ n) = True := eq_true (by omega)
    go_enter Try.func33, Try.ntmps33
    go_wp2_with (fail)
    go_returns
    go_light
    exact ⟨rfl, by first | exact hB1 | exact hB2⟩
set_option maxHeartbeats 4000000 in
set_option maxRecDepth 100000 in
theorem hsign_calls (seed : ByteArray) (hs : seed.size ≤ 100) (n : Nat) (hn : n < 64) (msg : ByteArray) (hm : msg.size ≤ 1000) (w : World) :
    Calls Try.prog 33 #[.agg (arr .u32 (K64 ++ H8.L)), .string seed, .int .i64 n, .string msg] w fun e w' => e = .returned (.tuple #[.string (hssN seed n msg), .int .i64 0]) ∧ Below w.heap.size w w' := by
  have hsz : (Try.prog.info? 31).map (·.size) = some (arr .u32 (K64 ++ H8.L)).size := by kernel_rfl
  have hcz := childN_size seed (n / 8)
  have hpz := nodeN_size (childN seed (n / 8)) 3 0
  have CC := fun w => child_calls seed hs (n / 8) w
  have PC := fun w => public_calls (childN seed (n / 8)) (by omega) w
  have mz : ((⟨#[67]⟩ : ByteArray) ++ nodeN (childN seed (n / 8)) 3 0).size = 33 := by rw [ByteArray.size_append, hpz]; rfl
  have SA := fun w => sign_calls seed (by omega) (n / 8) (by omega) (⟨#[67]⟩ ++ nodeN (childN seed (n / 8)) 3 0) (by omega) w
  have SB := fun w => sign_calls (childN seed (n / 8)) (by omega) (n % 8) (by omega) msg (by omega) w
  have az : (sigN seed (n / 8) (⟨#[67]⟩ ++ nodeN (childN seed (n / 8)) 3 0)).size = 2244 := sigN_size _ _ _
  have bz : (sigN (childN seed (n / 8)) (n % 8) msg).size = 2244 := sigN_size _ _ _
  have hres : hssN seed n msg = (sigN seed (n / 8) (⟨#[67]⟩ ++ nodeN (childN seed (n / 8)) 3 0) ++ nodeN (childN seed (n / 8)) 3 0) ++ sigN (childN seed (n / 8)) (n % 8) msg := rfl
  rw [hres]
  have k1 : (n : Int) / 8 = ((n / 8 : Nat) : Int) := by omega
  have k2 : (n : Int).tdiv 8 = ((n / 8 : Nat) : Int) := by rw [Int.tdiv_eq_ediv_of_nonneg (Int.natCast_nonneg _)]; omega
  have k3 : (n : Int) % 8 = ((n % 8 : Nat) : Int) := by omega
  have k4 : (n : Int).tmod 8 = ((n % 8 : Nat) : Int) := by rw [Int.tmod_eq_emod_of_nonneg (Int.natCast_nonneg _)]; omega
  have k5 : IntKind.i64.wrap ((n / 8 : Nat) : Int) = ((n / 8 : Nat) : Int) := by simp [IntKind.wrap, IntKind.signed, IntKind.bits]; omega
  have k6 : ((n : Int) < 0) = False := eq_false (by omega)
  have k7 : ((64 : Int) ≤ (n : Int)) = False := eq_false (by omega)
  have k8 : (64 ≤ n) = False := eq_false (by omega)
  generalize sigN seed (n / 8) (⟨#[67]⟩ ++ nodeN (childN seed (n / 8)) 3 0) = sa at *
  generalize sigN (childN seed (n / 8)) (n % 8) msg = sb at *
  generalize nodeN (childN seed (n / 8)) 3 0 = pk at *
  generalize childN seed (n / 8) = ch at *
  generalize n / 8 = k at *
  generalize n % 8 = q at *
  generalize arr .u32 (K64 ++ H8.L) = tb at *
  have nolen1 : (9223372036854775807 < 1 + pk.size) = False := eq_false (by omega)
  have nolen2 : (9223372036854775807 < sa.size + pk.size) = False := eq_false (by omega)
  have nolen3 : (9223372036854775807 < sa.size + pk.size + sb.size) = False := eq_false (by omega)
  replace CC := Lib.hid CC
  replace PC := Lib.hid PC
  replace SA := Lib.hid SA
  replace SB := Lib.hid SB
  replace hpz := Lib.hid hpz
  replace hcz := Lib.hid hcz
  replace az := Lib.hid az
  replace bz := Lib.hid bz
  clear mz hres
  have hB : Later w (w.alloc (.cells tb 31)) := (Later.refl w).alloc _
  have hT := Whole.new w 31 tb
  go_enter Try.func33, Try.ntmps33
  go_wp2_with (first | ((with_reducible apply wl_loadW (ty := 31) hT Try.underlying31); rfl; rfl; rfl; exact hsz) | ((with_reducible refine (CC.out _).mono ?_); rintro e w4 ⟨rfl, hb4⟩; replace hB := Later.trans hB hb4; replace hT := Later.whole hb4 hT; clear hb4) | ((with_reducible refine (PC.out _).mono ?_); rintro e w4 ⟨rfl, hb4⟩; replace hB := Later.trans hB hb4; replace hT := Later.whole hb4 hT; clear hb4) | ((with_reducible refine (SA.out _).mono ?_); rintro e w4 ⟨rfl, hb4⟩; replace hB := Later.trans hB hb4; replace hT := Later.whole hb4 hT; clear hb4) | ((with_reducible refine (SB.out _).mono ?_); rintro e w4 ⟨rfl, hb4⟩; replace hB := Later.trans hB hb4; replace hT := Later.whole hb4 hT; clear hb4))
  go_returns
  go_light
  exact ⟨by first | rfl | simp, hB⟩
end Go.Proofs.Yteipcmbbonfklaa
