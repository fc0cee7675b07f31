/- Layer 10: an own signature is verified with its number; whatever signature, both tell the same; awake; the reference's child. Conditions: seeds of at most 100 bytes, messages of at most 1000. -/
import Derived.Test.YteipcmbbonfklaaHss2
namespace Go.Proofs.Yteipcmbbonfklaa
open Go.RowKit
set_option linter.unusedVariables false
set_option linter.unusedSimpArgs false
theorem sigN_b3 (seed : ByteArray) (q : Nat) (hq : q < 8) (msg : ByteArray) : (bytesN (sigN seed q msg)).getD 3 0 = q := by
  have h := sigN_num seed q hq msg
  rw [first4 _ (sigN_size _ _ _)] at h
  omega
theorem refVerify_own (seed msg : ByteArray) (hm : msg.size ≤ 1073741824) (q : Nat) (hq : q < 8) (w : World) :
    Calls Try.prog 77 #[.string (nodeN seed 3 0), .string msg, .string (sigN seed q msg)] w fun e w' => e = .returned (.bool true) ∧ Below w.heap.size w w' := by
  have h := refVerify_ok (nodeN seed 3 0) msg (sigN seed q msg) hm (sigN_size _ _ _) q (sigN_num _ _ hq _) hq w
  rw [sig_holds seed q hq msg, decide_eq_true rfl] at h
  exact h
theorem hss_verdicts (pub msg x : ByteArray) (hm : msg.size ≤ 1000) : ∃ (n : Int) (ok : Bool),
    (∀ w, Calls Try.prog 35 #[.agg (arr .u32 (K64 ++ H8.L)), .string pub, .string msg, .string x] w fun e w' => e = .returned (.tuple #[.int .i64 n, .bool ok]) ∧ Below w.heap.size w w') ∧
    (∀ w, Calls Try.prog 36 #[.string pub, .string msg, .string x] w fun e w' => e = .returned (.tuple #[.int .i64 n, .bool ok]) ∧ Below w.heap.size w w') := by
  by_cases hs : x.size = 4520
  · have hz : ((⟨#[67]⟩ : ByteArray) ++ x.extract 2244 2276).size ≤ 1073741824 := by
      rw [ByteArray.size_append, ByteArray.size_extract]
      show 1 + _ ≤ _
      omega
    obtain ⟨k1, ok1, V1, R1, g1, e1⟩ := verdicts pub ((⟨#[67]⟩ : ByteArray) ++ x.extract 2244 2276) (x.extract 0 2244) hz
    obtain ⟨k2, ok2, V2, R2, g2, e2⟩ := verdicts (x.extract 2244 2276) msg (x.extract 2276 4520) (by omega)
    exact ⟨_, _, fun w => hverify_calls pub msg x hs k1 k2 ok1 ok2 V1 V2 (fun h => (g1 h).2.2) (fun h => (g2 h).2.2) w, fun w => rverify_calls pub msg x hs k1 k2 ok1 ok2 R1 R2 (fun h => (g1 h).2) (fun h => (g2 h).2) w⟩
  · exact ⟨_, _, fun w => hverify_no pub msg x hs w, fun w => rverify_no pub msg x hs w⟩
theorem mark_size (x : ByteArray) (h : x.size = 32) : ((⟨#[67]⟩ : ByteArray) ++ x).size ≤ 1073741824 := by
  rw [ByteArray.size_append, h]
  decide
theorem hss_own (seed : ByteArray) (n : Nat) (hn : n < 64) (msg : ByteArray) (hm : msg.size ≤ 1000) (w : World) :
    Calls Try.prog 35 #[.agg (arr .u32 (K64 ++ H8.L)), .string (nodeN seed 3 0), .string msg, .string (hssN seed n msg)] w fun e w' => e = .returned (.tuple #[.int .i64 n, .bool true]) ∧ Below w.heap.size w w' := by
  have h := hverify_calls (nodeN seed 3 0) msg (hssN seed n msg) (hssN_size _ _ _) (n / 8) (n % 8) true true
    (by rw [hssN_one, hssN_two]; exact fun w => verify_own seed _ (mark_size _ (nodeN_size _ _ _)) (n / 8) (by omega) w)
    (by rw [hssN_two, hssN_three]; exact fun w => verify_own (childN seed (n / 8)) msg (by omega) (n % 8) (by omega) w)
    (fun _ => by omega) (fun _ => by omega) w
  rw [show 8 * (n / 8) + n % 8 = n by omega] at h
  exact h
theorem ref_own (seed : ByteArray) (n : Nat) (hn : n < 64) (msg : ByteArray) (hm : msg.size ≤ 1000) (w : World) :
    Calls Try.prog 36 #[.string (nodeN seed 3 0), .string msg, .string (hssN seed n msg)] w fun e w' => e = .returned (.tuple #[.int .i64 n, .bool true]) ∧ Below w.heap.size w w' := by
  have h := rverify_calls (nodeN seed 3 0) msg (hssN seed n msg) (hssN_size _ _ _) (n / 8) (n % 8) true true
    (by rw [hssN_one, hssN_two]; exact fun w => refVerify_own seed _ (mark_size _ (nodeN_size _ _ _)) (n / 8) (by omega) w)
    (by rw [hssN_two, hssN_three]; exact fun w => refVerify_own (childN seed (n / 8)) msg (by omega) (n % 8) (by omega) w)
    (fun _ => by rw [hssN_one]; exact ⟨sigN_b3 _ _ (by omega) _, by omega⟩) (fun _ => by rw [hssN_three]; exact ⟨sigN_b3 _ _ (by omega) _, by omega⟩) w
  rw [show 8 * (n / 8) + n % 8 = n by omega] at h
  exact h
set_option maxHeartbeats 1000000 in
set_option maxRecDepth 100000 in
theorem hpublic_calls (seed : ByteArray) (hs : seed.size ≤ 1048576) (w : World) :
    Calls Try.prog 34 #[.agg (arr .u32 (K64 ++ H8.L)), .string seed] w fun e w' => e = .returned (.string (nodeN seed 3 0)) ∧ Below w.heap.size w w' := by
  have hsz : (Try.prog.info? 31).map (·.size) = some (arr .u32 (K64 ++ H8.L)).size := by kernel_rfl
  have PB := fun w => public_calls seed hs w
  generalize nodeN seed 3 0 = pk at *
  generalize arr .u32 (K64 ++ H8.L) = tb at *
  replace PB := Lib.hid PB
  have hB : Later w (w.alloc (.cells tb 31)) := (Later.refl w).alloc _
  have hT := Whole.new w 31 tb
  go_enter Try.func34, Try.ntmps34
  go_wp2_with (first | ((with_reducible apply wl_loadW (ty := 31) hT Try.underlying31); rfl; rfl; rfl; exact hsz) | ((with_reducible refine (PB.out _).mono ?_); rintro e w4 ⟨rfl, hb4⟩; replace hB := Later.trans hB hb4))
  go_returns
  go_light
  exact ⟨rfl, hB⟩
set_option maxHeartbeats 1000000 in
set_option maxRecDepth 100000 in
theorem awake10_calls (w : World) : Calls Try.prog 32 #[] w fun e w' => e = .returned (.bool true) ∧ Below w.heap.size w w' := by
  have M := fun w => make_calls w
  have IB := fun w => hsign_bad 64 (.inr (by decide)) ⟨#[]⟩ ⟨#[]⟩ w
  generalize arr .u32 (K64 ++ H8.L) = tb at *
  replace M := Lib.hid M
  replace IB := Lib.hid IB
  go_enter Try.func32, Try.ntmps32
  go_wp2_with (first | ((with_reducible refine (M.out _).mono ?_); rintro e w2 ⟨rfl, hb2⟩) | ((with_reducible refine (IB.out _).mono ?_); rintro e w3 ⟨rfl, hb3⟩; replace hb2 := below_next' hb2 hb3))
  go_returns
  go_light
  exact ⟨rfl, hb2⟩
end Go.Proofs.Yteipcmbbonfklaa
