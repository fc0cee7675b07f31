/- The law's awake; the reference's Few. Condition: a row of at most 2^62 pairs. -/
import Derived.Test.YtknjbkbbhgjnlaaSmt11
namespace Go.Proofs.Ytknjbkbbhgjnlaa
open Go.RowKit
set_option linter.unusedVariables false
set_option linter.unusedSimpArgs false
set_option maxRecDepth 100000 in
theorem awake05_calls (w : World) : Calls Try.prog 15 #[] w fun e w' => e = .returned (.bool true) ∧ Later w w' := by
  have MK := fun w => make_calls w
  have PN := fun w => prove_nil w
  generalize arr .u32 (K64 ++ H8.L) = tb at *
  replace MK := Lib.hid MK
  replace PN := Lib.hid PN
  go_enter Try.func15, Try.ntmps15
  go_wp2_with (first | ((with_reducible refine (MK.out _).mono ?_); rintro e w2 ⟨rfl, hl2⟩) | ((with_reducible refine (PN.out _).mono ?_); rintro e w3 ⟨⟨S, rfl, hS⟩, hl3⟩))
  go_returns
  go_light
  exact ⟨rfl, Later.trans hl2 hl3⟩
def kvSmall (p : KV) : Bool := decide (p.1.size ≤ 60) && decide (p.2.size ≤ 60)
def fewKV (l : List KV) (n : Nat) : Bool := (l.take 50).all kvSmall && decide (l.length ≤ n)
theorem fewKV_all {l : List KV} {n : Nat} (h : fewKV l n = true) (hn : n ≤ 50) : l.length ≤ n ∧ ∀ p ∈ l, p.1.size ≤ 60 ∧ p.2.size ≤ 60 := by
  unfold fewKV at h
  rw [Bool.and_eq_true, decide_eq_true_eq] at h
  refine ⟨h.2, fun p hp => ?_⟩
  rw [List.take_of_length_le (by omega)] at h
  have := List.all_eq_true.1 h.1 p hp
  simpa [kvSmall] using this
set_option maxHeartbeats 1000000 in
set_option maxRecDepth 100000 in
theorem few05_calls (A : Option Addr) (l : List KV) (cap n : Nat) (w : World) (hcap : l.length ≤ cap) (hl : l.length ≤ 9223372036854775807) (hn : n ≤ 100) (hr : PK.Rows w A l) :
    Calls Try.prog 16 #[.slice A l.length cap, .int .i64 n] w fun e w' => e = .returned (.bool (fewKV l n)) ∧ Later w w' := by
  have hno : ∀ k (hk : k < l.length), k < 50 → kvSmall l[k] = false → fewKV l n = false := by
    intro k hk h50 h
    unfold fewKV
    rw [Bool.and_eq_false_iff]
    left
    cases hx : (l.take 50).all kvSmall
    · rfl
    · have := List.all_eq_true.1 hx l[k] (by rw [List.mem_take_iff_getElem]; exact ⟨k, by omega, rfl⟩)
      rw [h] at this
      cases this
  have hyes : (∀ k (hk : k < l.length), k < 50 → kvSmall l[k] = true) → fewKV l n = decide (l.length ≤ n) := by
    intro h
    unfold fewKV
    have : (l.take 50).all kvSmall = true := List.all_eq_true.2 (fun p hp => by
      obtain ⟨k, hk, rfl⟩ := List.mem_take_iff_getElem.1 hp
      exact h k (by omega) (by omega))
    rw [this, Bool.true_and]
  generalize fewKV l n = RES at *
  have b3 : ((l.length : Int) ≤ cap) = True := eq_true (by omega)
  replace hno := Lib.hid hno
  replace hyes := Lib.hid hyes
  go_enter Try.func16, Try.ntmps16
  go_wp2_with (fail)
  go_loopg [5] (l.length + 1) (fun kg i wr => ∃ k : Nat, i = .int .i64 k ∧ k ≤ l.length ∧ k ≤ 50 ∧ kg = l.length + 1 - k ∧ wr = w ∧ ∀ j (hj : j < l.length), j < k → kvSmall l[j] = true)
  case atStart => exact ⟨0, rfl, Nat.zero_le _, by omega, rfl, rfl, fun j _ h => absurd h (Nat.not_lt_zero _)⟩
  case round =>
    obtain ⟨k, rfl, hk, hk50, hkg, rfl, hall⟩ := hrel
    replace hkg := Lib.hid hkg
    replace hall := Lib.hid hall
    by_cases hlt : k < l.length
    · by_cases h50 : k < 50
      · obtain ⟨ad, rfl, -, c0, c1⟩ := PK.pair_ hr hlt
        have hnk := hno.out k hlt h50
        obtain ⟨x, hx⟩ : ∃ x, l[k] = x := ⟨_, rfl⟩
        rw [hx] at c0 c1 hnk
        replace hx := Lib.hid hx
        replace hnk := Lib.hid hnk
        have hkk : (k : Int) < l.length := by omega
        have hk5 : (k : Int) < 50 := by omega
        by_cases h1 : x.1.size ≤ 60
        · by_cases h2 : x.2.size ≤ 60
          · go_wp2_with (fail)
            go_roundg (l.length - k)
            case measure => go_light; rw [hkg.out]; omega
            case rel =>
              go_light
              refine ⟨k + 1, by go_num, by omega, by omega, by omega, rfl, fun j hj hjk => ?_⟩
              by_cases hjk2 : j = k
              · subst hjk2
                rw [hx.out]
                simp [kvSmall, h1, h2]
              · exact hall.out j hj (by omega)
          · go_wp2_with (fail)
            go_returns
            go_light
            exact ⟨ret_bool (by rw [hnk.out (by simp [kvSmall, h2])]), Later.refl _⟩
        · go_wp2_with (fail)
          go_returns
          go_light
          exact ⟨ret_bool (by rw [hnk.out (by simp [kvSmall, h1])]), Later.refl _⟩
      · obtain rfl : k = 50 := by omega
        have hy := hyes.out (fun j hj h => hall.out j hj (by omega))
        go_wp2_with (fail)
        go_returns
        go_light
        exact ⟨ret_bool (by rw [hy]), Later.refl _⟩
    · obtain rfl : k = l.length := by omega
      have hy := hyes.out (fun j hj h => hall.out j hj (by omega))
      go_wp2_with (fail)
      go_returns
      go_light
      exact ⟨ret_bool (by rw [hy]), Later.refl _⟩
end Go.Proofs.Ytknjbkbbhgjnlaa
