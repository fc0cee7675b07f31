/- The reference's Same: are two lists of texts the same? No conditions. -/
import Derived.Test.YtfkafejoacpclaaKinds
import Derived.Test.YtfkafejoacpclaaSteps
import Derived.BigQuiet
namespace Go.Proofs.Ytfkafejoacpclaa
open Go.RowKit
set_option linter.unusedVariables false
set_option linter.unusedSimpArgs false
set_option maxHeartbeats 1000000 in
set_option maxRecDepth 100000 in
theorem same_calls (A B : Option Addr) (a b : List ByteArray) (ca cb : Nat) (w : World) (ha : Kn.str.Rows w A a) (hb : Kn.str.Rows w B b) :
    Calls Try.prog 30 #[.slice A a.length ca, .slice B b.length cb] w fun e w' => e = .returned (.bool (decide (a = b))) ∧ Below w.heap.size w w' := by
  have ha1 := ha.1
  have hb1 := hb.1
  replace ha := Lib.hid ha
  replace hb := Lib.hid hb
  by_cases hl : a.length = b.length
  · obtain ⟨c, hc⟩ : ∃ c, decide (a = b) = c := ⟨_, rfl⟩
    rw [hc]
    replace hc := Lib.hid hc
    go_enter Try.func30, Try.ntmps30
    have hll : ((a.length : Int) == (b.length : Int)) = true := by rw [hl]; simp
    go_wp2
    replace hl := Lib.hid hl
    clear hll
    go_loopg [5] (a.length + 1) (fun kg i wr => ∃ (k : Nat), k ≤ a.length ∧ kg = a.length + 1 - k ∧ i = .int .i64 k ∧ a.take k = b.take k ∧ Below w.heap.size w wr)
    case atStart => exact ⟨0, Nat.zero_le _, rfl, rfl, rfl, Below.refl _ _⟩
    case round =>
      obtain ⟨k, hk, hkg, rfl, htk, hB⟩ := hrel
      replace hkg := Lib.hid hkg
      by_cases hlt : k < a.length
      · have hlt' : k < b.length := by have := hl.out; omega
        obtain ⟨ad, rfl, hadlt, e0⟩ := (ha.out.below hB).one_ hlt
        obtain ⟨bd, rfl, hbdlt, e1⟩ := (hb.out.below hB).one_ hlt'
        have hs1 : a.take (k + 1) = a.take k ++ [a[k]] := List.take_succ_eq_append_getElem hlt
        have hs2 : b.take (k + 1) = b.take k ++ [b[k]] := List.take_succ_eq_append_getElem hlt'
        by_cases heq : a[k] = b[k]
        · rw [htk, heq, ← hs2] at hs1
          rw [← heq] at e1
          generalize a[k] = s at e0 e1
          replace hs1 := Lib.hid hs1
          clear hs2 heq htk
          go_wp2_with (fail)
          go_quiet (fail)
          go_wp2_with (fail)
          go_roundg (a.length - k)
          case measure => go_light; rw [hkg.out]; omega
          case rel => go_light; exact ⟨k + 1, by omega, by omega, by go_num, hs1.out, below_drewN' hB _⟩
        · have hne : decide (a = b) = false := decide_eq_false (fun h => heq (by subst h; rfl))
          obtain rfl : c = false := by rw [← hc.out]; exact hne
          have hb3 : (a[k].toList == b[k].toList) = false := by rw [beqL]; exact decide_eq_false heq
          generalize a[k] = s at e0 hb3
          generalize b[k] = t at e1 hb3
          clear hs1 hs2 heq htk hne
          go_wp2_with (fail)
          go_quiet (fail)
          go_wp2_with (fail)
          go_returns
          exact ⟨rfl, below_drewN' hB _⟩
      · have e1 : a.take k = a := List.take_of_length_le (by omega)
        have e2 : b.take k = b := List.take_of_length_le (by have := hl.out; omega)
        rw [e1, e2] at htk
        obtain rfl : c = true := by rw [← hc.out]; exact decide_eq_true htk
        clear htk e1 e2
        go_wp2
        go_returns
        exact ⟨rfl, hB⟩
  · have hll : ((a.length : Int) = (b.length : Int)) = False := eq_false (by omega)
    have hne : decide (a = b) = false := decide_eq_false (fun h => hl (by rw [h]))
    rw [hne]
    clear hne
    go_enter Try.func30, Try.ntmps30
    go_wp2
    all_goals go_returns
    all_goals exact ⟨rfl, Below.refl _ _⟩
end Go.Proofs.Ytfkafejoacpclaa
