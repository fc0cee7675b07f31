/- Contracts of the reference's lists: their bytes; whether two are the same. -/
import Derived.Test.YtdohmkanpdhmaaaWireL
import Derived.Test.YtdohmkanpdhmaaaWireList
namespace Go.Proofs.Ytdohmkanpdhmaaa
open Go.RowKit
set_option linter.unusedVariables false
set_option linter.unusedSimpArgs false
def listP (n : Nat) (l : List ByteArray) : ByteArray := ⟨(listL n l).toArray⟩
theorem listP_size (n : Nat) (l : List ByteArray) : (listP n l).size = (listL n l).length := by
  show (listL n l).toArray.size = _
  simp
theorem listP_take (l : List ByteArray) (k : Nat) (h : k < l.length) : listP l.length (l.take k) ++ textB l[k] = listP l.length (l.take (k + 1)) := by
  refine bytes_ext ?_
  rw [append_list]
  simp only [listP]
  rw [listL_take l k h]
theorem listP_zero (l : List ByteArray) : (⟨#[76]⟩ ++ numB l.length : ByteArray) = listP l.length (l.take 0) := by
  refine bytes_ext ?_
  rw [append_list]
  simp [listP, listL]
set_option maxHeartbeats 1000000 in
set_option maxRecDepth 100000 in
theorem refList_calls (A : Option Addr) (l : List ByteArray) (cap : Nat) (w : World) (hr : Kn.str.Rows w A l) (hlen : (listL l.length l).length ≤ 140737488355328) :
    Calls Try.prog 35 #[.slice A l.length cap] w fun e w' => e = .returned (.string (listB l)) ∧ Below w.heap.size w w' := by
  have hmax := hr.1
  replace hr := Lib.hid hr
  have h41 := numB_size (l.length : Int)
  have h42 := Lib.hid (listP_zero l)
  go_enter Try.func35, Try.ntmps35
  go_wp2_with ((with_reducible refine (refNumber_calls _ _).mono ?_); rintro e w1 ⟨rfl, hB⟩)
  go_loopg [3, 4] (l.length + 1) (fun kg s i wr => ∃ (k : Nat), k ≤ l.length ∧ kg = l.length + 1 - k ∧ i = .int .i64 k ∧ s = .string (listP l.length (l.take k)) ∧ Below w.heap.size w wr)
  case atStart => exact ⟨0, Nat.zero_le _, rfl, rfl, by rw [h42.out], hB⟩
  case round =>
    clear hB h41 h42
    obtain ⟨k, hk, hkg, rfl, rfl, hB⟩ := hrel
    replace hkg := Lib.hid hkg
    by_cases hlt : k < l.length
    · obtain ⟨ad, rfl, hadlt, e0⟩ := (hr.out.below hB).one_ hlt
      have hstep := listP_take l k hlt
      have hle := listL_le l (k + 1)
      rw [← listP_size, ← hstep, ByteArray.size_append] at hle
      generalize l[k] = s at e0 hstep hle
      have h5 := textB_size s
      have hy : (9223372036854775807 < (listP l.length (l.take k)).size + (s.size + 4)) = False := eq_false (by omega)
      replace hstep := Lib.hid hstep
      replace hle := Lib.hid hle
      go_wp2_with ((with_reducible refine (refText_calls s _ (by have := hle.out; omega)).mono ?_); rintro e w3 ⟨rfl, hb3⟩; replace hB := below_next' hB hb3)
      go_roundg (l.length - k)
      case measure => go_light; rw [hkg.out]; omega
      case rel => go_light; exact ⟨k + 1, by omega, by omega, by go_num, by rw [← hstep.out], hB⟩
    · have hkl : l.take k = l := List.take_of_length_le (by omega)
      rw [hkl]
      clear hkl
      go_wp2
      go_returns
      exact ⟨rfl, hB⟩
set_option maxHeartbeats 1000000 in
set_option maxRecDepth 100000 in
theorem same_calls (A B : Option Addr) (a b : List ByteArray) (ca cb : Nat) (w : World) (ha : Kn.str.Rows w A a) (hb : Kn.str.Rows w B b) :
    Calls Try.prog 36 #[.slice A a.length ca, .slice B b.length cb] w fun e w' => e = .returned (.bool (decide (a = b))) ∧ Below w.heap.size w w' := by
  have ha1 := ha.1
  have hb1 := hb.1
  replace ha := Lib.hid ha
  replace hb := Lib.hid hb
  by_cases hl : a.length = b.length
  · obtain ⟨c, hc⟩ : ∃ c, decide (a = b) = c := ⟨_, rfl⟩
    rw [hc]
    replace hc := Lib.hid hc
    go_enter Try.func36, Try.ntmps36
    have hll : ((a.length : Int) == (b.length : Int)) = true := by rw [hl]; simp
    go_wp2
    replace hl := Lib.hid hl
    clear hll
    go_loopg [5] (a.length + 1) (fun kg i wr => ∃ (k : Nat), k ≤ a.length ∧ kg = a.length + 1 - k ∧ i = .int .i64 k ∧ a.take k = b.take k ∧ Below w.heap.size w wr)
    case atStart => exact ⟨0, Nat.zero_le _, rfl, rfl, rfl, Below.refl _ _⟩
    case round =>
      obtain ⟨k, hk, hkg, rfl, htk, hB⟩ := hrel
      replace hkg := Lib.hid hkg
      by_cases hlt : k < a.length
      · have hlt' : k < b.length := by have := hl.out; omega
        obtain ⟨ad, rfl, hadlt, e0⟩ := (ha.out.below hB).one_ hlt
        obtain ⟨bd, rfl, hbdlt, e1⟩ := (hb.out.below hB).one_ hlt'
        have hs1 : a.take (k + 1) = a.take k ++ [a[k]] := List.take_succ_eq_append_getElem hlt
        have hs2 : b.take (k + 1) = b.take k ++ [b[k]] := List.take_succ_eq_append_getElem hlt'
        by_cases heq : a[k] = b[k]
        · rw [htk, heq, ← hs2] at hs1
          rw [← heq] at e1
          generalize a[k] = s at e0 e1
          replace hs1 := Lib.hid hs1
          clear hs2 heq htk
          go_wp2_with (fail)
          go_quiet (fail)
          go_wp2_with (fail)
          go_roundg (a.length - k)
          case measure => go_light; rw [hkg.out]; omega
          case rel => go_light; exact ⟨k + 1, by omega, by omega, by go_num, hs1.out, below_drewN' hB _⟩
        · have hne : decide (a = b) = false := decide_eq_false (fun h => heq (by subst h; rfl))
          obtain rfl : c = false := by rw [← hc.out]; exact hne
          have hb3 : (a[k].toList == b[k].toList) = false := by rw [beqL]; exact decide_eq_false heq
          generalize a[k] = s at e0 hb3
          generalize b[k] = t at e1 hb3
          clear hs1 hs2 heq htk hne
          go_wp2_with (fail)
          go_quiet (fail)
          go_wp2_with (fail)
          go_returns
          exact ⟨rfl, below_drewN' hB _⟩
      · have e1 : a.take k = a := List.take_of_length_le (by omega)
        have e2 : b.take k = b := List.take_of_length_le (by have := hl.out; omega)
        rw [e1, e2] at htk
        obtain rfl : c = true := by rw [← hc.out]; exact decide_eq_true htk
        clear htk e1 e2
        go_wp2
        go_returns
        exact ⟨rfl, hB⟩
  · have hll : ((a.length : Int) = (b.length : Int)) = False := eq_false (by omega)
    have hne : decide (a = b) = false := decide_eq_false (fun h => hl (by rw [h]))
    rw [hne]
    clear hne
    go_enter Try.func36, Try.ntmps36
    go_wp2
    all_goals go_returns
    all_goals exact ⟨rfl, Below.refl _ _⟩
end Go.Proofs.Ytdohmkanpdhmaaa
