/- The reference's history: what it computes; its greatest number. No conditions. -/
import Derived.Test.YtdohmkanpdhmaaaSlot1
import Derived.Test.YtdohmkanpdhmaaaWireL
namespace Go.Proofs.Ytdohmkanpdhmaaa
open Go.RowKit
set_option linter.unusedVariables false
set_option linter.unusedSimpArgs false
/-- A history: what was promised, accepted, with what values. -/
structure HS where
  pl : List Int
  al : List Int
  vl : List ByteArray
def most (l : List Int) : Int := l.foldl max 0
theorem most_snoc (l : List Int) (n : Int) : most (l ++ [n]) = max (most l) n := by simp [most]
def HS.play (h : HS) (a : Bool) (n : Int) (v : ByteArray) : HS × Bool :=
  if n < 1 ∨ 2147483647 < n ∨ n < most h.pl ∨ (n = most h.pl ∧ a = false) then (h, false)
  else (⟨h.pl ++ [n], if a then h.al ++ [n] else h.al, if a then h.vl ++ [v] else h.vl⟩, true)
def HS.now (h : HS) : SL := ⟨most h.pl, h.al.getLast?.getD 0, h.vl.getLast?.getD ByteArray.empty⟩
/-- Each answer, and the place, of a call. -/
theorem plays_step {h : HS} {s : SL} (hs : s = h.now) (hl : h.al.length = h.vl.length) (a : Bool) (n : Int) (v : ByteArray) :
    (h.play a n v).2 = (if a then (s.accept n v).2 else (s.promise n).2) ∧ (h.play a n v).1.now = (if a then (s.accept n v).1 else (s.promise n).1) ∧ (h.play a n v).1.al.length = (h.play a n v).1.vl.length := by
  subst hs
  unfold HS.play
  cases a
  · simp only [Bool.false_eq_true, if_false, and_true]
    unfold SL.promise HS.now
    by_cases hc : n < 1 ∨ 2147483647 < n ∨ n < most h.pl ∨ n = most h.pl
    · rw [if_pos hc, if_neg (by simp [balB]; omega)]
      exact ⟨rfl, rfl, hl⟩
    · rw [if_neg hc, if_pos (by simp [balB]; omega)]
      refine ⟨rfl, ?_, hl⟩
      simp only [most_snoc]
      rw [Int.max_eq_right (by omega)]
  · simp only [if_true, Bool.true_eq_false, and_false, or_false]
    unfold SL.accept HS.now
    by_cases hc : n < 1 ∨ 2147483647 < n ∨ n < most h.pl
    · rw [if_pos hc, if_neg (by simp [balB]; omega)]
      exact ⟨rfl, rfl, hl⟩
    · rw [if_neg hc, if_pos (by simp [balB]; omega)]
      refine ⟨rfl, ?_, by simp [hl]⟩
      simp only [most_snoc]
      rw [Int.max_eq_right (by omega)]
      simp
set_option maxRecDepth 100000 in
theorem most_calls (A : Option Addr) (l : List Int) (cap : Nat) (w : World) (hr : (Kn.int .i64).Rows w A l) :
    Calls Try.prog 43 #[.slice A l.length cap] w fun e w' => e = .returned (.int .i64 (most l)) ∧ w = w' := by
  have hmax := hr.1
  replace hr := Lib.hid hr
  go_enter Try.func43, Try.ntmps43
  go_wp2
  go_loop [3, 4] (fun n i => ∃ k : Nat, k ≤ l.length ∧ i = .int .i64 k ∧ n = .int .i64 (most (l.take k))) (fun _ i => l.length - (intOf i).toNat)
  case atStart => exact ⟨0, Nat.zero_le _, rfl, rfl⟩
  case round =>
    obtain ⟨k, hk, rfl, rfl⟩ := hrel
    by_cases hlt : k < l.length
    · obtain ⟨ad, rfl, hadlt, e0⟩ := hr.out.one_ hlt
      have hstep : l.take (k + 1) = l.take k ++ [l[k]] := List.take_succ_eq_append_getElem hlt
      generalize l[k] = s at e0 hstep
      replace hstep := Lib.hid hstep
      go_wp2
      go_light
      refine ⟨⟨k + 1, by omega, rfl, ?_⟩, by simp [intOf]; omega⟩
      rw [hstep.out, most_snoc]
      congr 1
      split <;> omega
    · have hkl : l.take k = l := List.take_of_length_le (by omega)
      rw [hkl]
      clear hkl
      go_wp2
      go_returns
      exact ⟨rfl, rfl⟩
end Go.Proofs.Ytdohmkanpdhmaaa
