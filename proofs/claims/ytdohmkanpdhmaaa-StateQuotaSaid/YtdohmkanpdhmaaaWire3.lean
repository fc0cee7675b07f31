/- Contracts of package wire: the reader's texts, marks, end. No conditions. -/
import Derived.Test.YtdohmkanpdhmaaaWire2
namespace Go.Proofs.Ytdohmkanpdhmaaa
open Go.RowKit
set_option linter.unusedVariables false
set_option linter.unusedSimpArgs false

theorem rcut (r : Rd) (n : Int) (g : Nat) (w : World) (hw : Whole w g 90 r.A) :
    Calls Try.prog 48 #[.pointer (some ⟨g, 0, none⟩), .int .i64 n] w fun e w' =>
      e = .returned (.string (r.cut n).1) ∧ Whole w' g 90 (r.cut n).2.A ∧ w.grownBy w' (some g) := cut_calls r.b r.x n g w hw
theorem rnum (r : Rd) (g : Nat) (w : World) (hw : Whole w g 90 r.A) :
    Calls Try.prog 47 #[.pointer (some ⟨g, 0, none⟩)] w fun e w' =>
      e = .returned (.int .i64 r.num.1) ∧ Whole w' g 90 r.num.2.A ∧ w.grownBy w' (some g) := rnumber_calls r.b r.x g w hw
theorem rtext (r : Rd) (g : Nat) (w : World) (hw : Whole w g 90 r.A) :
    Calls Try.prog 52 #[.pointer (some ⟨g, 0, none⟩)] w fun e w' =>
      e = .returned (.string r.text.1) ∧ Whole w' g 90 r.text.2.A ∧ w.grownBy w' (some g) := by
  go_enter Try.func52, Try.ntmps52
  go_wp2_with (go_at_call 47; refine (rnum r g _ hw).mono ?_; rintro e w1 ⟨rfl, hw1, hg1⟩)
  refine (rcut r.num.2 r.num.1 g _ hw1).mono ?_
  rintro e w2 ⟨rfl, hw2, hg2⟩
  go_wp2
  go_returns
  exact ⟨rfl, hw2, only_then hg1 hg2⟩
theorem rmark (r : Rd) (c : ByteArray) (g : Nat) (w : World) (hw : Whole w g 90 r.A) :
    Calls Try.prog 46 #[.pointer (some ⟨g, 0, none⟩), .string c] w fun e w' =>
      e = .returned (.tuple #[]) ∧ Whole w' g 90 (r.mark c).A ∧ w.grownBy w' (some g) := by
  obtain ⟨b, x⟩ := r
  have c1 := hw.cell 1
  have f1 := hw.frozen 1
  unfold Rd.A at c1
  cases x
  · go_enter Try.func46, Try.ntmps46
    go_wp2_with fail
    refine (rcut _ 1 g _ hw).mono ?_
    rintro e w1 ⟨rfl, hw1, hg1⟩
    clear c1 f1
    have c1 := hw1.cell 1
    have f1 := hw1.frozen 1
    generalize hs : ((⟨b, false⟩ : Rd).cut 1).1 = s
    have Hs := Lib.hid hs
    clear hs
    unfold Rd.A at c1
    go_wp2
    go_returns
    refine ⟨rfl, hw1.put' 1 _ ?_, only_put hg1 (.inl rfl) _⟩
    simp [Rd.mark, Rd.A, Hs.out, beqL]
  · go_enter Try.func46, Try.ntmps46
    go_wp2
    go_returns
    exact ⟨rfl, hw.put' 1 _ rfl, only_put (only_same _ _) (.inl rfl) _⟩
theorem rdone (r : Rd) (g : Nat) (w : World) (hw : Whole w g 90 r.A) :
    Calls Try.prog 49 #[.pointer (some ⟨g, 0, none⟩)] w fun e w' => e = .returned (.bool r.done) ∧ w = w' := by
  obtain ⟨b, x⟩ := r
  have c0 := hw.cell 0
  have c1 := hw.cell 1
  unfold Rd.A at c0 c1
  go_enter Try.func49, Try.ntmps49
  go_wp2
  all_goals go_returns
  all_goals go_light
  all_goals refine ⟨ret_bool ?_, rfl⟩
  all_goals simp [Rd.done, emptyL, *]
theorem right_calls (c s : Int) (l k v : ByteArray) (w : World) :
    Calls Try.prog 38 #[.agg #[.int .i64 c, .int .i64 s, .string l, .string k, .string v]] w fun e w' => e = .returned (.bool (Rq.right ⟨c, s, l, k, v⟩)) ∧ Below w.heap.size w w' := by
  go_enter Try.func38, Try.ntmps38
  go_wp2
  all_goals go_returns
  all_goals go_light
  all_goals refine ⟨ret_bool ?_, by go_grown⟩
  all_goals (try simp only [nilL] at *)
  all_goals simp [Rq.right, emptyL, *]
  all_goals (first | done | (intros; omega) | skip)
end Go.Proofs.Ytdohmkanpdhmaaa
