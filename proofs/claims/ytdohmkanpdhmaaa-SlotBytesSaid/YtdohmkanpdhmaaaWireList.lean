/- The contract of wire.List. Condition: the bytes are at most 2^47. -/
import Derived.Test.YtdohmkanpdhmaaaWire1
import Derived.Test.YtdohmkanpdhmaaaBuild
import Derived.Test.YtdohmkanpdhmaaaShelf
import Derived.Test.YtdohmkanpdhmaaaKinds
namespace Go.Proofs.Ytdohmkanpdhmaaa
open Go.RowKit
set_option linter.unusedVariables false
set_option linter.unusedSimpArgs false
theorem builder_below {T e : TypeId} {B b : Nat} {p : Value} {bs : List Value} {w w1 : World} (h : Lib.BuilderAt T e B b p bs w) (hb : Below w.heap.size w w1) : Lib.BuilderAt T e B b p bs w1 := by
  have hlt := h.lt
  obtain ⟨hB, v, hk, ho, hne⟩ := h
  exact ⟨hB, v, (hb.block b hlt).trans hk, ho.kept (only_below hb none) (by cases v.ownBlock <;> simp), hne⟩

set_option maxHeartbeats 1000000 in
set_option maxRecDepth 100000 in
theorem list_calls (A : Option Addr) (l : List ByteArray) (cap : Nat) (w : World) (hr : Kn.str.Rows w A l) (hlen : (listL l.length l).length ≤ 140737488355328) :
    Calls Try.prog 34 #[.slice A l.length cap] w fun e w' => e = .returned (.string (listB l)) ∧ Below w.heap.size w w' := by
  have hmax := hr.1
  replace hr := Lib.hid hr
  have h4 : ∀ n, (numB n).size = 4 := fun n => by simp [numB, strOfNums_size]
  have h41 := h4 (l.length : Int)
  clear h4
  go_enter Try.func34, Try.ntmps34
  have hb0 : Lib.BuilderAt 98 5 w.heap.size w.heap.size (.pointer none) [] (w.alloc (.cells #[.pointer none, .slice none 0 0] 98)) := by
    rcases Lib.fresh_isBuilder 98 5 w with h | h
    · exact h
    · exact absurd h.cell0 (by simp)
  have hB : Below w.heap.size w (w.alloc (.cells #[.pointer none, .slice none 0 0] 98)) := by go_grown
  go_wp2_with fail
  refine (number_calls _ _).mono ?_
  rintro e w1 ⟨rfl, hb1⟩
  replace hb0 := builder_below hb0 hb1
  replace hB := below_next' hB hb1
  have hpre : Lib.strCells (⟨#[76]⟩ ++ numB l.length) = Lib.byteCells (listL l.length (l.take 0)) := by
    rw [Lib.strCells_eq]; simp [listL, ByteArray.data_append]
  have hz : (⟨#[76]⟩ ++ numB l.length : ByteArray).size = 5 := by rw [ByteArray.size_append, h41]; rfl
  replace hpre := Lib.hid hpre
  go_wp2_with fail
  refine (writeString_calls _ _ _ _ _ (.inl hb0) (by rw [hz]; simp) hB.size).mono ?_
  rintro e w2 ⟨rfl, hb2, hB2⟩
  rw [List.nil_append, hpre.out] at hb2
  replace hB := hB.trans hB2
  clear hb0 hb1 hB2 h41 hz hpre
  go_wp2_with fail
  go_loopg [13] (l.length + 1) (fun kg i wr => ∃ (k : Nat), k ≤ l.length ∧ kg = l.length + 1 - k ∧ i = .int .i64 k ∧ Lib.BuilderAt 98 5 w.heap.size w.heap.size (.pointer (some ⟨w.heap.size, 0, none⟩)) (Lib.byteCells (listL l.length (l.take k))) wr ∧ Below w.heap.size w wr)
  case atStart => exact ⟨0, Nat.zero_le _, rfl, rfl, hb2, hB⟩
  case round =>
    clear hB hb2
    obtain ⟨k, hk, hkg, rfl, hbk, hB⟩ := hrel
    replace hkg := Lib.hid hkg
    by_cases hlt : k < l.length
    · obtain ⟨ad, rfl, hadlt, e0⟩ := (hr.out.below hB).one_ hlt
      have hstep := listL_take l k hlt
      have hle := listL_le l (k + 1)
      rw [hstep, List.length_append] at hle
      generalize l[k] = s at e0 hstep hle
      have h4 : (textB s).data.toList.length = s.size + 4 := by rw [dataL, textB_size]
      have h5 := textB_size s
      replace hstep := Lib.hid hstep
      go_wp2_with fail
      refine (text_calls s _ (by omega)).mono ?_
      rintro e w3 ⟨rfl, hb3⟩
      replace hbk := builder_below hbk hb3
      replace hB := below_next' hB hb3
      go_wp2_with fail
      refine (writeString_calls _ _ _ _ _ (.inr hbk) (by rw [Lib.byteCells_length]; omega) hB.size).mono ?_
      rintro e w4 ⟨rfl, hb4, hB4⟩
      rw [Lib.strCells_eq, ← Lib.byteCells_append, ← hstep.out] at hb4
      go_wp2
      go_roundg (l.length - k)
      case measure => go_light; rw [hkg.out]; omega
      case rel => go_light; exact ⟨k + 1, by omega, by omega, by go_num, hb4, hB.trans hB4⟩
    · have hkl : l.take k = l := List.take_of_length_le (by omega)
      rw [hkl] at hbk
      clear hkl
      go_wp2_with fail
      refine (Try.Builder_String_any _ _ _ _ (.inr hbk) hB.size).mono ?_
      rintro e w5 ⟨rfl, hB5⟩
      go_wp2
      go_returns
      exact ⟨rfl, hB.trans hB5⟩
end Go.Proofs.Ytdohmkanpdhmaaa
