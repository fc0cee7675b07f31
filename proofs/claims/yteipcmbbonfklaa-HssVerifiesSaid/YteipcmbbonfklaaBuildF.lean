/- A strings.Builder of the call's own that holds a text. Conditions: at most 2^47 bytes. -/
import Derived.Test.YteipcmbbonfklaaRepeat
namespace Go.Proofs.Yteipcmbbonfklaa
open Go.RowKit
set_option linter.unusedVariables false
set_option linter.unusedSimpArgs false
/-- Block b is a builder that holds s; its rows lie from B on. -/
def BAt (B b : Nat) (s : ByteArray) (w : World) : Prop := Lib.IsBuilderF 170 5 B b (Lib.byteCells s.data.toList) w
theorem BAt.later {B b : Nat} {s : ByteArray} {w w1 : World} (h : BAt B b s w) (hl : Below w.heap.size w w1) : BAt B b s w1 := by
  have key : ∀ p, Lib.BuilderAtF 170 5 B b p (Lib.byteCells s.data.toList) w → Lib.BuilderAtF 170 5 B b p (Lib.byteCells s.data.toList) w1 := by
    intro p h
    have hlt := h.lt
    obtain ⟨hB, v, hk, ho, hne⟩ := h
    exact ⟨hB, v, (hl.block b hlt).trans hk, ho.kept (only_below hl none) (by cases v.ownBlock <;> simp), hne⟩
  exact h.elim (fun x => .inl (key _ x)) (fun x => .inr (key _ x))
theorem BAt.new (w : World) : BAt w.heap.size w.heap.size ⟨#[]⟩ (w.alloc (.cells #[.pointer none, .slice none 0 0] 170)) :=
  Lib.IsBuilderF.of (Lib.fresh_isBuilder 170 5 w)
theorem BAt.lt {B b : Nat} {s : ByteArray} {w : World} (h : BAt B b s w) : b < w.heap.size := h.elim (·.lt) (·.lt)
theorem bw_calls (B b : Nat) (s t : ByteArray) (w : World) (h : BAt B b s w) (hlen : s.size + t.size ≤ 140737488355328) (hBw : B ≤ w.heap.size) :
    Calls Try.prog 112 #[.pointer (some ⟨b, 0, none⟩), .string t] w fun e w' => e = .returned (.tuple #[.int .i64 t.size, .nilIface]) ∧ BAt B b (s ++ t) w' ∧ Below B w w' := by
  refine (writeStringF_calls B b _ t w h (by rw [Lib.byteCells_length]; simpa using hlen) hBw).mono ?_
  rintro e w' ⟨rfl, h1, h2⟩
  refine ⟨rfl, .inr ?_, h2⟩
  rw [Lib.strCells_eq, ← Lib.byteCells_append] at h1
  have e1 : (s ++ t).data.toList = s.data.toList ++ t.data.toList := by simp
  rw [e1]
  exact h1
theorem bs_calls (B b : Nat) (s : ByteArray) (w : World) (h : BAt B b s w) (h0 : s.size ≠ 0) :
    Calls Try.prog 116 #[.pointer (some ⟨b, 0, none⟩)] w fun e w' => e = .returned (.string s) ∧ BAt B b s w' ∧ Below B w w' := by
  refine (stringF_calls B b _ w h (fun e => h0 (by have : s.data.toList.length = s.size := by simp
                                                   rw [← this, e]; rfl))).mono ?_
  rintro e w' ⟨rfl, h1, h2⟩
  refine ⟨?_, h1, h2⟩
  congr 2
end Go.Proofs.Yteipcmbbonfklaa
