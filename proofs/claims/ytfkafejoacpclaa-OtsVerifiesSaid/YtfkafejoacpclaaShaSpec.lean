/- SHA-256 as plain functions over natural numbers. No conditions. -/
import Derived.Test.YtfkafejoacpclaaWords
import Derived.Laws.BitsAllLaws
namespace Go.Proofs.Ytfkafejoacpclaa
open Go.RowKit
set_option linter.unusedVariables false
/-- A word turned right. -/
def rr (n x : Nat) : Nat := (x * 4294967296 + x) / 2 ^ n % 4294967296
theorem rr_lt (n x : Nat) : rr n x < 4294967296 := Nat.mod_lt _ (by decide)
/-- The eight words on their way. -/
structure V8 where
  a : Nat
  b : Nat
  c : Nat
  d : Nat
  e : Nat
  f : Nat
  g : Nat
  h : Nat
def V8.ok (v : V8) : Prop := v.a < 4294967296 ∧ v.b < 4294967296 ∧ v.c < 4294967296 ∧ v.d < 4294967296 ∧ v.e < 4294967296 ∧ v.f < 4294967296 ∧ v.g < 4294967296 ∧ v.h < 4294967296
def V8.L (v : V8) : List Nat := [v.a, v.b, v.c, v.d, v.e, v.f, v.g, v.h]
def chN (e f g : Nat) : Nat := (e &&& f) ^^^ ((4294967295 - e) &&& g)
def majN (a b c : Nat) : Nat := ((a &&& b) ||| (a &&& c)) ||| (b &&& c)
def V8.t1 (v : V8) (k w : Nat) : Nat := v.h + ((rr 6 v.e ^^^ rr 11 v.e) ^^^ rr 25 v.e) + chN v.e v.f v.g + k + w
def V8.t2 (v : V8) : Nat := ((rr 2 v.a ^^^ rr 13 v.a) ^^^ rr 22 v.a) + majN v.a v.b v.c
def V8.round (v : V8) (k w : Nat) : V8 := ⟨(v.t1 k w + v.t2) % 4294967296, v.a, v.b, v.c, (v.d + v.t1 k w) % 4294967296, v.e, v.f, v.g⟩
theorem V8.round_ok {v : V8} (h : v.ok) (k w : Nat) : (v.round k w).ok := by
  obtain ⟨h1, h2, h3, h4, h5, h6, h7, h8⟩ := h
  exact ⟨Nat.mod_lt _ (by decide), h1, h2, h3, Nat.mod_lt _ (by decide), h5, h6, h7⟩
def V8.plus (v u : V8) : V8 := ⟨(v.a + u.a) % 4294967296, (v.b + u.b) % 4294967296, (v.c + u.c) % 4294967296, (v.d + u.d) % 4294967296, (v.e + u.e) % 4294967296, (v.f + u.f) % 4294967296, (v.g + u.g) % 4294967296, (v.h + u.h) % 4294967296⟩
theorem V8.plus_ok (v u : V8) : (v.plus u).ok := ⟨Nat.mod_lt _ (by decide), Nat.mod_lt _ (by decide), Nat.mod_lt _ (by decide), Nat.mod_lt _ (by decide), Nat.mod_lt _ (by decide), Nat.mod_lt _ (by decide), Nat.mod_lt _ (by decide), Nat.mod_lt _ (by decide)⟩
/-- A block's word number i, of the bytes; a later one, of those ahead. -/
def byteWord (b : List Nat) (i : Nat) : Nat := ((b.getD (4 * i) 0 * 256 + b.getD (4 * i + 1) 0) * 256 + b.getD (4 * i + 2) 0) * 256 + b.getD (4 * i + 3) 0
def nextWord (w : List Nat) (i : Nat) : Nat :=
  (w.getD (i - 16) 0 + w.getD (i - 7) 0 + ((rr 7 (w.getD (i - 15) 0) ^^^ rr 18 (w.getD (i - 15) 0)) ^^^ w.getD (i - 15) 0 / 8) + ((rr 17 (w.getD (i - 2) 0) ^^^ rr 19 (w.getD (i - 2) 0)) ^^^ w.getD (i - 2) 0 / 1024)) % 4294967296
/-- The first n words. -/
def words (b : List Nat) : Nat → List Nat
  | 0 => []
  | n + 1 => words b n ++ [if n < 16 then byteWord b n else nextWord (words b n) n]
theorem words_length (b : List Nat) (n : Nat) : (words b n).length = n := by
  induction n with
  | zero => rfl
  | succ n ih => simp [words, ih]
theorem byteWord_lt {b : List Nat} (hb : ∀ x ∈ b, x < 256) (i : Nat) : byteWord b i < 4294967296 := by
  have h : ∀ j, b.getD j 0 < 256 := fun j => by
    rw [List.getD_eq_getElem?_getD]
    cases hj : b[j]? with
    | none => simp
    | some x => exact hb x (List.mem_of_getElem? hj)
  have := h (4 * i); have := h (4 * i + 1); have := h (4 * i + 2); have := h (4 * i + 3)
  unfold byteWord
  omega
theorem words_lt {b : List Nat} (hb : ∀ x ∈ b, x < 256) (n : Nat) : ∀ x ∈ words b n, x < 4294967296 := by
  induction n with
  | zero => intro x hx; cases hx
  | succ n ih =>
    intro x hx
    simp only [words, List.mem_append, List.mem_singleton] at hx
    rcases hx with hx | rfl
    · exact ih x hx
    · split
      · exact byteWord_lt hb n
      · exact Nat.mod_lt _ (by decide)
/-- So many rounds. -/
def rounds (K w : List Nat) (v : V8) : Nat → V8
  | 0 => v
  | n + 1 => (rounds K w v n).round (K.getD n 0) (w.getD n 0)
theorem rounds_ok (K w : List Nat) {v : V8} (h : v.ok) (n : Nat) : (rounds K w v n).ok := by
  induction n with
  | zero => exact h
  | succ n ih => exact V8.round_ok ih _ _
/-- A block put in. -/
def blockN (K b : List Nat) (h : V8) : V8 := h.plus (rounds K (words b 64) h 64)
/-- Numbers in a row of one block. -/
def arr (k : IntKind) (l : List Nat) : Array Value := (l.map fun (n : Nat) => Value.int k (n : Int)).toArray
theorem arr_size (k : IntKind) (l : List Nat) : (arr k l).size = l.length := by simp [arr]
theorem arr_cell {W : World} {g : Nat} {T : TypeId} {k : IntKind} {l : List Nat} (h : Whole W g T (arr k l)) {i : Nat} (hi : i < l.length) : W.cell? ⟨g, i, none⟩ = some (.int k ((l.getD i 0 : Nat) : Int)) := by
  rw [h.cell i]
  simp [arr, hi]
theorem arr_put {W : World} {g : Nat} {T : TypeId} {k : IntKind} {l : List Nat} (h : Whole W g T (arr k l)) (i n : Nat) : Whole (W.setCell ⟨g, i, none⟩ (.int k (n : Int))) g T (arr k (l.set i n)) := by
  refine h.put' i _ ?_
  apply Array.ext_getElem?
  intro j
  simp only [arr, List.setIfInBounds_toArray, List.getElem?_toArray, List.map_set]
theorem getD_set (l : List Nat) (i j n : Nat) : (l.set i n).getD j 0 = if i = j ∧ i < l.length then n else l.getD j 0 := by
  simp only [List.getD_eq_getElem?_getD, List.getElem?_set]
  by_cases h : i = j
  · subst h
    by_cases h2 : i < l.length
    · simp [h2]
    · simp [h2]
  · simp [h]
theorem getD_lt {l : List Nat} {m : Nat} (hm : 0 < m) (h : ∀ x ∈ l, x < m) (j : Nat) : l.getD j 0 < m := by
  rw [List.getD_eq_getElem?_getD]
  cases hj : l[j]? with
  | none => simpa using hm
  | some x => exact h x (List.mem_of_getElem? hj)
end Go.Proofs.Ytfkafejoacpclaa
