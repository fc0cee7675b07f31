/- Layer 9 as plain functions on bytes. No conditions. -/
import Derived.Test.YtknjbkbbhgjnlaaToolA
namespace Go.Proofs.Ytknjbkbbhgjnlaa
open Go.RowKit
/-- A path's bit. -/
def bitN (p : ByteArray) (i : Nat) : Nat := (p.data.toList.getD (i / 8) 0).toNat / 2 ^ (7 - i % 8) % 2
def bitQ (p : ByteArray) (i : Nat) : Bool := decide (bitN p i = 1)
def NT (a b : ByteArray) : ByteArray := (⟨#[78]⟩ ++ a) ++ b
/-- The empty roots, from the lowest. -/
def emp (hf : ByteArray → ByteArray) : Nat → ByteArray
  | 0 => hf ⟨#[69]⟩
  | k + 1 => hf (NT (emp hf k) (emp hf k))
/-- A row that is filled from its end: behind k steps. -/
def downL (f : Nat → ByteArray) (k : Nat) : List ByteArray := List.replicate (256 - k) ByteArray.empty ++ ((List.range (k + 1)).map f).reverse
theorem downL_length (f : Nat → ByteArray) {k : Nat} (hk : k ≤ 256) : (downL f k).length = 257 := by simp [downL]; omega
theorem downL_step (f : Nat → ByteArray) {k : Nat} (hk : k < 256) : (downL f k).set (255 - k) (f (k + 1)) = downL f (k + 1) := by
  obtain ⟨m, hm⟩ : ∃ m, 256 - k = m + 1 := ⟨255 - k, by omega⟩
  simp only [downL, hm, show 255 - k = m by omega, show 256 - (k + 1) = m by omega]
  rw [List.replicate_succ', List.append_assoc, List.set_append_right _ _ (by simp), List.length_replicate, Nat.sub_self]
  rw [List.range_succ (n := k + 1), List.map_append, List.reverse_append]
  rfl
theorem downL_getD (f : Nat → ByteArray) {k d : Nat} (hk : k ≤ 256) (h1 : 256 - k ≤ d) (h2 : d ≤ 256) : (downL f k).getD d ByteArray.empty = f (256 - d) := by
  rw [List.getD_eq_getElem?_getD, downL, List.getElem?_append_right (by simpa using h1)]
  simp only [List.length_replicate]
  rw [List.getElem?_reverse (by simp; omega)]
  simp only [List.length_map, List.length_range, List.getElem?_map]
  rw [List.getElem?_range (by omega)]
  simp only [Option.map_some, Option.getD_some]
  congr 1
  omega
def e257 : List ByteArray := List.replicate 257 ByteArray.empty
theorem e257_length : e257.length = 257 := List.length_replicate
theorem downL_zero (f : Nat → ByteArray) : e257.set 256 (f 0) = downL f 0 := by
  unfold e257
  show _ = List.replicate 256 ByteArray.empty ++ [f 0]
  rw [show (257 : Nat) = 256 + 1 from rfl, List.replicate_succ', List.set_append_right _ _ (by rw [List.length_replicate]; exact Nat.le_refl _), List.length_replicate, Nat.sub_self]
  rfl
theorem downL_congr {f g : Nat → ByteArray} {k : Nat} (h : ∀ j, j ≤ k → f j = g j) : downL f k = downL g k := by
  simp only [downL]
  congr 2
  exact List.map_congr_left fun j hj => h j (by simp at hj; omega)
/-- An answer. -/
structure An where
  there : Bool
  value : ByteArray
  proof : ByteArray
def An.A (a : An) : Array Value := #[.bool a.there, .string a.value, .string a.proof]
/-- An answer that may hold, by its sizes. -/
def An.may (key : ByteArray) (a : An) : Bool := !(decide (255 < key.size) || decide (255 < a.value.size) || (!a.there && decide (0 < a.value.size)) || decide (a.proof.size < 32) || decide (a.proof.size % 32 ≠ 0))
def An.low (key : ByteArray) (a : An) : ByteArray := if a.there then ((⟨#[86]⟩ ++ strOfNums [(key.size : Int)]) ++ key) ++ a.value else ⟨#[69]⟩
/-- Behind k steps up: the text, and where the hashes that are left end. -/
def stC (hf : ByteArray → ByteArray) (key : ByteArray) (a : An) : Nat → Option (ByteArray × Nat)
  | 0 => some (a.low key, a.proof.size)
  | k + 1 => match stC hf key a k with
    | none => none
    | some (T, n) =>
      if bitQ a.proof (255 - k) = true then
        if n = 32 then none else some (if bitQ (hf (⟨#[75]⟩ ++ key)) (255 - k) = true then NT (a.proof.extract (n - 32) n) (hf T) else NT (hf T) (a.proof.extract (n - 32) n), n - 32)
      else some (if bitQ (hf (⟨#[75]⟩ ++ key)) (255 - k) = true then NT (emp hf k) (hf T) else NT (hf T) (emp hf k), n)
theorem stC_succ (hf : ByteArray → ByteArray) (key : ByteArray) (a : An) (k : Nat) (T : ByteArray) (n : Nat) (h : stC hf key a k = some (T, n)) : stC hf key a (k + 1) =
      if bitQ a.proof (255 - k) = true then
        if n = 32 then none else some (if bitQ (hf (⟨#[75]⟩ ++ key)) (255 - k) = true then NT (a.proof.extract (n - 32) n) (hf T) else NT (hf T) (a.proof.extract (n - 32) n), n - 32)
      else some (if bitQ (hf (⟨#[75]⟩ ++ key)) (255 - k) = true then NT (emp hf k) (hf T) else NT (hf T) (emp hf k), n) := by
  rw [stC, h]
theorem stC_none (hf : ByteArray → ByteArray) (key : ByteArray) (a : An) {k : Nat} (h : stC hf key a k = none) : ∀ m, k ≤ m → stC hf key a m = none := by
  intro m hm
  induction m with
  | zero => rw [← h]; congr 1; omega
  | succ m ih =>
    by_cases hkm : k = m + 1
    · rw [← hkm]; exact h
    · rw [stC, ih (by omega)]
def txC (hf : ByteArray → ByteArray) (key : ByteArray) (a : An) (k : Nat) : ByteArray := ((stC hf key a k).map (·.1)).getD ByteArray.empty
theorem txC_of {hf : ByteArray → ByteArray} {key : ByteArray} {a : An} {k : Nat} {T : ByteArray} {n : Nat} (h : stC hf key a k = some (T, n)) : txC hf key a k = T := by simp [txC, h]
/-- All texts; none: it can't hold. -/
def topC (hf : ByteArray → ByteArray) (key : ByteArray) (a : An) : Option (ByteArray × Nat) → Option (List ByteArray)
  | some (_, n) => if n = 32 then some (downL (txC hf key a) 256) else none
  | none => none
def texts (hf : ByteArray → ByteArray) (key : ByteArray) (a : An) : Option (List ByteArray) :=
  if a.may key = true then topC hf key a (stC hf key a 256) else none
def rootC (hf : ByteArray → ByteArray) (key : ByteArray) (a : An) : ByteArray × Bool :=
  match texts hf key a with
  | some l => (hf (l.getD 0 ByteArray.empty), true)
  | none => (ByteArray.empty, false)
end Go.Proofs.Ytknjbkbbhgjnlaa
