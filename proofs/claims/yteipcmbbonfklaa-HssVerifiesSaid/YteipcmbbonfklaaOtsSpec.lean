/- Layer 3 as plain functions. No conditions. -/
import Derived.Test.YteipcmbbonfklaaShaR3
namespace Go.Proofs.Yteipcmbbonfklaa
open Go.RowKit
set_option linter.unusedVariables false
set_option linter.unusedSimpArgs false
/-- A number's four bytes; a text's. -/
def numW (n : Int) : ByteArray := let m := if n < 0 ∨ 2147483647 < n then 0 else n
  strOfNums [m / 16777216, m / 65536 % 256, m / 256 % 256, m % 256]
def textW (s : ByteArray) : ByteArray := numW s.size ++ s
theorem numW_size (n : Int) : (numW n).size = 4 := by simp [numW, strOfNums_size]
theorem textW_size (s : ByteArray) : (textW s).size = 4 + s.size := by
  unfold textW
  rw [ByteArray.size_append, numW_size]
/-- A message's digest; its digits: of a digest's 32 bytes, the greater half first; then what lacks. -/
def dgsH (q : Nat) (msg : ByteArray) : ByteArray := shaN ((⟨#[109]⟩ ++ numW q : ByteArray) ++ textW msg)
def nibN (h : List Nat) (i : Nat) : Nat := if i % 2 = 0 then h.getD (i / 2) 0 / 16 else h.getD (i / 2) 0 % 16
def sumTo (h : List Nat) : Nat → Nat
  | 0 => 0
  | k + 1 => sumTo h k + (15 - nibN h k)
def dgsL (h : List Nat) : List Nat := (List.range 64).map (nibN h) ++ [sumTo h 64 / 256, sumTo h 64 / 16 % 16, sumTo h 64 % 16]
def dgsN (q : Nat) (msg : ByteArray) : List Nat := dgsL (bytesN (dgsH q msg))
theorem nibN_lt {h : List Nat} (hb : ∀ x ∈ h, x < 256) (i : Nat) : nibN h i < 16 := by
  have h1 : h.getD (i / 2) 0 < 256 := by
    rw [List.getD_eq_getElem?_getD]
    cases hx : h[i / 2]? with
    | none => decide
    | some x => exact hb x (List.mem_of_getElem? hx)
  unfold nibN
  split <;> omega
theorem sumTo_le (h : List Nat) : ∀ k, sumTo h k ≤ 15 * k
  | 0 => Nat.le_refl _
  | k + 1 => by
    have := sumTo_le h k
    unfold sumTo
    omega
theorem dgsL_length (h : List Nat) : (dgsL h).length = 67 := by simp [dgsL]
theorem dgsL_le {h : List Nat} (hb : ∀ x ∈ h, x < 256) : ∀ x ∈ dgsL h, x ≤ 15 := by
  intro x hx
  have hs := sumTo_le h 64
  unfold dgsL at hx
  rw [List.mem_append] at hx
  rcases hx with hx | hx
  · obtain ⟨i, -, rfl⟩ := List.mem_map.1 hx
    have := nibN_lt hb i
    omega
  · simp only [List.mem_cons, List.not_mem_nil, or_false] at hx
    rcases hx with rfl | rfl | rfl <;> omega
/-- Chains. -/
def begN (seed : ByteArray) (q i : Nat) : ByteArray := shaN (((⟨#[107]⟩ ++ textW seed : ByteArray) ++ numW q) ++ numW i)
def linkN (q i j : Nat) (x : ByteArray) : ByteArray := shaN ((((⟨#[99]⟩ ++ numW q : ByteArray) ++ numW i) ++ numW j) ++ x)
def wkN (q i a : Nat) (x : ByteArray) : Nat → ByteArray
  | 0 => x
  | k + 1 => linkN q i (a + k) (wkN q i a x k)
theorem wkN_add (q i a : Nat) (x : ByteArray) (k : Nat) : ∀ n, wkN q i (a + k) (wkN q i a x k) n = wkN q i a x (k + n)
  | 0 => rfl
  | n + 1 => by
    rw [wkN, wkN_add q i a x k n, ← Nat.add_assoc k n 1, wkN, Nat.add_assoc]
/-- Trees of keys. -/
def catN : List ByteArray → ByteArray := fun l => l.foldl (· ++ ·) ⟨#[]⟩
def endsN (seed : ByteArray) (q : Nat) (n : Nat) : ByteArray := catN ((List.range n).map fun i => wkN q i 0 (begN seed q i) 15)
def leafO (q : Nat) (ends : ByteArray) : ByteArray := shaN ((⟨#[112]⟩ ++ numW q : ByteArray) ++ ends)
def pairO (a b : ByteArray) : ByteArray := shaN ((⟨#[116]⟩ ++ a : ByteArray) ++ b)
def nodeN (seed : ByteArray) : Nat → Nat → ByteArray
  | 0, k => leafO k (endsN seed k 67)
  | h + 1, k => pairO (nodeN seed h (2 * k)) (nodeN seed h (2 * k + 1))
theorem catN_snoc (l : List ByteArray) (x : ByteArray) : catN (l ++ [x]) = catN l ++ x := by simp [catN]
theorem endsN_succ (seed : ByteArray) (q n : Nat) : endsN seed q (n + 1) = endsN seed q n ++ wkN q n 0 (begN seed q n) 15 := by
  unfold endsN
  rw [List.range_succ, List.map_append, List.map_singleton, catN_snoc]
/-- A signature: the number, 67 values, three others of the tree. -/
def sigV (seed : ByteArray) (q : Nat) (d : List Nat) (n : Nat) : ByteArray := numW q ++ catN ((List.range n).map fun i => wkN q i 0 (begN seed q i) (d.getD i 0))
def sibN (k : Nat) : Nat := if k % 2 = 1 then k - 1 else k + 1
def sigN (seed : ByteArray) (q : Nat) (msg : ByteArray) : ByteArray :=
  ((sigV seed q (dgsN q msg) 67 ++ nodeN seed 0 (sibN q)) ++ nodeN seed 1 (sibN (q / 2))) ++ nodeN seed 2 (sibN (q / 2 / 2))
end Go.Proofs.Yteipcmbbonfklaa
