/- Layer 4 as plain functions. No conditions. -/
import Derived.Test.YtfkafejoacpclaaShaR3
namespace Go.Proofs.Ytfkafejoacpclaa
open Go.RowKit
set_option linter.unusedVariables false
set_option linter.unusedSimpArgs false
/-- The greatest power of two below n. -/
def spF : Nat → Nat → Nat → Nat
  | 0, k, n => k
  | f + 1, k, n => if 2 * k < n then spF f (2 * k) n else k
def sp (n : Nat) : Nat := spF n 1 n
theorem spF_lt : ∀ f k n, 1 ≤ k → k < n → 1 ≤ spF f k n ∧ spF f k n < n
  | 0, k, n, h1, h2 => ⟨h1, h2⟩
  | f + 1, k, n, h1, h2 => by
    rw [spF]
    split
    · exact spF_lt f (2 * k) n (by omega) (by assumption)
    · exact ⟨h1, h2⟩
theorem sp_lt {n : Nat} (h : 2 ≤ n) : 1 ≤ sp n ∧ sp n < n := spF_lt n 1 n (Nat.le_refl _) (by omega)
theorem spF_stop (f k n : Nat) (h : ¬ 2 * k < n) : spF f k n = k := by
  cases f with
  | zero => rfl
  | succ f => rw [spF, if_neg h]
def leafN (b : ByteArray) : ByteArray := shaN ((⟨#[0]⟩ : ByteArray) ++ b)
def pairN (a b : ByteArray) : ByteArray := shaN (((⟨#[1]⟩ : ByteArray) ++ a) ++ b)
/-- The root of hashes. -/
def rootN (l : List ByteArray) : ByteArray :=
  if h : l.length < 2 then (if l.length = 0 then shaN ⟨#[]⟩ else l.headD ⟨#[]⟩)
  else pairN (rootN (l.take (sp l.length))) (rootN (l.drop (sp l.length)))
termination_by l.length
decreasing_by
  · have := sp_lt (n := l.length) (by omega)
    rw [List.length_take]
    omega
  · have := sp_lt (n := l.length) (by omega)
    rw [List.length_drop]
    omega
theorem rootN_two {l : List ByteArray} (h : 2 ≤ l.length) : rootN l = pairN (rootN (l.take (sp l.length))) (rootN (l.drop (sp l.length))) := by
  rw [rootN, dif_neg (by omega)]
theorem rootN_one {l : List ByteArray} (h : l.length = 1) : rootN l = l.headD ⟨#[]⟩ := by
  rw [rootN, dif_pos (by omega), if_neg (by omega)]
theorem rootN_nil : rootN [] = shaN ⟨#[]⟩ := by
  rw [rootN, dif_pos (by decide)]
  rfl
/-- A leaf's proof. -/
def inclN (l : List ByteArray) (i : Nat) : List ByteArray :=
  if h : l.length < 2 then []
  else if i < sp l.length then inclN (l.take (sp l.length)) i ++ [rootN (l.drop (sp l.length))]
  else inclN (l.drop (sp l.length)) (i - sp l.length) ++ [rootN (l.take (sp l.length))]
termination_by l.length
decreasing_by
  · have := sp_lt (n := l.length) (by omega)
    rw [List.length_take]
    omega
  · have := sp_lt (n := l.length) (by omega)
    rw [List.length_drop]
    omega
/-- The first ones' proof. -/
def consN (l : List ByteArray) (m : Nat) (whole : Bool) : List ByteArray :=
  if m = l.length then (if whole then [] else [rootN l])
  else if h : l.length < 2 then []
  else if m ≤ sp l.length then consN (l.take (sp l.length)) m whole ++ [rootN (l.drop (sp l.length))]
  else consN (l.drop (sp l.length)) (m - sp l.length) false ++ [rootN (l.take (sp l.length))]
termination_by l.length
decreasing_by
  · have := sp_lt (n := l.length) (by omega)
    rw [List.length_take]
    omega
  · have := sp_lt (n := l.length) (by omega)
    rw [List.length_drop]
    omega
/-- A proof taken from its end: the hash, what is left, whether there was none. -/
structure Tk where
  l : List ByteArray
  bad : Bool
def Tk.take (p : Tk) : ByteArray × Tk := if p.l = [] then (⟨#[]⟩, ⟨[], true⟩) else (p.l.getLastD ⟨#[]⟩, ⟨p.l.dropLast, p.bad⟩)
/-- The root that a leaf's proof makes. -/
def rootT (leaf : ByteArray) (i n : Nat) (p : Tk) : ByteArray × Tk :=
  if h : n < 2 ∨ p.bad = true then (leaf, p)
  else if i < sp n then (pairN (rootT leaf i (sp n) p.take.2).1 p.take.1, (rootT leaf i (sp n) p.take.2).2)
  else (pairN p.take.1 (rootT leaf (i - sp n) (n - sp n) p.take.2).1, (rootT leaf (i - sp n) (n - sp n) p.take.2).2)
termination_by n
decreasing_by
  all_goals
    have := sp_lt (n := n) (by omega)
    omega
/-- The two roots that a proof of the first ones makes. -/
def bothT (m n : Nat) (first : ByteArray) (whole : Bool) (p : Tk) : (ByteArray × ByteArray) × Tk :=
  if p.bad = true then ((⟨#[]⟩, ⟨#[]⟩), p)
  else if m = n then (if whole then ((first, first), p) else ((p.take.1, p.take.1), p.take.2))
  else if h : n < 2 then ((⟨#[]⟩, ⟨#[]⟩), p)
  else if m ≤ sp n then (((bothT m (sp n) first whole p.take.2).1.1, pairN (bothT m (sp n) first whole p.take.2).1.2 p.take.1), (bothT m (sp n) first whole p.take.2).2)
  else ((pairN p.take.1 (bothT (m - sp n) (n - sp n) first false p.take.2).1.1, pairN p.take.1 (bothT (m - sp n) (n - sp n) first false p.take.2).1.2), (bothT (m - sp n) (n - sp n) first false p.take.2).2)
termination_by n
decreasing_by
  all_goals
    have := sp_lt (n := n) (by omega)
    omega
/-- The reference's: how many hashes a leaf's proof has. -/
def depthN (i n : Nat) : Nat :=
  if h : n < 2 then 0
  else if i < sp n then depthN i (sp n) + 1 else depthN (i - sp n) (n - sp n) + 1
termination_by n
decreasing_by
  all_goals
    have := sp_lt (n := n) (by omega)
    omega
theorem take_snoc (q : List ByteArray) (x : ByteArray) : (⟨q ++ [x], false⟩ : Tk).take = (x, ⟨q, false⟩) := by
  unfold Tk.take
  simp
/-- A leaf's own proof makes the root, and nothing is left. -/
theorem rootT_incl : ∀ (n : Nat) (l : List ByteArray) (i : Nat) (q : List ByteArray), l.length = n → i < n → rootT (l.getD i ⟨#[]⟩) i n ⟨q ++ inclN l i, false⟩ = (rootN l, ⟨q, false⟩) ∧ (inclN l i).length = depthN i n := by
  intro n
  induction n using Nat.strongRecOn with
  | _ n ih =>
    intro l i q hl hi
    by_cases h2 : n < 2
    · obtain rfl : n = 1 := by omega
      obtain rfl : i = 0 := by omega
      rw [rootT, dif_pos (.inl (by decide)), rootN_one hl, inclN, dif_pos (by omega), depthN, dif_pos (by decide)]
      cases l with
      | nil => cases hl
      | cons x r => simp
    · obtain ⟨h1, h3⟩ := sp_lt (n := n) (by omega)
      rw [rootT, dif_neg (by simp; omega), inclN, dif_neg (by omega), rootN_two (l := l) (by omega), depthN, dif_neg h2, hl]
      by_cases hik : i < sp n
      · rw [if_pos hik, if_pos hik, if_pos hik]
        obtain ⟨e1, e2⟩ := ih (sp n) h3 (l.take (sp n)) i q (by rw [List.length_take]; omega) hik
        have eg : (l.take (sp n)).getD i ⟨#[]⟩ = l.getD i ⟨#[]⟩ := by
          rw [List.getD_eq_getElem?_getD, List.getElem?_take, if_pos hik, ← List.getD_eq_getElem?_getD]
        rw [eg] at e1
        rw [← List.append_assoc, take_snoc]
        simp only [e1, List.length_append, List.length_singleton, e2]
        exact ⟨trivial, trivial⟩
      · rw [if_neg hik, if_neg hik, if_neg hik]
        obtain ⟨e1, e2⟩ := ih (n - sp n) (by omega) (l.drop (sp n)) (i - sp n) q (by rw [List.length_drop]; omega) (by omega)
        have eg : (l.drop (sp n)).getD (i - sp n) ⟨#[]⟩ = l.getD i ⟨#[]⟩ := by
          rw [List.getD_eq_getElem?_getD, List.getElem?_drop, show sp n + (i - sp n) = i by omega, ← List.getD_eq_getElem?_getD]
        rw [eg] at e1
        rw [← List.append_assoc, take_snoc]
        simp only [e1, List.length_append, List.length_singleton, e2]
        exact ⟨trivial, trivial⟩
/-- The reference's Up. -/
def upN (leaf : ByteArray) (i n : Nat) (p : List ByteArray) : ByteArray :=
  if h : n < 2 then leaf
  else if i < sp n then pairN (upN leaf i (sp n) p.dropLast) (p.getLastD ⟨#[]⟩) else pairN (p.getLastD ⟨#[]⟩) (upN leaf (i - sp n) (n - sp n) p.dropLast)
termination_by n
decreasing_by
  all_goals
    have := sp_lt (n := n) (by omega)
    omega
theorem rootT_bad (leaf : ByteArray) (i n : Nat) (p : Tk) (h : p.bad = true) : rootT leaf i n p = (leaf, p) := by rw [rootT, dif_pos (.inr h)]
/-- Of whatever proof: too short: bad; else what is left is what is too much; of just so many: the reference's root. -/
theorem rootT_any (leaf : ByteArray) : ∀ (n i : Nat) (p : List ByteArray), i < n → (p.length < depthN i n → (rootT leaf i n ⟨p, false⟩).2.bad = true) ∧ (depthN i n ≤ p.length → (rootT leaf i n ⟨p, false⟩).2.bad = false ∧ (rootT leaf i n ⟨p, false⟩).2.l.length = p.length - depthN i n) ∧ (depthN i n = p.length → (rootT leaf i n ⟨p, false⟩).1 = upN leaf i n p) := by
  intro n
  induction n using Nat.strongRecOn with
  | _ n ih =>
    intro i p hi
    by_cases h2 : n < 2
    · rw [rootT, dif_pos (.inl h2), depthN, dif_pos h2, upN, dif_pos h2]
      exact ⟨fun h => absurd h (by omega), fun _ => ⟨rfl, rfl⟩, fun _ => rfl⟩
    · obtain ⟨h1, h3⟩ := sp_lt (n := n) (by omega)
      rw [rootT, dif_neg (by simp; omega), depthN, dif_neg h2, upN, dif_neg h2]
      rcases List.eq_nil_or_concat p with rfl | ⟨q, x, rfl⟩
      · have et : (⟨[], false⟩ : Tk).take = (⟨#[]⟩, ⟨[], true⟩) := rfl
        by_cases hik : i < sp n
        · rw [if_pos hik, if_pos hik, if_pos hik, et]
          simp only [rootT_bad leaf i (sp n) ⟨[], true⟩ rfl]
          exact ⟨fun _ => by trivial, fun h => absurd h (by simp), fun h => absurd h (by simp)⟩
        · rw [if_neg hik, if_neg hik, if_neg hik, et]
          simp only [rootT_bad leaf (i - sp n) (n - sp n) ⟨[], true⟩ rfl]
          exact ⟨fun _ => by trivial, fun h => absurd h (by simp), fun h => absurd h (by simp)⟩
      · rw [List.concat_eq_append, take_snoc]
        have el : (q ++ [x]).length = q.length + 1 := by simp
        have ed : (q ++ [x]).dropLast = q := by simp
        have eg : (q ++ [x]).getLastD ⟨#[]⟩ = x := by simp
        by_cases hik : i < sp n
        · rw [if_pos hik, if_pos hik, if_pos hik, el, ed, eg]
          obtain ⟨c1, c2, c3⟩ := ih (sp n) h3 i q hik
          refine ⟨fun h => c1 (by omega), fun h => ⟨(c2 (by omega)).1, ?_⟩, fun h => ?_⟩
          · rw [(c2 (by omega)).2]; omega
          · simp only [c3 (by omega)]
        · rw [if_neg hik, if_neg hik, if_neg hik, el, ed, eg]
          obtain ⟨c1, c2, c3⟩ := ih (n - sp n) (by omega) (i - sp n) q (by omega)
          refine ⟨fun h => c1 (by omega), fun h => ⟨(c2 (by omega)).1, ?_⟩, fun h => ?_⟩
          · rw [(c2 (by omega)).2]; omega
          · simp only [c3 (by omega)]
end Go.Proofs.Ytfkafejoacpclaa
