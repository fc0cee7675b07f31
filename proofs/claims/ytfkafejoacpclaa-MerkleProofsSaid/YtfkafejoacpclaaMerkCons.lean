/- Layer 4 as plain functions: the first ones' proof makes both roots; of whatever proof the reference's. No conditions. -/
import Derived.Test.YtfkafejoacpclaaMerkSpec
namespace Go.Proofs.Ytfkafejoacpclaa
open Go.RowKit
set_option linter.unusedVariables false
set_option linter.unusedSimpArgs false
theorem spF_fuel : ∀ (f g k n : Nat), 1 ≤ k → n ≤ k + f → n ≤ k + g → spF f k n = spF g k n
  | 0, g, k, n, h1, hf, hg => by rw [spF, spF_stop g k n (by omega)]
  | f + 1, 0, k, n, h1, hf, hg => by rw [spF_stop (f + 1) k n (by omega)]; rfl
  | f + 1, g + 1, k, n, h1, hf, hg => by
    rw [spF, spF]
    split
    · exact spF_fuel f g (2 * k) n (by omega) (by omega) (by omega)
    · rfl
theorem spF_ge : ∀ (f k n : Nat), k ≤ spF f k n
  | 0, k, n => Nat.le_refl _
  | f + 1, k, n => by
    rw [spF]
    split
    · have := spF_ge f (2 * k) n
      omega
    · exact Nat.le_refl _
theorem spF_same : ∀ (f k n m : Nat), 1 ≤ k → spF f k n < m → m ≤ n → spF f k m = spF f k n
  | 0, k, n, m, _, _, _ => rfl
  | f + 1, k, n, m, h1, h, hm => by
    rw [spF] at h
    rw [spF, spF]
    by_cases h2 : 2 * k < n
    · rw [if_pos h2] at h ⊢
      have := spF_ge f (2 * k) n
      rw [if_pos (by omega)]
      exact spF_same f (2 * k) n m (by omega) h hm
    · rw [if_neg h2, if_neg (by omega)]
theorem sp_same {n m : Nat} (h : sp n < m) (hm : m ≤ n) : sp m = sp n := by
  unfold sp at *
  rw [spF_fuel m n 1 m (Nat.le_refl _) (by omega) (by omega)]
  exact spF_same n 1 n m (Nat.le_refl _) h hm
theorem bothT_first : ∀ (n m : Nat) (f g : ByteArray) (p : Tk), bothT m n f false p = bothT m n g false p := by
  intro n
  induction n using Nat.strongRecOn with
  | _ n ih =>
    intro m f g p
    conv => lhs; rw [bothT]
    conv => rhs; rw [bothT]
    split
    · rfl
    split
    · rfl
    split
    · rfl
    · have := sp_lt (n := n) (by omega)
      rw [ih (sp n) (by omega) m f g, ih (n - sp n) (by omega) (m - sp n) f g]
/-- The first ones' own proof makes both roots, and nothing is left. -/
theorem bothT_cons : ∀ (n : Nat) (l : List ByteArray) (m : Nat) (q : List ByteArray) (whole : Bool), l.length = n → 1 ≤ m → m ≤ n → bothT m n (rootN (l.take m)) whole ⟨q ++ consN l m whole, false⟩ = ((rootN (l.take m), rootN l), ⟨q, false⟩) := by
  intro n
  induction n using Nat.strongRecOn with
  | _ n ih =>
    intro l m q whole hl h1 hm
    rw [bothT, if_neg (by simp), consN, hl]
    by_cases hmn : m = n
    · subst hmn
      rw [if_pos rfl, if_pos rfl, List.take_of_length_le (by omega)]
      cases whole
      · simp only [Bool.false_eq_true, if_false]
        rw [take_snoc]
      · simp
    · rw [if_neg hmn, if_neg hmn, dif_neg (by omega), dif_neg (by omega)]
      obtain ⟨k1, k2⟩ := sp_lt (n := n) (by omega)
      have hroot := rootN_two (l := l) (by omega)
      rw [hl] at hroot
      by_cases hk : m ≤ sp n
      · rw [if_pos hk, if_pos hk, ← List.append_assoc, take_snoc]
        have e := ih (sp n) k2 (l.take (sp n)) m q whole (by rw [List.length_take]; omega) h1 hk
        rw [List.take_take, Nat.min_eq_left hk] at e
        simp only [e, hroot]
      · rw [if_neg hk, if_neg hk, ← List.append_assoc, take_snoc]
        have e := ih (n - sp n) (by omega) (l.drop (sp n)) (m - sp n) q false (by rw [List.length_drop]; omega) (by omega) (by omega)
        rw [bothT_first _ _ _ (rootN (l.take m))] at e
        have hm2 := rootN_two (l := l.take m) (by rw [List.length_take]; omega)
        have hlm : (l.take m).length = m := by rw [List.length_take]; omega
        rw [hlm, sp_same (by omega) hm, List.take_take, Nat.min_eq_left (by omega), List.drop_take] at hm2
        rw [hm2] at e ⊢
        simp only [e, hroot]
/-- The reference's: how many hashes the proof has; the roots that it makes. -/
def lenN (m n : Nat) (whole : Bool) : Nat :=
  if m = n then (if whole then 0 else 1)
  else if h : n < 2 then 0
  else if m ≤ sp n then lenN m (sp n) whole + 1 else lenN (m - sp n) (n - sp n) false + 1
termination_by n
decreasing_by
  all_goals
    have := sp_lt (n := n) (by omega)
    omega
def bothN (m n : Nat) (first : ByteArray) (p : List ByteArray) (whole : Bool) : ByteArray × ByteArray :=
  if m = n then (if whole then (first, first) else (p.getLastD ⟨#[]⟩, p.getLastD ⟨#[]⟩))
  else if h : n < 2 then (⟨#[]⟩, ⟨#[]⟩)
  else if m ≤ sp n then ((bothN m (sp n) first p.dropLast whole).1, pairN (bothN m (sp n) first p.dropLast whole).2 (p.getLastD ⟨#[]⟩))
  else (pairN (p.getLastD ⟨#[]⟩) (bothN (m - sp n) (n - sp n) first p.dropLast false).1, pairN (p.getLastD ⟨#[]⟩) (bothN (m - sp n) (n - sp n) first p.dropLast false).2)
termination_by n
decreasing_by
  all_goals
    have := sp_lt (n := n) (by omega)
    omega
theorem bothT_bad (m n : Nat) (f : ByteArray) (whole : Bool) (p : Tk) (h : p.bad = true) : bothT m n f whole p = ((⟨#[]⟩, ⟨#[]⟩), p) := by rw [bothT, if_pos h]
theorem bothT_any (first : ByteArray) : ∀ (n m : Nat) (p : List ByteArray) (whole : Bool), 1 ≤ m → m ≤ n → (p.length < lenN m n whole → (bothT m n first whole ⟨p, false⟩).2.bad = true) ∧ (lenN m n whole ≤ p.length → (bothT m n first whole ⟨p, false⟩).2.bad = false ∧ (bothT m n first whole ⟨p, false⟩).2.l.length = p.length - lenN m n whole) ∧ (lenN m n whole = p.length → (bothT m n first whole ⟨p, false⟩).1 = bothN m n first p whole) := by
  intro n
  induction n using Nat.strongRecOn with
  | _ n ih =>
    intro m p whole h1 hm
    rw [bothT, if_neg (by simp), lenN, bothN]
    by_cases hmn : m = n
    · rw [if_pos hmn, if_pos hmn, if_pos hmn]
      cases whole
      · simp only [Bool.false_eq_true, if_false]
        rcases List.eq_nil_or_concat p with rfl | ⟨q, x, rfl⟩
        · exact ⟨fun _ => rfl, fun h => absurd h (by simp), fun h => absurd h (by simp)⟩
        · rw [List.concat_eq_append, take_snoc]
          simp
      · simp
    · rw [if_neg hmn, if_neg hmn, if_neg hmn, dif_neg (by omega), dif_neg (by omega), dif_neg (by omega)]
      obtain ⟨k1, k2⟩ := sp_lt (n := n) (by omega)
      rcases List.eq_nil_or_concat p with rfl | ⟨q, x, rfl⟩
      · have et : (⟨[], false⟩ : Tk).take = (⟨#[]⟩, ⟨[], true⟩) := rfl
        by_cases hk : m ≤ sp n
        · rw [if_pos hk, if_pos hk, if_pos hk, et]
          simp only [bothT_bad m (sp n) first whole ⟨[], true⟩ rfl]
          exact ⟨fun _ => by trivial, fun h => absurd h (by simp), fun h => absurd h (by simp)⟩
        · rw [if_neg hk, if_neg hk, if_neg hk, et]
          simp only [bothT_bad (m - sp n) (n - sp n) first false ⟨[], true⟩ rfl]
          exact ⟨fun _ => by trivial, fun h => absurd h (by simp), fun h => absurd h (by simp)⟩
      · rw [List.concat_eq_append, take_snoc]
        have el : (q ++ [x]).length = q.length + 1 := by simp
        have ed : (q ++ [x]).dropLast = q := by simp
        have eg : (q ++ [x]).getLastD ⟨#[]⟩ = x := by simp
        by_cases hk : m ≤ sp n
        · rw [if_pos hk, if_pos hk, if_pos hk, el, ed, eg]
          obtain ⟨c1, c2, c3⟩ := ih (sp n) k2 m q whole h1 hk
          refine ⟨fun h => c1 (by omega), fun h => ⟨(c2 (by omega)).1, ?_⟩, fun h => ?_⟩
          · rw [(c2 (by omega)).2]; omega
          · simp only [c3 (by omega)]
        · rw [if_neg hk, if_neg hk, if_neg hk, el, ed, eg]
          obtain ⟨c1, c2, c3⟩ := ih (n - sp n) (by omega) (m - sp n) q false (by omega) (by omega)
          refine ⟨fun h => c1 (by omega), fun h => ⟨(c2 (by omega)).1, ?_⟩, fun h => ?_⟩
          · rw [(c2 (by omega)).2]; omega
          · simp only [c3 (by omega)]
end Go.Proofs.Ytfkafejoacpclaa
