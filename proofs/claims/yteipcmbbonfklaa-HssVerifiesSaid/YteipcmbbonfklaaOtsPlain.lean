/- A signature holds under its seed's public key. No conditions. -/
import Derived.Test.YteipcmbbonfklaaOts7
namespace Go.Proofs.Yteipcmbbonfklaa
open Go.RowKit
set_option linter.unusedVariables false
set_option linter.unusedSimpArgs false
theorem ba_extract (s : ByteArray) (i j : Nat) : (s.extract i j).data.toList = (s.data.toList.drop i).take (j - i) := Lib.extract_data s i j
theorem ext_left (a b : ByteArray) (i j : Nat) (h : j ≤ a.size) : (a ++ b).extract i j = a.extract i j := by
  apply ba_ext
  have hl : a.data.toList.length = a.size := by simp
  rw [ba_extract, ba_extract, ba_append]
  by_cases hi : i ≤ a.size
  · rw [List.drop_append_of_le_length (by omega), List.take_append_of_le_length (by rw [List.length_drop]; omega)]
  · rw [show j - i = 0 by omega]
    simp
theorem ext_right (a b : ByteArray) (i j : Nat) (h : i = a.size) (hj : j = a.size + b.size) : (a ++ b).extract i j = b := by
  apply ba_ext
  have hl : a.data.toList.length = a.size := by simp
  have hb : b.data.toList.length = b.size := by simp
  rw [ba_extract, ba_append, h, hj, ← hl, List.drop_left, hl, Nat.add_sub_cancel_left, ← hb, List.take_length]
theorem sibCat_size (S : ByteArray) (seed : ByteArray) (q : Nat) : ∀ h, (sibCat S (nodeN seed) q h).size = S.size + 32 * h
  | 0 => rfl
  | h + 1 => by rw [sibCat, ByteArray.size_append, sibCat_size S seed q h, nodeN_size]; omega
theorem sigV_ext (seed : ByteArray) (q : Nat) (d : List Nat) : ∀ n i, i < n → (sigV seed q d n).extract (4 + 32 * i) (36 + 32 * i) = wkN q i 0 (begN seed q i) (d.getD i 0)
  | n + 1, i, h => by
    rw [sigV_succ]
    have hz := sigV_size seed q d n
    by_cases hi : i = n
    · subst hi
      exact ext_right _ _ _ _ hz.symm (by rw [hz, wkN_32]; omega)
    · rw [ext_left _ _ _ _ (by omega)]
      exact sigV_ext seed q d n i (by omega)
theorem sibCat_low (S : ByteArray) (seed : ByteArray) (q i j : Nat) (hj : j ≤ S.size) : ∀ h, (sibCat S (nodeN seed) q h).extract i j = S.extract i j
  | 0 => rfl
  | h + 1 => by rw [sibCat, ext_left _ _ _ _ (by rw [sibCat_size]; omega), sibCat_low S seed q i j hj h]
theorem sibCat_ext (S : ByteArray) (seed : ByteArray) (q : Nat) : ∀ n h, h < n → (sibCat S (nodeN seed) q n).extract (S.size + 32 * h) (S.size + 32 + 32 * h) = nodeN seed h (sibN (q / 2 ^ h))
  | n + 1, h, hh => by
    rw [sibCat]
    have hz := sibCat_size S seed q n
    by_cases hi : h = n
    · subst hi
      exact ext_right _ _ _ _ hz.symm (by rw [hz, nodeN_size]; omega)
    · rw [ext_left _ _ _ _ (by omega)]
      exact sibCat_ext S seed q n h (by omega)
theorem sigN_size (seed : ByteArray) (q : Nat) (msg : ByteArray) : (sigN seed q msg).size = 2244 := by
  rw [sigN_cat, sibCat_size, sigV_size]
theorem numW_q : ∀ q : Nat, q < 8 → beV (bytesN (numW (q : Int))) = q := by
  intro q hq
  match q, hq with
  | 0, _ => decide
  | 1, _ => decide
  | 2, _ => decide
  | 3, _ => decide
  | 4, _ => decide
  | 5, _ => decide
  | 6, _ => decide
  | 7, _ => decide
theorem sigN_num (seed : ByteArray) (q : Nat) (hq : q < 8) (msg : ByteArray) : beV (bytesN ((sigN seed q msg).extract 0 4)) = q := by
  rw [sigN_cat, sibCat_low _ _ _ _ _ (by rw [sigV_size]; decide)]
  have h : ∀ n, (sigV seed q (dgsN q msg) n).extract 0 4 = numW q := by
    intro n
    induction n with
    | zero =>
      rw [sigV_zero]
      apply ba_ext
      rw [ba_extract, List.drop_zero, List.take_of_length_le (by simp [numW_size])]
    | succ n ih => rw [sigV_succ, ext_left _ _ _ _ (by rw [sigV_size]; omega), ih]
  rw [h]
  exact numW_q q hq
theorem sig_ends (seed : ByteArray) (q : Nat) (msg : ByteArray) : ∀ n, n ≤ 67 → cutE (sigN seed q msg) q (dgsN q msg) n = endsN seed q n
  | 0, _ => rfl
  | n + 1, h => by
    have hd : (dgsN q msg).getD n 0 ≤ 15 := by
      have hl : (dgsN q msg).length = 67 := dgsL_length _
      rw [List.getD_eq_getElem?_getD, List.getElem?_eq_getElem (show n < (dgsN q msg).length by omega)]
      exact dgsL_le (bytesN_lt _) _ (List.getElem_mem _)
    rw [cutE_succ, endsN_succ, sig_ends seed q msg n (by omega)]
    congr 1
    rw [sigN_cat, sibCat_low _ _ _ _ _ (by rw [sigV_size]; omega), sigV_ext _ _ _ _ _ (by omega)]
    have := wkN_add q n 0 (begN seed q n) ((dgsN q msg).getD n 0) (15 - (dgsN q msg).getD n 0)
    rw [Nat.zero_add] at this
    rw [this]
    congr 1
    omega
theorem node_up (seed : ByteArray) (h v : Nat) : nodeN seed (h + 1) (v / 2) = if v % 2 = 0 then pairO (nodeN seed h v) (nodeN seed h (sibN v)) else pairO (nodeN seed h (sibN v)) (nodeN seed h v) := by
  unfold sibN
  split
  · rw [if_neg (by omega)]
    show pairO (nodeN seed h (2 * (v / 2))) (nodeN seed h (2 * (v / 2) + 1)) = _
    rw [show 2 * (v / 2) = v by omega]
  · rw [if_pos (by omega)]
    show pairO (nodeN seed h (2 * (v / 2))) (nodeN seed h (2 * (v / 2) + 1)) = _
    rw [show 2 * (v / 2) = v - 1 by omega, show v - 1 + 1 = v by omega]
theorem sig_climb (seed : ByteArray) (q : Nat) (msg : ByteArray) : ∀ h, h ≤ 3 → climb (sigN seed q msg) q (cutE (sigN seed q msg) q (dgsN q msg) 67) h = nodeN seed h (q / 2 ^ h)
  | 0, _ => by
    rw [sig_ends _ _ _ _ (Nat.le_refl _), show q / 2 ^ 0 = q by omega]
    rfl
  | h + 1, hh => by
    have hx : (sigN seed q msg).extract (2148 + 32 * h) (2180 + 32 * h) = nodeN seed h (sibN (q / 2 ^ h)) := by
      have := sibCat_ext (sigV seed q (dgsN q msg) 67) seed q 3 h (by omega)
      rw [sigV_size] at this
      rw [sigN_cat]
      exact this
    rw [climb, sig_climb seed q msg h (by omega), hx, show q / 2 ^ (h + 1) = q / 2 ^ h / 2 by rw [Nat.pow_succ, Nat.div_div_eq_div_mul], node_up]
theorem sig_holds (seed : ByteArray) (q : Nat) (hq : q < 8) (msg : ByteArray) : climb (sigN seed q msg) q (cutE (sigN seed q msg) q (dgsN q msg) 67) 3 = nodeN seed 3 0 := by
  rw [sig_climb _ _ _ _ (Nat.le_refl _), show q / 2 ^ 3 = 0 by omega]
end Go.Proofs.Yteipcmbbonfklaa
