/- The plain laws of lists: what was written is read again, and backwards. No conditions. -/
import Derived.Test.YtdohmkanpdhmaaaWireHSpec
import Derived.Test.YtdohmkanpdhmaaaWireL
namespace Go.Proofs.Ytdohmkanpdhmaaa
open Go.RowKit
set_option linter.unusedVariables false
set_option linter.unusedSimpArgs false
def textsB (l : List ByteArray) : ByteArray := ⟨(l.flatMap fun s => (textB s).data.toList).toArray⟩
theorem textsB_nil : textsB [] = ByteArray.empty := rfl
theorem textsB_cons (s : ByteArray) (l : List ByteArray) : textsB (s :: l) = textB s ++ textsB l := by
  refine bytes_ext ?_
  rw [append_list]
  simp [textsB]
theorem listB_eq (l : List ByteArray) : listB l = ⟨#[76]⟩ ++ (numB l.length ++ textsB l) := by
  refine bytes_ext ?_
  rw [append_list, append_list]
  simp [listB, listL, textsB]
theorem listB_size (l : List ByteArray) : (listB l).size = (listL l.length l).length := by
  show (listL l.length l).toArray.size = _
  simp
theorem texts_app : ∀ (l : List ByteArray) (t : ByteArray), (∀ s ∈ l, s.size ≤ 2147483647) → Rd.texts l.length ⟨textsB l ++ t, false⟩ = (l, ⟨t, false⟩)
  | [], t, _ => by rw [textsB_nil, ByteArray.empty_append]; rfl
  | s :: l, t, h => by
    have ih := texts_app l t (fun s' h' => h s' (by simp [h']))
    have h1 := text_app s (textsB l ++ t) (h s (by simp))
    rw [textsB_cons, ByteArray.append_assoc, List.length_cons]
    unfold Rd.texts
    rw [if_neg (by simp), h1]
    simp only
    rw [ih]
theorem texts_back : ∀ (k : Nat) (r : Rd), (Rd.texts k r).2.x = false → r.x = false ∧ (Rd.texts k r).1.length = k ∧ r.b = textsB (Rd.texts k r).1 ++ (Rd.texts k r).2.b
  | 0, r, h => ⟨h, rfl, by
    show r.b = textsB [] ++ r.b
    rw [textsB_nil, ByteArray.empty_append]⟩
  | k + 1, r, h => by
    cases hx : r.x
    · have e : Rd.texts (k + 1) r = (r.text.1 :: (Rd.texts k r.text.2).1, (Rd.texts k r.text.2).2) := by
        rw [Rd.texts, if_neg (by simp [hx])]
      rw [e] at h ⊢
      simp only at h ⊢
      obtain ⟨i1, i2, i3⟩ := texts_back k r.text.2 h
      obtain ⟨j1, j2, j3⟩ := text_back i1
      refine ⟨trivial, by rw [List.length_cons, i2], ?_⟩
      rw [textsB_cons, ByteArray.append_assoc, ← i3]
      exact j3
    · rw [texts_done _ _ (.inr hx)] at h
      simp only at h
      rw [hx] at h
      cases h
theorem readList_back {b : ByteArray} {l : List ByteArray} (hh : readList b = (l, 0)) : listB l = b := by
  unfold readList at hh
  simp only at hh
  split at hh
  case isFalse => simp at hh
  rename_i hd
  obtain ⟨d1, d2⟩ := done_back hd
  simp only [Prod.mk.injEq, and_true] at hh
  obtain ⟨t1, t2, t3⟩ := texts_back _ _ d1
  simp only [Bool.or_eq_false_iff, decide_eq_false_iff_not] at t1
  obtain ⟨e1, e2, e3, e4⟩ := num_back t1.1
  obtain ⟨f1, f2⟩ := mark_back (lit1 76) e1
  simp only at f2 t3
  rw [hh] at t3 t2
  rw [listB_eq, f2, e4, t3, d2, ByteArray.append_empty, lit1, t2, Int.toNat_of_nonneg e2]
  rfl
theorem list_app (l : List ByteArray) (hl : l.length ≤ 2147483647) : ((⟨listB l, false⟩ : Rd).mark (lit [76])).num = ((l.length : Int), ⟨textsB l, false⟩) := by
  rw [listB_eq, show lit [76] = ⟨#[76]⟩ from rfl, mark_app, num_app _ _ (by omega) (by omega)]
theorem readList_app (l : List ByteArray) (hl : l.length ≤ 1000) (hs : ∀ s ∈ l, s.size ≤ 2147483647) : readList (listB l) = (l, 0) := by
  have e := texts_app l ByteArray.empty hs
  rw [ByteArray.append_empty] at e
  unfold readList
  simp only
  rw [list_app l (by omega)]
  simp only
  have : decide (1000 < (l.length : Int)) = false := decide_eq_false (by omega)
  rw [this, Bool.or_false, Int.toNat_natCast, e]
  simp [Rd.done]
theorem readList_long (l : List ByteArray) (hl : 1000 < l.length) (hl2 : l.length ≤ 2147483647) : readList (listB l) = ([], 2) := by
  unfold readList
  simp only
  rw [list_app l hl2]
  simp only
  have : decide (1000 < (l.length : Int)) = true := decide_eq_true (by omega)
  rw [this, Bool.or_true, texts_done _ _ (.inr rfl)]
  simp [Rd.done]
/-- What is read of any bytes. -/
theorem list_cases (b : ByteArray) : readList b = ([], 2) ∨ ∃ l, readList b = (l, 0) ∧ listB l = b := by
  by_cases h : ∃ x, readList b = (x, 0)
  · obtain ⟨x, hx⟩ := h
    exact .inr ⟨x, hx, readList_back hx⟩
  · refine .inl ?_
    unfold readList at h ⊢
    simp only at h ⊢
    split at h
    · exact absurd ⟨_, rfl⟩ h
    · rename_i hd
      rw [if_neg hd]
/-! ### No bytes are of two kinds -/
theorem first_of {u : UInt8} {s b : ByteArray} (h : ⟨#[u]⟩ ++ s = b) : b.data.toList.head? = some u := by
  rw [← h, append_list]
  rfl
theorem req_first {r : Rq} {b : ByteArray} (h : r.B = b) : b.data.toList.head? = some 82 := by
  unfold Rq.B at h
  simp only [ByteArray.append_assoc] at h
  exact first_of h
theorem head_first {r : Hd} {b : ByteArray} (h : r.B = b) : b.data.toList.head? = some 72 := by
  unfold Hd.B at h
  simp only [ByteArray.append_assoc] at h
  exact first_of h
theorem list_first {l : List ByteArray} {b : ByteArray} (h : listB l = b) : b.data.toList.head? = some 76 := by
  rw [listB_eq] at h
  exact first_of h
end Go.Proofs.Ytdohmkanpdhmaaa
