/- Two answers that hold under one root, and tell unlike things: the first text in which they differ is a collision. Plain, no program. No conditions. -/
import Derived.Test.YtadmpaeblbddgaaClash3
namespace Go.Proofs.Ytadmpaeblbddgaa
open Go.RowKit
set_option linter.unusedVariables false
theorem ba_list {a b : ByteArray} (h : a.data.toList = b.data.toList) : a = b := ByteArray.ext (Array.toList_inj.1 h)
theorem app_data (a b : ByteArray) : (a ++ b).data.toList = a.data.toList ++ b.data.toList := by simp
theorem app_cancel {c a b : ByteArray} (h : c ++ a = c ++ b) : a = b := by
  have h' := congrArg (fun x : ByteArray => x.data.toList) h
  simp only [app_data] at h'
  exact ba_list (List.append_cancel_left h')
theorem NT_inj {p q p' q' : ByteArray} (hp : p.size = p'.size) (h : NT p q = NT p' q') : p = p' ∧ q = q' := by
  have h' := congrArg (fun x : ByteArray => x.data.toList) h
  simp only [NT, app_data] at h'
  have hl : (([78] : List UInt8) ++ p.data.toList).length = (([78] : List UInt8) ++ p'.data.toList).length := by
    simp only [List.length_append, Array.length_toList]
    have e1 : p.data.size = p.size := rfl
    have e2 : p'.data.size = p'.size := rfl
    omega
  obtain ⟨h1, h2⟩ := List.append_inj h' hl
  exact ⟨ba_list (List.append_cancel_left h1), ba_list h2⟩
theorem low_inj {key : ByteArray} {a b : An} (ha : a.may key = true) (hb : b.may key = true) (h : a.low key = b.low key) : a.there = b.there ∧ a.value = b.value := by
  obtain ⟨_, _, a3, _, _⟩ := may_yes ha
  obtain ⟨_, _, b3, _, _⟩ := may_yes hb
  have sz : ∀ v : ByteArray, ((((⟨#[86]⟩ : ByteArray) ++ strOfNums [(key.size : Int)]) ++ key) ++ v).size = 2 + key.size + v.size := fun v => by
    rw [ByteArray.size_append, ByteArray.size_append, ByteArray.size_append, strOfNums_size]
    show 1 + 1 + key.size + v.size = _
    omega
  unfold An.low at h
  cases hta : a.there
  · cases htb : b.there
    · exact ⟨rfl, by rw [(nilL _).1 (a3 hta), (nilL _).1 (b3 htb)]⟩
    · rw [hta, htb, if_neg (by decide), if_pos rfl] at h
      have := congrArg ByteArray.size h
      rw [sz] at this
      have e : (⟨#[69]⟩ : ByteArray).size = 1 := rfl
      omega
  · cases htb : b.there
    · rw [hta, htb, if_pos rfl, if_neg (by decide)] at h
      have := congrArg ByteArray.size h
      rw [sz] at this
      have e : (⟨#[69]⟩ : ByteArray).size = 1 := rfl
      omega
    · rw [hta, htb, if_pos rfl, if_pos rfl] at h
      exact ⟨rfl, app_cancel h⟩
theorem st_some {hf : ByteArray → ByteArray} {key : ByteArray} {a : An} {m : Nat} {x : ByteArray × Nat} (h : stC hf key a m = some x) (k : Nat) (hk : k ≤ m) : ∃ T n, stC hf key a k = some (T, n) := by
  cases hs : stC hf key a k with
  | none => rw [stC_none hf key a hs m hk] at h; cases h
  | some y => exact ⟨y.1, y.2, rfl⟩
/-- A text on the way is made of the hash of the one below, at one side. -/
theorem st_form {hf : ByteArray → ByteArray} (hh : ∀ s, (hf s).size = 32) {key : ByteArray} {a : An} (hm : a.may key = true) {k : Nat} {T T' : ByteArray} {n n' : Nat} (h : stC hf key a k = some (T, n)) (h' : stC hf key a (k + 1) = some (T', n')) :
    ∃ o : ByteArray, o.size = 32 ∧ T' = if bitQ (hf (⟨#[75]⟩ ++ key)) (255 - k) = true then NT o (hf T) else NT (hf T) o := by
  obtain ⟨y1, y2, y3, y4, y5⟩ := may_yes hm
  obtain ⟨_, i2, i3, i4⟩ := st_size hh y1 y2 y5 y4 k T n h
  rw [stC_succ hf key a k T n h] at h'
  split at h'
  · split at h'
    · cases h'
    · simp only [Option.some.injEq, Prod.mk.injEq] at h'
      exact ⟨a.proof.extract (n - 32) n, by rw [ByteArray.size_extract]; omega, h'.1.symm⟩
  · simp only [Option.some.injEq, Prod.mk.injEq] at h'
    exact ⟨emp hf k, emp_size hh k, h'.1.symm⟩
theorem firstD_some {hf : ByteArray → ByteArray} {x y : List ByteArray} : ∀ (n i : Nat), (∀ j, i ≤ j → j < i + n → (∀ m, i ≤ m → m < j → x.getD m ByteArray.empty = y.getD m ByteArray.empty) → hf (x.getD j ByteArray.empty) = hf (y.getD j ByteArray.empty)) →
    (∃ j, i ≤ j ∧ j < i + n ∧ x.getD j ByteArray.empty ≠ y.getD j ByteArray.empty) → ∃ p q, firstD x y n i = some (p, q) ∧ p ≠ q ∧ hf p = hf q
  | 0, i, _, ⟨j, h1, h2, _⟩ => by omega
  | n + 1, i, hall, ⟨j, h1, h2, h3⟩ => by
    by_cases he : x.getD i ByteArray.empty = y.getD i ByteArray.empty
    · have hji : j ≠ i := fun q => by rw [q] at h3; exact h3 he
      obtain ⟨p, q, h4, h5⟩ := firstD_some n (i + 1) (fun j' g1 g2 g3 => hall j' (by omega) (by omega) (fun m m1 m2 => by
        by_cases hmi : m = i
        · rw [hmi]; exact he
        · exact g3 m (by omega) m2)) ⟨j, by omega, by omega, h3⟩
      exact ⟨p, q, by rw [firstD, if_pos he]; exact h4, h5⟩
    · exact ⟨_, _, by rw [firstD, if_neg he], he, hall i (Nat.le_refl _) (by omega) (fun m m1 m2 => by omega)⟩
theorem texts_form {hf : ByteArray → ByteArray} {key : ByteArray} {a : An} {x : List ByteArray} (h : texts hf key a = some x) : a.may key = true ∧ ∃ T, stC hf key a 256 = some (T, 32) ∧ x = downL (txC hf key a) 256 := by
  unfold texts at h
  split at h
  · rename_i hm
    refine ⟨hm, ?_⟩
    cases hs : stC hf key a 256 with
    | none => rw [hs] at h; cases h
    | some y =>
      obtain ⟨T, n⟩ := y
      rw [hs] at h
      simp only [topC] at h
      split at h
      · rename_i hn
        subst hn
        exact ⟨T, rfl, (Option.some.inj h).symm⟩
      · cases h
  · cases h
theorem collides {hf : ByteArray → ByteArray} (hh : ∀ s, (hf s).size = 32) {key : ByteArray} {a b : An} {x y : List ByteArray} (hx : texts hf key a = some x) (hy : texts hf key b = some y)
    (hr : hf (x.getD 0 ByteArray.empty) = hf (y.getD 0 ByteArray.empty)) (hne : ¬ (a.there = b.there ∧ a.value = b.value)) : ∃ p q, firstD x y 257 0 = some (p, q) ∧ p ≠ q ∧ hf p = hf q := by
  obtain ⟨ma, Ta, sa, rfl⟩ := texts_form hx
  obtain ⟨mb, Tb, sb, rfl⟩ := texts_form hy
  have ga : ∀ j, j ≤ 256 → (downL (txC hf key a) 256).getD j ByteArray.empty = txC hf key a (256 - j) := fun j hj => downL_getD _ (Nat.le_refl _) (by omega) hj
  have gb : ∀ j, j ≤ 256 → (downL (txC hf key b) 256).getD j ByteArray.empty = txC hf key b (256 - j) := fun j hj => downL_getD _ (Nat.le_refl _) (by omega) hj
  have step : ∀ j, j ≤ 256 → (∀ m, m < j → txC hf key a (256 - m) = txC hf key b (256 - m)) → hf (txC hf key a (256 - j)) = hf (txC hf key b (256 - j)) := by
    intro j hj hpre
    cases j with
    | zero =>
      rw [ga 0 (by omega), gb 0 (by omega)] at hr
      exact hr
    | succ j =>
      have he := hpre j (Nat.lt_succ_self _)
      obtain ⟨A, na, hA⟩ := st_some sa (256 - (j + 1)) (by omega)
      obtain ⟨A', na', hA'⟩ := st_some sa (256 - j) (by omega)
      obtain ⟨B, nb, hB⟩ := st_some sb (256 - (j + 1)) (by omega)
      obtain ⟨B', nb', hB'⟩ := st_some sb (256 - j) (by omega)
      rw [txC_of hA', txC_of hB'] at he
      rw [txC_of hA, txC_of hB]
      have e1 : 256 - j = 256 - (j + 1) + 1 := by omega
      rw [e1] at hA' hB'
      obtain ⟨o, ho, fa⟩ := st_form hh ma hA hA'
      obtain ⟨o', ho', fb⟩ := st_form hh mb hB hB'
      rw [fa, fb] at he
      split at he
      · exact (NT_inj (by rw [ho, ho']) he).2
      · exact (NT_inj (by rw [hh, hh]) he).1
  refine firstD_some 257 0 (fun j _ h2 hpre => ?_) ?_
  · rw [ga j (by omega), gb j (by omega)]
    refine step j (by omega) fun m hm => ?_
    have := hpre m (Nat.zero_le _) hm
    rwa [ga m (by omega), gb m (by omega)] at this
  · refine ⟨256, by omega, by omega, fun he => hne ?_⟩
    rw [ga 256 (by omega), gb 256 (by omega)] at he
    exact low_inj ma mb (by simpa [txC, stC] using he)
/-- What the program tells of two answers, under the first one's root. -/
def wantC (hf : ByteArray → ByteArray) (key : ByteArray) (a b : An) : Bool :=
  ((rootC hf key a).2 && (rootC hf key b).2) && decide ((rootC hf key a).1 = (rootC hf key b).1) && !(decide (a.there = b.there) && decide (a.value = b.value))
theorem values_law {hf : ByteArray → ByteArray} (hh : ∀ s, (hf s).size = 32) (key : ByteArray) (a b : An) :
    (wantC hf key a b = true ∧ ∃ p q, valuesC hf (rootC hf key a).1 key a b = some (p, q) ∧ p ≠ q ∧ hf p = hf q) ∨ (wantC hf key a b = false ∧ valuesC hf (rootC hf key a).1 key a b = none) := by
  cases ha : texts hf key a with
  | none => exact .inr ⟨by simp [wantC, rootC, ha], by simp [valuesC, ha]⟩
  | some x =>
    cases hb : texts hf key b with
    | none => exact .inr ⟨by simp [wantC, rootC, ha, hb], by simp [valuesC, ha, hb]⟩
    | some y =>
      have ra : rootC hf key a = (hf (x.getD 0 ByteArray.empty), true) := by unfold rootC; rw [ha]
      have rb : rootC hf key b = (hf (y.getD 0 ByteArray.empty), true) := by unfold rootC; rw [hb]
      have hv : valuesC hf (rootC hf key a).1 key a b = if hf (x.getD 0 ByteArray.empty) = (rootC hf key a).1 ∧ hf (y.getD 0 ByteArray.empty) = (rootC hf key a).1 ∧ ¬ (a.there = b.there ∧ a.value = b.value) then firstD x y 257 0 else none := by
        unfold valuesC
        rw [ha, hb]
      rw [ra] at hv
      simp only at hv
      have hw : wantC hf key a b = (decide (hf (x.getD 0 ByteArray.empty) = hf (y.getD 0 ByteArray.empty)) && !(decide (a.there = b.there) && decide (a.value = b.value))) := by
        unfold wantC
        rw [ra, rb]
        rfl
      by_cases h1 : hf (x.getD 0 ByteArray.empty) = hf (y.getD 0 ByteArray.empty)
      · by_cases h2 : a.there = b.there ∧ a.value = b.value
        · refine .inr ⟨?_, ?_⟩
          · rw [hw, decide_eq_true h2.1, decide_eq_true h2.2, Bool.and_self, Bool.not_true, Bool.and_false]
          · rw [ra, hv, if_neg (fun q => q.2.2 h2)]
        · obtain ⟨p, q, h3, h4, h5⟩ := collides hh ha hb h1 h2
          refine .inl ⟨?_, p, q, ?_, h4, h5⟩
          · rw [hw, decide_eq_true h1, Bool.true_and, Bool.not_eq_true']
            rw [← Bool.decide_and]
            exact decide_eq_false h2
          · rw [ra, hv, if_pos ⟨trivial, h1.symm, h2⟩, h3]
      · refine .inr ⟨?_, ?_⟩
        · rw [hw, decide_eq_false h1, Bool.false_and]
        · rw [ra, hv, if_neg (fun q => h1 q.2.1.symm)]
end Go.Proofs.Ytadmpaeblbddgaa
