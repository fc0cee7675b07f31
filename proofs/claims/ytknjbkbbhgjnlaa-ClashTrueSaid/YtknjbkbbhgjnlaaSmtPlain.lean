/- Layer 5, plain law: a proof that was made holds, for its key, if no other key has its path. No program in sight. -/
import Derived.Test.YtknjbkbbhgjnlaaSmtSpec
import Derived.Test.YtknjbkbbhgjnlaaPDig
namespace Go.Proofs.Ytknjbkbbhgjnlaa
open Go.RowKit
set_option linter.unusedVariables false
set_option linter.unusedSimpArgs false
theorem ext_mid {A X t : ByteArray} {i j : Nat} (hi : A.size = i) (hj : i + X.size = j) : ((A ++ X) ++ t).extract i j = X := by
  have hl : A.data.toList.length = i := by simpa using hi
  have hx : X.data.toList.length = j - i := by simp; omega
  apply ba_ext
  rw [Lib.extract_data, ba_append, ba_append, List.append_assoc, ← hl, List.drop_left, hl, ← hx, List.take_left]
theorem shaN_len (s : ByteArray) : (shaN s).size = 32 := by simp only [shaN, outB_size, flat_size]; rfl
theorem rootS_size (k : Nat) (l : List KV) : (rootS k l).size = 32 := by
  cases l with
  | nil => rw [rootS_nil]; cases k <;> exact shaN_len _
  | cons x l =>
    cases k with
    | zero => exact shaN_len _
    | succ k => rw [rootS_split]; exact shaN_len _
/-- The bits that a proof's head has. -/
def bitL (B : List Nat) (j : Nat) : Nat := B.getD (j / 8) 0 / 2 ^ (7 - j % 8) % 2
theorem low_bits (x r : Nat) (hx : x < 256) (hr : r < 8) (h : ∀ s, r ≤ s → s < 8 → x / 2 ^ (7 - s) % 2 = 0) : ∃ q, q < 256 ∧ x = q * 2 ^ (8 - r) := by
  have h0 := h 0; have h1 := h 1; have h2 := h 2; have h3 := h 3
  have h4 := h 4; have h5 := h 5; have h6 := h 6; have h7 := h 7
  clear h
  refine ⟨x / 2 ^ (8 - r), Nat.lt_of_le_of_lt (Nat.div_le_self _ _) hx, ?_⟩
  have hr' : r = 0 ∨ r = 1 ∨ r = 2 ∨ r = 3 ∨ r = 4 ∨ r = 5 ∨ r = 6 ∨ r = 7 := by omega
  rcases hr' with rfl | rfl | rfl | rfl | rfl | rfl | rfl | rfl
  all_goals
    simp at h0 h1 h2 h3 h4 h5 h6 h7 ⊢
    omega
theorem add_all : ∀ r : Fin 8, ∀ q : Fin 256, q.1 * 2 ^ (8 - r.1) < 256 → q.1 * 2 ^ (8 - r.1) + 128 / 2 ^ r.1 < 256 ∧ ∀ s : Fin 8, (q.1 * 2 ^ (8 - r.1) + 128 / 2 ^ r.1) / 2 ^ (7 - s.1) % 2 = if s.1 = r.1 then 1 else q.1 * 2 ^ (8 - r.1) / 2 ^ (7 - s.1) % 2 := by decide +kernel
theorem addbit (x r : Nat) (hx : x < 256) (hr : r < 8) (h : ∀ s, r ≤ s → s < 8 → x / 2 ^ (7 - s) % 2 = 0) : x + 128 / 2 ^ r < 256 ∧ ∀ s, s < 8 → (x + 128 / 2 ^ r) / 2 ^ (7 - s) % 2 = if s = r then 1 else x / 2 ^ (7 - s) % 2 := by
  obtain ⟨q, hq, rfl⟩ := low_bits x r hx hr h
  obtain ⟨h1, h2⟩ := add_all ⟨r, hr⟩ ⟨q, hq⟩ hx
  exact ⟨h1, fun s hs => h2 ⟨s, hs⟩⟩
theorem or_add : ∀ r : Fin 8, ∀ q : Fin 256, q.1 * 2 ^ (8 - r.1) < 256 → (q.1 * 2 ^ (8 - r.1)) ||| (128 / 2 ^ r.1) = q.1 * 2 ^ (8 - r.1) + 128 / 2 ^ r.1 := by decide +kernel
theorem orbit (x r : Nat) (hx : x < 256) (hr : r < 8) (h : ∀ s, r ≤ s → s < 8 → x / 2 ^ (7 - s) % 2 = 0) : x ||| (128 / 2 ^ r) = x + 128 / 2 ^ r := by
  obtain ⟨q, hq, rfl⟩ := low_bits x r hx hr h
  exact or_add ⟨r, hr⟩ ⟨q, hq⟩ hx
structure PvOk (key : ByteArray) (l : List KV) (d : Nat) : Prop where
  len : (pvS key l d).1.length = 32
  byte : ∀ i, (pvS key l d).1.getD i 0 < 256
  bit : ∀ j, j < 256 → bitL (pvS key l d).1 j = if j < d ∧ otherS key j l ≠ [] then 1 else 0
  rest : ∃ n, (pvS key l d).2.size = 32 * n ∧ n ≤ d
theorem getD_setN (l : List Nat) (i j x : Nat) (hi : i < l.length) : (l.set i x).getD j 0 = if i = j then x else l.getD j 0 := by
  rw [List.getD_eq_getElem?_getD, List.getElem?_set]
  by_cases h : i = j
  · subst h; simp [hi]
  · simp [h, List.getD_eq_getElem?_getD]
theorem pvOk (key : ByteArray) (l : List KV) : ∀ d, d ≤ 256 → PvOk key l d := by
  intro d
  induction d with
  | zero =>
    intro _
    refine ⟨by simp [pvS], fun i => ?_, fun j hj => ?_, ⟨0, rfl, Nat.le_refl _⟩⟩
    · simp only [pvS, List.getD_eq_getElem?_getD, List.getElem?_replicate]
      split <;> simp
    · simp only [pvS, bitL, List.getD_eq_getElem?_getD, List.getElem?_replicate]
      have hno : ¬ (j < 0 ∧ otherS key j l ≠ []) := fun q => absurd q.1 (Nat.not_lt_zero _)
      rw [if_neg hno]
      split <;> simp
  | succ d ih =>
    intro hd
    obtain ⟨h1, h2, h3, n, h4, h5⟩ := ih (by omega)
    by_cases ho : otherS key d l = []
    · have e : pvS key l (d + 1) = pvS key l d := by simp only [pvS]; rw [if_pos ho]
      refine ⟨by rw [e]; exact h1, by rw [e]; exact h2, fun j hj => ?_, ⟨n, by rw [e]; exact h4, by omega⟩⟩
      rw [e, h3 j hj]
      by_cases hjd : j = d
      · rw [hjd, if_neg (by omega), if_neg (by rintro ⟨_, q⟩; exact q ho)]
      · by_cases hq : otherS key j l = []
        · rw [if_neg (by rintro ⟨_, q⟩; exact q hq), if_neg (by rintro ⟨_, q⟩; exact q hq)]
        · by_cases hlt : j < d
          · rw [if_pos ⟨hlt, hq⟩, if_pos ⟨by omega, hq⟩]
          · rw [if_neg (by omega), if_neg (by omega)]
    · have e : pvS key l (d + 1) = ((pvS key l d).1.set (d / 8) ((pvS key l d).1.getD (d / 8) 0 + 128 / 2 ^ (d % 8)), (pvS key l d).2 ++ rootS (255 - d) (otherS key d l)) := by simp only [pvS]; rw [if_neg ho]
      have hz : ∀ s, d % 8 ≤ s → s < 8 → (pvS key l d).1.getD (d / 8) 0 / 2 ^ (7 - s) % 2 = 0 := by
        intro s hs1 hs2
        have := h3 (d / 8 * 8 + s) (by omega)
        rw [if_neg (by omega)] at this
        unfold bitL at this
        rw [show (d / 8 * 8 + s) / 8 = d / 8 by omega, show (d / 8 * 8 + s) % 8 = s by omega] at this
        exact this
      obtain ⟨a1, a2⟩ := addbit _ (d % 8) (h2 (d / 8)) (by omega) hz
      refine ⟨by rw [e]; simpa using h1, fun i => ?_, fun j hj => ?_, ⟨n + 1, by rw [e]; simp only; rw [ByteArray.size_append, h4, rootS_size]; omega, by omega⟩⟩
      · rw [e]
        simp only
        rw [getD_setN _ _ _ _ (by omega)]
        split
        · exact a1
        · exact h2 i
      · rw [e]
        unfold bitL
        simp only
        rw [getD_setN _ _ _ _ (by omega)]
        by_cases hb : d / 8 = j / 8
        · rw [if_pos hb, a2 _ (Nat.mod_lt _ (by decide))]
          have := h3 j hj
          unfold bitL at this
          rw [← hb] at this
          rw [this]
          by_cases hjd : j % 8 = d % 8
          · have : j = d := by omega
            subst this
            rw [if_pos rfl, if_pos ⟨by omega, ho⟩]
          · rw [if_neg hjd]
            by_cases hlt : j < d
            · by_cases hq : otherS key j l = []
              · rw [if_neg (by rintro ⟨_, q⟩; exact q hq), if_neg (by rintro ⟨_, q⟩; exact q hq)]
              · rw [if_pos ⟨hlt, hq⟩, if_pos ⟨by omega, hq⟩]
            · rw [if_neg (by omega), if_neg (by omega)]
        · rw [if_neg hb]
          have := h3 j hj
          unfold bitL at this
          rw [this]
          by_cases hq : otherS key j l = []
          · rw [if_neg (by rintro ⟨_, q⟩; exact q hq), if_neg (by rintro ⟨_, q⟩; exact q hq)]
          · by_cases hlt : j < d
            · rw [if_pos ⟨hlt, hq⟩, if_pos ⟨by omega, hq⟩]
            · rw [if_neg (by omega), if_neg (by omega)]
theorem proveS_size (key : ByteArray) (l : List KV) : ∃ n, (proveS key l).size = 32 + 32 * n ∧ n ≤ 256 := by
  obtain ⟨h1, _, _, n, h4, h5⟩ := pvOk key l 256 (Nat.le_refl _)
  exact ⟨n, by unfold proveS; rw [ByteArray.size_append, outB_size, h1, h4], h5⟩
theorem proveS_bit (key : ByteArray) (l : List KV) (j : Nat) (hj : j < 256) : bitQ (proveS key l) j = decide (otherS key j l ≠ []) := by
  obtain ⟨h1, h2, h3, _⟩ := pvOk key l 256 (Nat.le_refl _)
  have hb := h3 j hj
  have e : bitN (proveS key l) j = bitL (pvS key l 256).1 j := by
    unfold bitN bitL proveS
    clear h3 hb
    generalize pvS key l 256 = P at *
    have hlt : j / 8 < P.1.length := by omega
    congr 2
    rw [List.getD_eq_getElem?_getD, List.getD_eq_getElem?_getD]
    have e1 : (outB P.1 ++ P.2).data.toList = P.1.map UInt8.ofNat ++ P.2.data.toList := by
      rw [ByteArray.data_append, Array.toList_append]; rfl
    rw [e1, List.getElem?_append_left (by simpa using hlt), List.getElem?_map]
    have hx := h2 (j / 8)
    rw [List.getD_eq_getElem?_getD] at hx
    rw [List.getElem?_eq_getElem hlt] at hx ⊢
    simp only [Option.map_some, Option.getD_some] at hx ⊢
    rw [UInt8.toNat_ofNat']
    exact Nat.mod_eq_of_lt hx
  unfold bitQ
  rw [e, hb]
  by_cases hq : otherS key j l = []
  · rw [if_neg (by rintro ⟨_, q⟩; exact q hq)]; simp [hq]
  · rw [if_pos ⟨hj, hq⟩]; simp [hq]
/-- The rest, in parts. -/
theorem pvS_rest (key : ByteArray) (l : List KV) (d : Nat) : ∀ m, ∃ t, (pvS key l (d + m)).2 = (pvS key l d).2 ++ t
  | 0 => ⟨ByteArray.empty, by simp⟩
  | m + 1 => by
    obtain ⟨t, ht⟩ := pvS_rest key l d m
    rw [← Nat.add_assoc]
    simp only [pvS]
    split
    · exact ⟨t, ht⟩
    · exact ⟨t ++ rootS (255 - (d + m)) (otherS key (d + m) l), by simp only [ht]; rw [ByteArray.append_assoc]⟩
theorem bits_ext {a b : ByteArray} (ha : a.size = 32) (hb : b.size = 32) (h : ∀ j, j < 256 → bitQ a j = bitQ b j) : a = b := by
  have hN : ∀ j, j < 256 → bitN a j = bitN b j := by
    intro j hj
    have h1 := h j hj
    unfold bitQ at h1
    have h2 : bitN a j < 2 := Nat.mod_lt _ (by decide)
    have h3 : bitN b j < 2 := Nat.mod_lt _ (by decide)
    by_cases q : bitN a j = 1
    · rw [q] at h1; simp at h1; omega
    · have : ¬ bitN b j = 1 := fun r => by rw [r] at h1; simp [q] at h1
      omega
  have : a.data = b.data := by
    apply Array.ext
    · exact ha.trans hb.symm
    · intro i h1 h2
      have hi : i < 32 := by rw [← ha]; exact h1
      have hk : ∀ r, r < 8 → a.data[i].toNat / 2 ^ (7 - r) % 2 = b.data[i].toNat / 2 ^ (7 - r) % 2 := by
        intro r hr
        have := hN (i * 8 + r) (by omega)
        unfold bitN at this
        rw [show (i * 8 + r) / 8 = i by omega, show (i * 8 + r) % 8 = r by omega] at this
        rw [List.getD_eq_getElem?_getD, List.getD_eq_getElem?_getD, List.getElem?_eq_getElem (by simpa using h1), List.getElem?_eq_getElem (by simpa using h2)] at this
        simpa using this
      have x1 := a.data[i].toNat_lt
      have x2 := b.data[i].toNat_lt
      apply UInt8.toNat_inj.1
      have k0 := hk 0 (by decide); have k1 := hk 1 (by decide); have k2 := hk 2 (by decide); have k3 := hk 3 (by decide)
      have k4 := hk 4 (by decide); have k5 := hk 5 (by decide); have k6 := hk 6 (by decide); have k7 := hk 7 (by decide)
      generalize a.data[i].toNat = x at *
      generalize b.data[i].toNat = y at *
      simp at k0 k1 k2 k3 k4 k5 k6 k7
      omega
  cases a; cases b
  simp at this
  rw [this]
/-- What the map tells of a key. -/
def Told (l : List KV) (key : ByteArray) (th : Bool) (v : ByteArray) : Prop := if th = true then (key, v) ∈ l else ∀ p ∈ l, p.1 ≠ key
theorem along_end {l : List KV} {key : ByteArray} {th : Bool} {v : ByteArray} (hn : NK l) (hap : ∀ p ∈ l, pathN p.1 = pathN key → p.1 = key) (ht : Told l key th v) : alongS key 256 l = if th = true then [(key, v)] else [] := by
  have hm : ∀ p, p ∈ alongS key 256 l ↔ p ∈ l ∧ p.1 = key := by
    intro p
    rw [alongS_mem]
    constructor
    · rintro ⟨h1, h2⟩
      exact ⟨h1, hap p h1 (bits_ext (shaN_len _) (shaN_len _) h2)⟩
    · rintro ⟨h1, h2⟩
      exact ⟨h1, fun j _ => by rw [h2]⟩
  have hnk := alongS_nk key hn 256
  unfold Told at ht
  cases th
  · rw [if_neg (by decide)] at ht ⊢
    cases hq : alongS key 256 l with
    | nil => rfl
    | cons x r =>
      have := (hm x).1 (by rw [hq]; simp)
      exact absurd this.2 (ht x this.1)
  · rw [if_pos rfl] at ht ⊢
    have h1 := (hm (key, v)).2 ⟨ht, rfl⟩
    cases hq : alongS key 256 l with
    | nil => rw [hq] at h1; cases h1
    | cons x r =>
      rw [hq] at hnk h1
      have hx := (hm x).1 (by rw [hq]; simp)
      have e : x = (key, v) := hn.inj hx.1 ht hx.2
      cases r with
      | nil => rw [e]
      | cons y r =>
        have hy := (hm y).1 (by rw [hq]; simp)
        have := (List.pairwise_cons.1 hnk).1 y (by simp)
        exact absurd (hx.2.trans hy.2.symm) this
theorem filter_both (d : Nat) (b : Bool) (l : List KV) (h : l.filter (onB d (!b)) = []) : l.filter (onB d b) = l := by
  rw [List.filter_eq_self]
  intro p hp
  rw [List.filter_eq_nil_iff] at h
  have := h p hp
  unfold onB at *
  cases hb : bitQ (pathN p.1) d <;> cases b <;> simp_all
theorem stC_zero (hf : ByteArray → ByteArray) (key : ByteArray) (a : An) : stC hf key a 0 = some (a.low key, a.proof.size) := rfl
/-- THE LAW: what was made holds. -/
theorem holds_own {l : List KV} {key : ByteArray} {th : Bool} {v : ByteArray} (hn : NK l) (hap : ∀ p ∈ l, pathN p.1 = pathN key → p.1 = key) (ht : Told l key th v) :
    ∀ k, k ≤ 256 → ∃ T, stC shaN key ⟨th, v, proveS key l⟩ k = some (T, 32 + (pvS key l (256 - k)).2.size) ∧ shaN T = rootS k (alongS key (256 - k) l) := by
  intro k
  induction k with
  | zero =>
    intro _
    have hz : (proveS key l).size = 32 + (pvS key l (256 - 0)).2.size := by
      rw [Nat.sub_zero]
      have hl := (pvOk key l 256 (Nat.le_refl _)).len
      unfold proveS
      generalize pvS key l 256 = P at *
      rw [ByteArray.size_append, outB_size, hl]
    refine ⟨An.low key ⟨th, v, proveS key l⟩, ?_, ?_⟩
    · rw [stC_zero, hz]
    rw [Nat.sub_zero]
    rw [along_end hn hap ht]
    cases th
    · rfl
    · rfl
  | succ k ih =>
    intro hk
    obtain ⟨T, h1, h2⟩ := ih (by omega)
    obtain ⟨d, hd⟩ : ∃ d, d = 255 - k := ⟨_, rfl⟩
    have hdk : 256 - k = d + 1 := by omega
    have hdk' : 256 - (k + 1) = d := by omega
    rw [hdk] at h1 h2
    rw [hdk', stC_succ _ _ _ _ _ _ h1, ← hd]
    simp only
    rw [proveS_bit key l d (by omega)]
    have hsp := rootS_split k (alongS key d l)
    rw [← hd] at hsp
    have hal : alongS key (d + 1) l = (alongS key d l).filter (onB d (bitQ (pathN key) d)) := rfl
    have hot : otherS key d l = (alongS key d l).filter (onB d (!bitQ (pathN key) d)) := rfl
    have hPQ : shaN (⟨#[75]⟩ ++ key) = pathN key := rfl
    rw [hPQ]
    by_cases ho : otherS key d l = []
    · rw [if_neg (by simp [ho])]
      have hpv : pvS key l (d + 1) = pvS key l d := by simp only [pvS]; rw [if_pos ho]
      rw [hpv]
      refine ⟨_, rfl, ?_⟩
      rw [hsp]
      rw [hot] at ho
      cases hb : bitQ (pathN key) d
      · rw [hb] at ho hal
        rw [if_neg (by decide), h2, hal]
        simp only [Bool.not_false] at ho
        rw [ho, rootS_nil]
      · rw [hb] at ho hal
        rw [if_pos rfl, h2, hal]
        simp only [Bool.not_true] at ho
        rw [ho, rootS_nil]
    · rw [if_pos (by simp [ho])]
      have hpv : pvS key l (d + 1) = ((pvS key l d).1.set (d / 8) ((pvS key l d).1.getD (d / 8) 0 + 128 / 2 ^ (d % 8)), (pvS key l d).2 ++ rootS (255 - d) (otherS key d l)) := by simp only [pvS]; rw [if_neg ho]
      have hsz : (pvS key l (d + 1)).2.size = (pvS key l d).2.size + 32 := by rw [hpv]; simp only; rw [ByteArray.size_append, rootS_size]
      have hx : (proveS key l).extract (32 + (pvS key l (d + 1)).2.size - 32) (32 + (pvS key l (d + 1)).2.size) = rootS k (otherS key d l) := by
        obtain ⟨t, htt⟩ := pvS_rest key l (d + 1) (256 - (d + 1))
        rw [show d + 1 + (256 - (d + 1)) = 256 by omega] at htt
        have hh : (outB (pvS key l 256).1).size = 32 := by rw [outB_size, (pvOk key l 256 (Nat.le_refl _)).len]
        have e : proveS key l = ((outB (pvS key l 256).1 ++ (pvS key l d).2) ++ rootS k (otherS key d l)) ++ t := by
          unfold proveS
          rw [htt, hpv]
          simp only
          rw [show 255 - d = k by omega]
          simp only [ByteArray.append_assoc]
        rw [e, hsz]
        apply ext_mid
        · rw [ByteArray.size_append, hh]; omega
        · rw [rootS_size]; omega
      rw [hx]
      rw [if_neg (by rw [hsz]; omega)]
      refine ⟨_, by rw [hsz, show 32 + ((pvS key l d).2.size + 32) - 32 = 32 + (pvS key l d).2.size by omega], ?_⟩
      rw [hsp]
      cases hb : bitQ (pathN key) d
      · rw [hb] at hal hot
        rw [if_neg (by decide), h2, hal, hot]
        rfl
      · rw [hb] at hal hot
        rw [if_pos rfl, h2, hal, hot]
        rfl
end Go.Proofs.Ytknjbkbbhgjnlaa
