/- Layer 5 as plain functions: pairs by their paths, the root of some, a proof. No conditions. -/
import Derived.Test.YtknjbkbbhgjnlaaClashSpec
import Derived.Test.YtknjbkbbhgjnlaaShaR3
namespace Go.Proofs.Ytknjbkbbhgjnlaa
open Go.RowKit
set_option linter.unusedVariables false
set_option linter.unusedSimpArgs false
abbrev KV := ByteArray × ByteArray
def pathN (k : ByteArray) : ByteArray := shaN (⟨#[75]⟩ ++ k)
def ownN (p : KV) : ByteArray := shaN (((⟨#[86]⟩ ++ strOfNums [(p.1.size : Int)]) ++ p.1) ++ p.2)
def ltB (a b : ByteArray) : Bool := Op.bytesLess a.data.toList b.data.toList
def leastN : KV → List KV → KV
  | x, [] => x
  | x, y :: l => leastN (if ltB y.1 x.1 = true then y else x) l
def onB (d : Nat) (b : Bool) (p : KV) : Bool := bitQ (pathN p.1) d == b
def rootS : Nat → List KV → ByteArray
  | 0, l => match l with
    | [] => emp shaN 0
    | x :: l => ownN (leastN x l)
  | k + 1, l => match l with
    | [] => emp shaN (k + 1)
    | x :: l => shaN (NT (rootS k ((x :: l).filter (onB (255 - k) false))) (rootS k ((x :: l).filter (onB (255 - k) true))))
theorem rootS_nil (k : Nat) : rootS k [] = emp shaN k := by cases k <;> rfl
theorem rootS_zero (x : KV) (l : List KV) : rootS 0 (x :: l) = ownN (leastN x l) := rfl
theorem rootS_split (k : Nat) (l : List KV) : rootS (k + 1) l = shaN (NT (rootS k (l.filter (onB (255 - k) false))) (rootS k (l.filter (onB (255 - k) true)))) := by
  cases l with
  | nil =>
    show emp shaN (k + 1) = shaN (NT (rootS k []) (rootS k []))
    rw [rootS_nil]
    rfl
  | cons x l => rfl
/-! the order of bytes -/
theorem less_irrefl : ∀ l : List UInt8, Op.bytesLess l l = false
  | [] => rfl
  | a :: l => by simp [Op.bytesLess, less_irrefl l]
theorem less_trans : ∀ a b c : List UInt8, Op.bytesLess a b = true → Op.bytesLess b c = true → Op.bytesLess a c = true
  | a, b, [], _, h => by cases b <;> simp [Op.bytesLess] at h
  | a, [], c :: cs, h, _ => by cases a <;> simp [Op.bytesLess] at h
  | [], b :: bs, c :: cs, _, _ => rfl
  | a :: a', b :: b', c :: c', h1, h2 => by
    have ih := less_trans a' b' c'
    simp only [Op.bytesLess, Bool.or_eq_true, Bool.and_eq_true, decide_eq_true_eq, beq_iff_eq] at h1 h2 ⊢
    rcases h1 with h1 | ⟨rfl, h1⟩
    · rcases h2 with h2 | ⟨rfl, h2⟩
      · exact .inl (UInt8.lt_trans h1 h2)
      · exact .inl h1
    · rcases h2 with h2 | ⟨rfl, h2⟩
      · exact .inl h2
      · exact .inr ⟨rfl, ih h1 h2⟩
theorem less_total : ∀ a b : List UInt8, Op.bytesLess a b = false → Op.bytesLess b a = false → a = b
  | [], [], _, _ => rfl
  | [], _ :: _, h, _ => by simp [Op.bytesLess] at h
  | _ :: _, [], _, h => by simp [Op.bytesLess] at h
  | a :: a', b :: b', h1, h2 => by
    have ih := less_total a' b'
    simp only [Op.bytesLess, Bool.or_eq_false_iff, Bool.and_eq_false_iff, decide_eq_false_iff_not, beq_eq_false_iff_ne] at h1 h2
    have e : a = b := UInt8.le_antisymm (UInt8.not_lt.1 h2.1) (UInt8.not_lt.1 h1.1)
    subst e
    have h3 := h1.2.resolve_left (by simp)
    have h4 := h2.2.resolve_left (by simp)
    rw [ih h3 h4]
theorem ltB_irrefl (a : ByteArray) : ltB a a = false := less_irrefl _
theorem ltB_trans {a b c : ByteArray} (h1 : ltB a b = true) (h2 : ltB b c = true) : ltB a c = true := less_trans _ _ _ h1 h2
theorem ltB_total {a b : ByteArray} (h1 : ltB a b = false) (h2 : ltB b a = false) : a = b := by
  have := less_total _ _ h1 h2
  cases a; cases b
  simp at this
  rw [this]
theorem leastN_spec : ∀ (l : List KV) (x : KV), leastN x l ∈ x :: l ∧ ∀ y ∈ x :: l, ltB y.1 (leastN x l).1 = false
  | [], x => ⟨by simp [leastN], fun y hy => by simp at hy; subst hy; exact ltB_irrefl _⟩
  | z :: l, x => by
    obtain ⟨h1, h2⟩ := leastN_spec l (if ltB z.1 x.1 = true then z else x)
    simp only [leastN]
    generalize hq : leastN (if ltB z.1 x.1 = true then z else x) l = q at *
    by_cases hzx : ltB z.1 x.1 = true
    · rw [if_pos hzx] at h1 h2
      refine ⟨List.mem_cons_of_mem _ h1, fun y hy => ?_⟩
      rcases List.mem_cons.1 hy with rfl | hy
      · cases hq2 : ltB y.1 q.1
        · rfl
        · have := ltB_trans hzx hq2
          rw [h2 z (by simp)] at this
          cases this
      · exact h2 y hy
    · rw [if_neg hzx] at h1 h2
      have hzx' : ltB z.1 x.1 = false := by simpa using hzx
      refine ⟨?_, fun y hy => ?_⟩
      · rcases List.mem_cons.1 h1 with h | h
        · rw [h]; simp
        · exact List.mem_cons_of_mem _ (List.mem_cons_of_mem _ h)
      · rcases List.mem_cons.1 hy with rfl | hy
        · exact h2 y (by simp)
        · rcases List.mem_cons.1 hy with rfl | hy
          · have hxq := h2 x (by simp)
            cases hyq : ltB y.1 q.1
            · rfl
            · exfalso
              cases hqx : ltB q.1 x.1
              · rw [ltB_total hxq hqx] at hzx'
                rw [hzx'] at hyq
                cases hyq
              · rw [ltB_trans hyq hqx] at hzx'
                cases hzx'
          · exact h2 y (List.mem_cons_of_mem _ hy)
/-- No key twice. -/
def NK (l : List KV) : Prop := l.Pairwise (fun p q => p.1 ≠ q.1)
theorem NK.perm {l m : List KV} (h : NK l) (hp : l.Perm m) : NK m := hp.pairwise h (fun h => Ne.symm h)
theorem NK.filter {l : List KV} (h : NK l) (f : KV → Bool) : NK (l.filter f) := List.Pairwise.filter _ h
theorem NK.inj : ∀ {l : List KV}, NK l → ∀ {p q : KV}, p ∈ l → q ∈ l → p.1 = q.1 → p = q
  | [], _, _, _, hp, _, _ => by cases hp
  | a :: l, h, p, q, hp, hq, e => by
    obtain ⟨h1, h2⟩ := List.pairwise_cons.1 h
    rcases List.mem_cons.1 hp with rfl | hp
    · rcases List.mem_cons.1 hq with rfl | hq
      · rfl
      · exact absurd e (h1 q hq)
    · rcases List.mem_cons.1 hq with hq' | hq
      · exact absurd (by rw [← hq', e]) (h1 p hp)
      · exact NK.inj h2 hp hq e
theorem leastN_perm {x y : KV} {l m : List KV} (h : NK (x :: l)) (hp : (x :: l).Perm (y :: m)) : leastN x l = leastN y m := by
  obtain ⟨a1, a2⟩ := leastN_spec l x
  obtain ⟨b1, b2⟩ := leastN_spec m y
  have c1 := hp.mem_iff.2 b1
  exact h.inj a1 c1 (ltB_total (b2 _ (hp.mem_iff.1 a1)) (a2 _ c1))
theorem rootS_perm : ∀ (k : Nat) {l m : List KV}, NK l → l.Perm m → rootS k l = rootS k m := by
  intro k
  induction k with
  | zero =>
    intro l m h hp
    cases l with
    | nil => rw [List.nil_perm.1 hp]
    | cons x l =>
      cases m with
      | nil => exact absurd (List.perm_nil.1 hp) (by simp)
      | cons y m => rw [rootS_zero, rootS_zero, leastN_perm h hp]
  | succ k ih =>
    intro l m h hp
    rw [rootS_split, rootS_split, ih (h.filter _) (hp.filter _), ih (h.filter _) (hp.filter _)]
/-- One pair's root, from its own one up. -/
def climbS (p : KV) : Nat → ByteArray
  | 0 => ownN p
  | k + 1 => if bitQ (pathN p.1) (255 - k) = true then shaN (NT (emp shaN k) (climbS p k)) else shaN (NT (climbS p k) (emp shaN k))
theorem rootS_one (p : KV) : ∀ k, rootS k [p] = climbS p k
  | 0 => rfl
  | k + 1 => by
    rw [rootS_split, climbS, ← rootS_one p k]
    cases hb : bitQ (pathN p.1) (255 - k)
    · rw [if_neg (by decide)]
      simp only [List.filter, onB, hb]
      simp [rootS_nil]
    · rw [if_pos rfl]
      simp only [List.filter, onB, hb]
      simp [rootS_nil]
/-! proofs -/
def alongS (key : ByteArray) : Nat → List KV → List KV
  | 0, l => l
  | d + 1, l => (alongS key d l).filter (onB d (bitQ (pathN key) d))
def otherS (key : ByteArray) (d : Nat) (l : List KV) : List KV := (alongS key d l).filter (onB d (!bitQ (pathN key) d))
def pvS (key : ByteArray) (l : List KV) : Nat → List Nat × ByteArray
  | 0 => (List.replicate 32 0, ByteArray.empty)
  | d + 1 => if otherS key d l = [] then pvS key l d else ((pvS key l d).1.set (d / 8) ((pvS key l d).1.getD (d / 8) 0 + 128 / 2 ^ (d % 8)), (pvS key l d).2 ++ rootS (255 - d) (otherS key d l))
def proveS (key : ByteArray) (l : List KV) : ByteArray := outB (pvS key l 256).1 ++ (pvS key l 256).2
theorem alongS_perm (key : ByteArray) {l m : List KV} (hp : l.Perm m) : ∀ d, (alongS key d l).Perm (alongS key d m)
  | 0 => hp
  | d + 1 => (alongS_perm key hp d).filter _
theorem alongS_nk (key : ByteArray) {l : List KV} (h : NK l) : ∀ d, NK (alongS key d l)
  | 0 => h
  | d + 1 => (alongS_nk key h d).filter _
theorem otherS_perm (key : ByteArray) {l m : List KV} (hp : l.Perm m) (d : Nat) : (otherS key d l).Perm (otherS key d m) := (alongS_perm key hp d).filter _
theorem otherS_nk (key : ByteArray) {l : List KV} (h : NK l) (d : Nat) : NK (otherS key d l) := (alongS_nk key h d).filter _
theorem pvS_perm (key : ByteArray) {l m : List KV} (h : NK l) (hp : l.Perm m) : ∀ d, pvS key l d = pvS key m d
  | 0 => rfl
  | d + 1 => by
    have ih := pvS_perm key h hp d
    have ho := otherS_perm key hp d
    have e : (otherS key d l = []) ↔ (otherS key d m = []) := ⟨fun q => by rw [q] at ho; exact List.nil_perm.1 ho, fun q => by rw [q] at ho; exact List.perm_nil.1 ho⟩
    simp only [pvS]
    rw [ih, rootS_perm (255 - d) (otherS_nk key h d) ho]
    by_cases q : otherS key d l = []
    · rw [if_pos q, if_pos (e.1 q)]
    · rw [if_neg q, if_neg (fun x => q (e.2 x))]
theorem proveS_perm (key : ByteArray) {l m : List KV} (h : NK l) (hp : l.Perm m) : proveS key l = proveS key m := by unfold proveS; rw [pvS_perm key h hp]
theorem alongS_mem (key : ByteArray) (l : List KV) (p : KV) : ∀ d, p ∈ alongS key d l ↔ p ∈ l ∧ ∀ j, j < d → bitQ (pathN p.1) j = bitQ (pathN key) j
  | 0 => by simp [alongS]
  | d + 1 => by
    simp only [alongS, List.mem_filter, alongS_mem key l p d, onB, beq_iff_eq]
    constructor
    · rintro ⟨⟨h1, h2⟩, h3⟩
      refine ⟨h1, fun j hj => ?_⟩
      by_cases h : j = d
      · rw [h]; exact h3
      · exact h2 j (by omega)
    · rintro ⟨h1, h2⟩
      exact ⟨⟨h1, fun j hj => h2 j (by omega)⟩, h2 d (by omega)⟩
end Go.Proofs.Ytknjbkbbhgjnlaa
