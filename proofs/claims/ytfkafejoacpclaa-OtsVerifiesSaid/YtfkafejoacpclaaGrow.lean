/- A region that draws its order, walked once, in the order of the text: its operations only read, or make memory. No conditions. -/
import Derived.Test.YtfkafejoacpclaaWords
import Derived.StillTail
namespace Go.Proofs.Ytfkafejoacpclaa
open Go.RowKit
set_option linter.unusedVariables false
set_option linter.unusedSimpArgs false
/-- w' is w with new blocks alone. -/
abbrev Later (w w' : World) : Prop := Below w.heap.size w w'
theorem Later.refl (w : World) : Later w w := Below.refl _ _
theorem Later.trans {a b c : World} (h : Later a b) (k : Later b c) : Later a c := Below.trans h (Below.mono k h.size)
theorem Later.drew {a b : World} (h : Later a b) : Later a b.drew := Below.drew h
theorem Later.alloc {a b : World} (h : Later a b) (o : Obj) : Later a (b.alloc o) := Below.alloc h h.size o
theorem Later.cell {a b : World} (h : Later a b) {p : Addr} {v : Value} (hc : a.cell? p = some v) : b.cell? p = some v := cell_keep hc h
theorem Later.whole {a b : World} (h : Later a b) {g : Nat} {t : TypeId} {cs : Array Value} (hw : Whole a g t cs) : Whole b g t cs := hw.below h hw.lt
/-- What is known of an operation's value. -/
abbrev Fact := Value → World → Prop
abbrev Env := List (Option Tmp × Fact)
section
variable {P : Program} {ops : Array Oper}
/-- What is known of a slot. -/
def Known (a0 : Act) (env : Env) (a : Act) (w : World) (t : Tmp) : Prop :=
  match env.find? (fun e => e.1 == some t) with
  | some e => e.2 (a.eval (.tmp t)) w
  | none => a.eval (.tmp t) = a0.eval (.tmp t)
/-- An operation gives a value of which so much is known, and makes memory at most. -/
def Gives (P : Program) (ops : Array Oper) (o : Oper) (a : Act) (w : World) (F : Fact) : Prop :=
  if Region.wanted o (yielded ops a.tmps) then o.wp P a w (fun a' w' => ∃ v, a' = a.put o.dst v ∧ F v w' ∧ Later w w') (fun _ _ _ => False) else F undef w
def wpG (P : Program) (ops : Array Oper) (a0 : Act) (w0 : World) (Fin : Env → Prop) : List Oper → Env → Prop
  | [], env => Fin env
  | o :: rest, env => ∃ F : Fact, (∀ v w w', Later w w' → F v w → F v w') ∧
      (∀ a w, Later w0 w → (∀ t, (o.looksAt ops).contains t = true → Known a0 env a w t) → Gives P ops o a w F) ∧ wpG P ops a0 w0 Fin rest ((o.dst, F) :: env)
/-- Behind all of them. -/
def fin (K : Act → World → Prop) : Env → Act → World → Prop
  | [], a, w => K a w
  | (d, F) :: rest, a, w => ∀ v, F v w → fin K rest (a.put d v) w
theorem wp_monoQ {o : Oper} {a : Act} {w : World} {K K' : Act → World → Prop} {Q : Exit → Act → World → Prop} (h : ∀ a w, K a w → K' a w) (hh : o.wp P a w K (fun _ _ _ => False)) : o.wp P a w K' Q := by
  unfold Oper.wp at *
  generalize (execOp a.eval o).run P w = r at *
  cases r with
  | ok n w' =>
    cases n <;> simp only [Oper.upon] at hh ⊢ <;>
      first
        | exact h _ _ hh
        | exact Calls.mono hh (fun e w'' he => by
            cases e with
            | returned v => exact h _ _ he
            | panicked c => exact he.elim
            | outgrown => obtain ⟨x, y, hq⟩ := he; exact hq.elim)
        | exact Rows.mono hh (fun _ _ he => h _ _ he)
  | halt x w' => cases x <;> simp only [Oper.upon] at hh ⊢ <;> exact hh.elim
theorem wpG_spec {a0 : Act} {w0 : World} {Fin : Env → Prop} : ∀ (l : List Oper) (env : Env), wpG P ops a0 w0 Fin l env → ∃ E : Env, E.length = l.length ∧ Fin (E.reverse ++ env) ∧ ∀ i o, l[i]? = some o → ∃ F : Fact, E[i]? = some (o.dst, F) ∧ (∀ v w w', Later w w' → F v w → F v w') ∧
      ∀ a w, Later w0 w → (∀ t, (o.looksAt ops).contains t = true → Known a0 ((E.take i).reverse ++ env) a w t) → Gives P ops o a w F
  | [], env, h => ⟨[], rfl, by have h' : Fin env := h; simpa using h', fun i o h => by simp at h⟩
  | o :: rest, env, ⟨F, hs, ho, hr⟩ => by
    obtain ⟨E, hl, hf, hE⟩ := wpG_spec rest ((o.dst, F) :: env) hr
    refine ⟨(o.dst, F) :: E, by simp [hl], by simpa using hf, fun i o' hi => ?_⟩
    cases i with
    | zero =>
      simp at hi
      subst hi
      exact ⟨F, rfl, hs, by simpa using ho⟩
    | succ i =>
      obtain ⟨F', h1, h2, h3⟩ := hE i o' (by simpa using hi)
      exact ⟨F', by simpa using h1, h2, by simpa using h3⟩
/-- The first n operations done, no other. -/
def headDone (n m : Nat) : Array Bool := Array.replicate n true ++ Array.replicate (m - n) false
/-- What a region must be like: the first n operations wait for whatever they look at, each writes a slot of its own; the rest comes behind them, one by one. -/
def growB (ops : Array Oper) (n sz : Nat) : Bool :=
  decide (n ≤ ops.size) && (List.range n).all (fun i => match ops[i]? with
    | none => false
    | some o => o.after.all (fun e => !Region.binds .any e || decide (e.on < i)) && (match o.dst with | none => true | some d => decide (d < sz) && !(o.looksAt ops).contains d) &&
      (List.range n).all (fun j => j == i || match ops[j]? with
        | none => true
        | some oj => match oj.dst with
          | none => true
          | some d => o.dst != some d && (!(o.looksAt ops).contains d || (decide (j < i) && Region.waitsFor .any ops i j) || (decide (i < j) && Region.waitsFor .any ops j i)))) &&
  (n == ops.size || (Region.sinkB .any ops n && Region.chainB .any ops n)) && Region.seqB .any ops (ops.size - n) n (headDone n ops.size)
structure GOk (ops : Array Oper) (n sz : Nat) : Prop where
  le : n ≤ ops.size
  back : ∀ i o, i < n → ops[i]? = some o → ∀ e ∈ o.after, Region.binds .any e = true → e.on < i
  fit : ∀ i o d, i < n → ops[i]? = some o → o.dst = some d → d < sz ∧ (o.looksAt ops).contains d = false
  own : ∀ i j o oj d, i < n → j < n → i ≠ j → ops[i]? = some o → ops[j]? = some oj → oj.dst = some d → o.dst ≠ some d
  flow : ∀ i j o oj d, i < n → j < n → i ≠ j → ops[i]? = some o → ops[j]? = some oj → oj.dst = some d → (o.looksAt ops).contains d = true → (j < i ∧ Region.waitsFor .any ops i j = true) ∨ (i < j ∧ Region.waitsFor .any ops j i = true)
  tail : n = ops.size ∨ (Region.sinkB .any ops n = true ∧ Region.chainB .any ops n = true)
  seq : Region.seqB .any ops (ops.size - n) n (headDone n ops.size) = true
theorem GOk.of {n sz : Nat} (h : growB ops n sz = true) : GOk ops n sz := by
  simp only [growB, Bool.and_eq_true, decide_eq_true_eq, List.all_eq_true, List.mem_range, Bool.or_eq_true, beq_iff_eq] at h
  obtain ⟨⟨⟨hle, hall⟩, ht⟩, hq⟩ := h
  refine ⟨hle, ?_, ?_, ?_, ?_, ht, hq⟩
  · intro i o hi ho e he hb
    have h1 := hall i hi
    simp only [ho, Bool.and_eq_true] at h1
    have h2 := Array.all_eq_true_iff_forall_mem.1 h1.1.1 e he
    simp only [hb, Bool.not_true, Bool.false_or, decide_eq_true_eq] at h2
    exact h2
  · intro i o d hi ho hd
    have h1 := hall i hi
    simp only [ho, Bool.and_eq_true] at h1
    have h2 := h1.1.2
    simp only [hd, Bool.and_eq_true, decide_eq_true_eq, Bool.not_eq_true'] at h2
    exact h2
  · intro i j o oj d hi hj hne ho hoj hd
    have h1 := hall i hi
    simp only [ho, Bool.and_eq_true, List.all_eq_true, List.mem_range, Bool.or_eq_true, beq_iff_eq] at h1
    have h2 := (h1.2 j hj).resolve_left (Ne.symm hne)
    simp only [hoj, hd, Bool.and_eq_true, bne_iff_ne] at h2
    exact h2.1
  · intro i j o oj d hi hj hne ho hoj hd hc
    have h1 := hall i hi
    simp only [ho, Bool.and_eq_true, List.all_eq_true, List.mem_range, Bool.or_eq_true, beq_iff_eq] at h1
    have h2 := (h1.2 j hj).resolve_left (Ne.symm hne)
    simp only [hoj, hd, Bool.and_eq_true, bne_iff_ne, hc, Bool.not_true, Bool.false_or, Bool.or_eq_true, decide_eq_true_eq] at h2
    exact h2.2
def cntN (listed : Array Bool) : Nat → Nat
  | 0 => 0
  | n + 1 => cntN listed n + if listed.getD n true = false then 1 else 0
theorem cntN_ge {listed : Array Bool} {i : Nat} : ∀ n, n ≤ i → cntN (listed.setIfInBounds i true) n = cntN listed n
  | 0, _ => rfl
  | n + 1, h => by
    simp only [cntN]
    rw [cntN_ge n (by omega), getD_set_ne true (by omega)]
theorem cntN_set {listed : Array Bool} {i : Nat} (hs : i < listed.size) (hu : listed.getD i true = false) : ∀ n, i < n → cntN (listed.setIfInBounds i true) n + 1 = cntN listed n
  | 0, h => absurd h (Nat.not_lt_zero _)
  | n + 1, h => by
    simp only [cntN]
    by_cases hin : i = n
    · subst hin
      rw [cntN_ge i (Nat.le_refl _), if_pos hu, if_neg (by simp [hs])]
      
    · have := cntN_set hs hu n (by omega)
      rw [getD_set_ne true hin]
      omega
theorem cntN_zero {listed : Array Bool} : ∀ n, cntN listed n = 0 → ∀ i, i < n → listed.getD i true = true
  | 0, _, _, h => absurd h (Nat.not_lt_zero _)
  | n + 1, h, i, hi => by
    simp only [cntN] at h
    by_cases hin : i = n
    · subst hin
      cases hl : listed.getD i true with
      | true => rfl
      | false => simp [hl] at h
    · exact cntN_zero n (by omega) i (by omega)
theorem cntN_pos {listed : Array Bool} : ∀ n, 0 < cntN listed n → ∃ i, i < n ∧ listed.getD i true = false
  | 0, h => absurd h (Nat.lt_irrefl _)
  | n + 1, h => by
    simp only [cntN] at h
    cases hl : listed.getD n true with
    | false => exact ⟨n, Nat.lt_succ_self _, hl⟩
    | true =>
      simp [hl] at h
      obtain ⟨i, hi, h2⟩ := cntN_pos n h
      exact ⟨i, by omega, h2⟩
structure GInv (ops : Array Oper) (E : Env) (n : Nat) (a0 : Act) (w0 : World) (listed : Array Bool) (a : Act) (w : World) : Prop where
  later : Later w0 w
  size : a.tmps.size = a0.tmps.size
  defers : a.defers = a0.defers
  old : ∀ t, (∀ i o, i < n → ops[i]? = some o → listed.getD i false = true → o.dst ≠ some t) → a.eval (.tmp t) = a0.eval (.tmp t)
  new : ∀ i o F, i < n → ops[i]? = some o → E[i]? = some (o.dst, F) → listed.getD i false = true → ∃ v, F v w ∧ ∀ d, o.dst = some d → a.eval (.tmp d) = v
theorem eval_put_ne (a : Act) (dst : Option Tmp) (v : Value) (t : Tmp) (h : dst ≠ some t) : (a.put dst v).eval (.tmp t) = a.eval (.tmp t) :=
  Act.eval_put fun d hd e => h (by injection e with e; rw [hd, e])
theorem eval_put_eq (a : Act) (d : Tmp) (v : Value) (h : d < a.tmps.size) : (a.put (some d) v).eval (.tmp d) = v := by
  simp [Act.put, Act.eval, h]
theorem put_size (a : Act) (dst : Option Tmp) (v : Value) : (a.put dst v).tmps.size = a.tmps.size := by cases dst <;> simp [Act.put]
theorem put_def (a : Act) (dst : Option Tmp) (v : Value) : (a.put dst v).defers = a.defers := by cases dst <;> rfl
/-- A look-up in what is known of the first i. -/
theorem known_find {E : Env} {n sz i : Nat} {o : Oper} (hok : GOk ops n sz) (hE : ∀ j oj, j < n → ops[j]? = some oj → ∃ F : Fact, E[j]? = some (oj.dst, F)) (hin : i < n) (ho : ops[i]? = some o) (t : Tmp) :
    ((E.take i).reverse.find? (fun e => e.1 == some t) = none ∧ ∀ j oj, j < i → ops[j]? = some oj → oj.dst ≠ some t) ∨ (∃ j oj F, j < i ∧ ops[j]? = some oj ∧ oj.dst = some t ∧ E[j]? = some (oj.dst, F) ∧ (E.take i).reverse.find? (fun e => e.1 == some t) = some (oj.dst, F)) := by
  cases hf : (E.take i).reverse.find? (fun e => e.1 == some t) with
  | none =>
    refine .inl ⟨rfl, fun j oj hj hoj hd => ?_⟩
    obtain ⟨F, hF⟩ := hE j oj (by omega) hoj
    have hm : (oj.dst, F) ∈ (E.take i).reverse := List.mem_reverse.2 (List.mem_of_getElem? (by rw [List.getElem?_take, if_pos hj]; exact hF))
    have := List.find?_eq_none.1 hf _ hm
    simp [hd] at this
  | some e =>
    have hm := List.mem_reverse.1 (List.mem_of_find?_eq_some hf)
    have hp := List.find?_some hf
    obtain ⟨j, hj, hje⟩ := List.mem_iff_getElem?.1 hm |>.imp fun j h => (show j < i ∧ (E.take i)[j]? = some e from ⟨(by
      rcases Nat.lt_or_ge j i with h' | h'
      · exact h'
      · rw [List.getElem?_take, if_neg (by omega)] at h; cases h), h⟩)
    rw [List.getElem?_take, if_pos hj] at hje
    have hlt : j < ops.size := Nat.lt_of_lt_of_le (by omega) hok.le
    have hoj : ops[j]? = some ops[j] := Array.getElem?_eq_getElem hlt
    obtain ⟨F, hF⟩ := hE j _ (by omega) hoj
    rw [hje] at hF
    have he : e = (ops[j].dst, F) := Option.some.inj hF
    subst he
    exact .inr ⟨j, _, F, hj, hoj, by simpa using hp, hje, rfl⟩
theorem GInv.step {E : Env} {n sz i : Nat} {o : Oper} {a0 a : Act} {w0 w : World} {listed : Array Bool} (hok : GOk ops n sz) (hsz : a0.tmps.size = sz)
    (hE : ∀ j oj, ops[j]? = some oj → j < n → ∃ F : Fact, E[j]? = some (oj.dst, F) ∧ (∀ v w w', Later w w' → F v w → F v w') ∧
      ∀ a w, Later w0 w → (∀ t, (oj.looksAt ops).contains t = true → Known a0 (E.take j).reverse a w t) → Gives P ops oj a w F)
    (hH : HeadInv .any ops n listed) (hi : GInv ops E n a0 w0 listed a w) (hr : i ∈ Region.ready .any ops listed) (hin : i < n) (ho : ops[i]? = some o)
    {K : Act → World → Prop} {Q : Exit → Act → World → Prop} (hK : ∀ a' w', GInv ops E n a0 w0 (listed.setIfInBounds i true) a' w' → K a' w') : wpOp P ops Q i K a w := by
  obtain ⟨F, hF, hst, hob⟩ := hE i o ho hin
  have hun := (mem_ready.1 hr).1
  have hils : i < listed.size := by rw [hH.size]; exact Nat.lt_of_lt_of_le hin hok.le
  have hlist : ∀ j, listed.getD j false = true → j ≠ i := fun j hj e => by
    subst e
    rw [getD_both hun] at hj
    cases hj
  -- what is known
  have hkn : ∀ t, (o.looksAt ops).contains t = true → Known a0 (E.take i).reverse a w t := by
    intro t ht
    rcases known_find hok (fun j oj hj hoj => (hE j oj hoj hj).imp fun _ h => h.1) hin ho t with ⟨h1, h2⟩ | ⟨j, oj, G, hj, hoj, hd, hG, hf⟩
    · unfold Known
      rw [h1]
      refine hi.old t fun j oj hj hoj hl hd => ?_
      have hji := hlist j hl
      rcases hok.flow i j o oj t hin hj (Ne.symm hji) ho hoj hd ht with h | h
      · exact h2 j oj h.1 hoj hd
      · obtain ⟨oj', hoj', e, he, hb, hon⟩ := Region.waitsFor_spec h.2
        rw [hoj] at hoj'
        obtain rfl := Option.some.inj hoj'
        have := hH.closed j oj hoj hl e he hb
        rw [hon, getD_both hun] at this
        cases this
    · unfold Known
      rw [hf]
      have hw : listed.getD j false = true := by
        rcases hok.flow i j o oj t hin (by omega) (by omega) ho hoj hd ht with h | h
        · obtain ⟨o', ho', e, he, hb, hon⟩ := Region.waitsFor_spec h.2
          rw [ho] at ho'
          obtain rfl := Option.some.inj ho'
          obtain ⟨_, o'', ho'', hall⟩ := mem_ready.1 hr
          rw [ho] at ho''
          obtain rfl := Option.some.inj ho''
          rw [← hon]
          exact hall e he hb
        · omega
      obtain ⟨v, hv, hev⟩ := hi.new j oj G (by omega) hoj hG hw
      show G (a.eval (.tmp t)) w
      rw [hev t hd]
      exact hv
  have hg := hob a w hi.later hkn
  -- behind it
  have hnext : ∀ v w', F v w' → Later w w' → GInv ops E n a0 w0 (listed.setIfInBounds i true) (a.put o.dst v) w' := by
    intro v w' hv hl
    refine ⟨hi.later.trans hl, by rw [put_size]; exact hi.size, by rw [put_def]; exact hi.defers, fun t ht => ?_, fun j oj G hj hoj hG hlj => ?_⟩
    · rw [eval_put_ne _ _ _ _ (ht i o hin ho (by simp [hils]))]
      exact hi.old t fun j oj hj hoj hlj => ht j oj hj hoj (getD_set_true hlj)
    · by_cases hji : j = i
      · subst hji
        rw [ho] at hoj
        obtain rfl := Option.some.inj hoj
        rw [hF] at hG
        injection hG with hG
        injection hG with _ hG
        subst hG
        refine ⟨v, hv, fun d hd => ?_⟩
        rw [hd]
        exact eval_put_eq a d v (by rw [hi.size, hsz]; exact (hok.fit j o d hin ho hd).1)
      · rw [getD_set_ne false (Ne.symm hji)] at hlj
        obtain ⟨u, hu, hev⟩ := hi.new j oj G hj hoj hG hlj
        obtain ⟨G', hG', hst', _⟩ := hE j oj hoj hj
        rw [hG] at hG'
        injection hG' with hG'
        injection hG' with _ hG'
        subst hG'
        exact ⟨u, hst' _ _ _ hl hu, fun d hd => by rw [eval_put_ne _ _ _ _ (hok.own i j o oj d hin hj (Ne.symm hji) ho hoj hd)]; exact hev d hd⟩
  unfold Gives at hg
  unfold wpOp
  simp only [ho]
  split at hg
  · rename_i hw
    rw [if_pos hw]
    exact .inl (wp_monoQ (fun a' w' h => by
      obtain ⟨v, rfl, hv, hl⟩ := h
      exact hK _ _ (hnext v w' hv hl)) hg)
  · rename_i hw
    rw [if_neg hw]
    exact hK _ _ (hnext undef w hg (Later.refl w))
theorem wpAny_grow {E : Env} {n sz : Nat} {a0 : Act} {w0 : World} {Q : Exit → Act → World → Prop} (hok : GOk ops n sz) (hsz : a0.tmps.size = sz)
    (hE : ∀ j oj, ops[j]? = some oj → j < n → ∃ F : Fact, E[j]? = some (oj.dst, F) ∧ (∀ v w w', Later w w' → F v w → F v w') ∧
      ∀ a w, Later w0 w → (∀ t, (oj.looksAt ops).contains t = true → Known a0 (E.take j).reverse a w t) → Gives P ops oj a w F)
    (hend : ∀ a w, GInv ops E n a0 w0 (headDone n ops.size) a w → wpAny P .any ops Q (ops.size - n) (headDone n ops.size) a w) :
    ∀ (f : Nat) (listed : Array Bool) (a : Act) (w : World), cntN listed n = f → HeadInv .any ops n listed → GInv ops E n a0 w0 listed a w → wpAny P .any ops Q (f + (ops.size - n)) listed a w
  | 0, listed, a, w, hc, hH, hi => by
    have hz := cntN_zero n hc
    have hl : listed = headDone n ops.size := by
      have hle := hok.le
      apply Array.ext
      · simp [headDone, hH.size]; omega
      · intro i h1 h2
        by_cases hin : i < n
        · have := hz i hin
          simp [h1] at this
          simp [headDone, Array.getElem_append, hin, this]
        · have := hH.tail i (by omega) (by rw [← hH.size]; exact h1)
          simp [h1] at this
          simp [headDone, Array.getElem_append, hin, this]
    subst hl
    rw [Nat.zero_add]
    exact hend a w hi
  | f + 1, listed, a, w, hc, hH, hi => by
    rw [show f + 1 + (ops.size - n) = (f + (ops.size - n)) + 1 by omega]
    -- the least one that isn't done is ready
    obtain ⟨k, hk, hku⟩ := cntN_pos n (by rw [hc]; exact Nat.succ_pos f)
    have hmin : ∃ m, m < n ∧ listed.getD m true = false ∧ ∀ j, j < m → listed.getD j true = true := by
      have : ∀ d k, k = d → k < n → listed.getD k true = false → ∃ m, m < n ∧ listed.getD m true = false ∧ ∀ j, j < m → listed.getD j true = true := by
        intro d
        induction d using Nat.strongRecOn with
        | _ d ih =>
          intro k hkd hkn hku
          by_cases h : ∃ j, j < k ∧ listed.getD j true = false
          · obtain ⟨j, hj, hju⟩ := h
            exact ih j (by omega) j rfl (by omega) hju
          · refine ⟨k, hkn, hku, fun j hj => ?_⟩
            cases hl : listed.getD j true with
            | true => rfl
            | false => exact absurd ⟨j, hj, hl⟩ h
      exact this k k rfl hk hku
    obtain ⟨m, hm, hmu, hml⟩ := hmin
    have hmlt : m < ops.size := Nat.lt_of_lt_of_le hm hok.le
    have hom : ops[m]? = some ops[m] := Array.getElem?_eq_getElem hmlt
    have hmr : m ∈ Region.ready .any ops listed := by
      refine mem_ready.2 ⟨hmu, _, hom, fun e he hb => ?_⟩
      have hlt := hok.back m _ hm hom e he hb
      have := hml e.on hlt
      have hs : e.on < listed.size := by rw [hH.size]; omega
      simp [hs] at this ⊢
      exact this
    refine ⟨fun h0 => (by rw [h0] at hmr; cases hmr), fun i hir => ?_⟩
    have hin : i < n := by
      rcases hok.tail with ht | ⟨hs, hc'⟩
      · obtain ⟨_, o, ho, _⟩ := mem_ready.1 hir
        rw [ht]
        exact (Array.getElem?_eq_some_iff.1 ho).1
      · rcases Nat.lt_or_ge i n with h | h
        · exact h
        · by_cases hns : n < ops.size
          · exact absurd hir (tail_waits hs hc' hns hH _ m rfl hm hmu i h)
          · obtain ⟨_, o, ho, _⟩ := mem_ready.1 hir
            have := (Array.getElem?_eq_some_iff.1 ho).1
            omega
    obtain ⟨hiu, o, ho, _⟩ := mem_ready.1 hir
    have hils : i < listed.size := by rw [hH.size]; exact (Array.getElem?_eq_some_iff.1 ho).1
    refine GInv.step hok hsz hE hH hi hir hin ho fun a' w' hi' => ?_
    exact wpAny_grow hok hsz hE hend f _ a' w' (by have := cntN_set hils hiu n hin; omega) (hH.set hir hin) hi'
/-- The end: what is known of each slot, in the order of the text. -/
theorem fin_use {E : Env} {n sz : Nat} {a0 a : Act} {w0 w : World} {K : Act → World → Prop} (hok : GOk ops n sz) (hsz : a0.tmps.size = sz) (hl : E.length = n) (hE : ∀ j oj, ops[j]? = some oj → j < n → ∃ F : Fact, E[j]? = some (oj.dst, F))
    (hi : GInv ops E n a0 w0 (headDone n ops.size) a w) (h : fin K E a0 w) : K a w := by
  have hdone : ∀ i, i < n → (headDone n ops.size).getD i false = true := fun i h => by
    have := hok.le
    simp [headDone, Array.getElem?_append, h]
  -- step by step: behind the first k
  have main : ∀ (m k : Nat) (b : Act), m + k = n → b.tmps.size = a0.tmps.size → b.defers = a0.defers →
      (∀ t, (∀ i o, i < k → ops[i]? = some o → o.dst ≠ some t) → b.eval (.tmp t) = a0.eval (.tmp t)) → (∀ i o d, i < k → ops[i]? = some o → o.dst = some d → b.eval (.tmp d) = a.eval (.tmp d)) → fin K (E.drop k) b w → K a w := by
    intro m
    induction m with
    | zero =>
      intro k b hk h1 h2 h3 h4 hf
      have hkn : k = n := by omega
      subst hkn
      rw [List.drop_of_length_le (by omega)] at hf
      have hab : a = b := by
        have ht : a.tmps = b.tmps := by
          apply Array.ext
          · rw [hi.size, h1]
          · intro t ht1 ht2
            have : a.eval (.tmp t) = b.eval (.tmp t) := by
              by_cases hx : ∃ i o, i < k ∧ ops[i]? = some o ∧ o.dst = some t
              · obtain ⟨i, o, hik, ho, hd⟩ := hx
                exact (h4 i o t hik ho hd).symm
              · rw [h3 t fun i o hik ho hd => hx ⟨i, o, hik, ho, hd⟩]
                exact hi.old t fun i o hik ho _ hd => hx ⟨i, o, hik, ho, hd⟩
            simpa [Act.eval, ht1, ht2] using this
        have hd : a.defers = b.defers := by rw [hi.defers, h2]
        cases a; cases b
        simp only at ht hd
        subst ht hd
        rfl
      rw [hab]
      exact hf
    | succ m ih =>
      intro k b hk h1 h2 h3 h4 hf
      have hkn : k < n := by omega
      have hlt : k < ops.size := Nat.lt_of_lt_of_le hkn hok.le
      have ho : ops[k]? = some ops[k] := Array.getElem?_eq_getElem hlt
      obtain ⟨F, hF⟩ := hE k _ ho hkn
      obtain ⟨v, hv, hev⟩ := hi.new k _ F hkn ho hF (hdone k hkn)
      have hdrop : E.drop k = (ops[k].dst, F) :: E.drop (k + 1) := by
        have hkl : k < E.length := by omega
        rw [List.drop_eq_getElem_cons hkl]
        rw [List.getElem?_eq_getElem hkl] at hF
        rw [Option.some.inj hF]
      rw [hdrop] at hf
      refine ih (k + 1) (b.put ops[k].dst v) (by omega) (by rw [put_size, h1]) (by rw [put_def, h2]) (fun t ht => ?_) (fun i o d hik hio hd => ?_) (hf v hv)
      · rw [eval_put_ne _ _ _ _ (ht k _ (Nat.lt_succ_self k) ho)]
        exact h3 t fun i o hik hio => ht i o (by omega) hio
      · by_cases hieq : i = k
        · subst hieq
          rw [ho] at hio
          obtain rfl := Option.some.inj hio
          rw [hev d hd, hd]
          exact eval_put_eq b d v (by rw [h1, hsz]; exact (hok.fit i _ d hkn ho hd).1)
        · rw [eval_put_ne _ _ _ _ (hok.own k i _ o d hkn (by omega) (Ne.symm hieq) ho hio hd)]
          exact h4 i o d (by omega) hio hd
  exact main n 0 a0 (by omega) rfl rfl (fun t _ => rfl) (fun i o d hik => absurd hik (Nat.not_lt_zero _)) (by simpa using h)
/-- A region that draws its order: its first n operations only read or make memory, the rest comes one by one. -/
theorem wp_region_grow {id : Nat} {Q : Exit → Act → World → Prop} {a : Act} {w : World} {l : List Oper} (n sz : Nat) (hm : P.follows .mixedOrders = true) (hB : growB l.toArray n sz = true) (hsz : a.tmps.size = sz)
    (h : ∀ w0 : World, Later w w0 → wpG P l.toArray a w0 (fun env => ∀ w', Later w0 w' → fin (fun a' w' => wpList P l.toArray Q (l.drop n) a' w') env.reverse a w') (l.take n) []) : (Code.region id l.toArray true).wp P Q a w := by
  have hok := GOk.of hB
  have hle : n ≤ l.length := by simpa using hok.le
  obtain ⟨E, hEl, hF, hE⟩ := wpG_spec _ _ (h { w with drawn := w.drawn + 1 } (Later.refl w).drew)
  simp only [List.append_nil, List.reverse_reverse] at hF hE
  have hEn : E.length = n := by rw [hEl, List.length_take]; omega
  have hE' : ∀ j oj, l.toArray[j]? = some oj → j < n → ∃ F : Fact, E[j]? = some (oj.dst, F) ∧ (∀ v w w', Later w w' → F v w → F v w') ∧
      ∀ a1 w1, Later { w with drawn := w.drawn + 1 } w1 → (∀ t, (oj.looksAt l.toArray).contains t = true → Known a (E.take j).reverse a1 w1 t) → Gives P l.toArray oj a1 w1 F := fun j oj hoj hj => by
    have : (l.take n)[j]? = some oj := by rw [List.getElem?_take, if_pos hj]; simpa using hoj
    exact hE j oj this
  have inv0 : HeadInv .any l.toArray n (Array.replicate l.toArray.size false) :=
    ⟨by simp, fun j oj _ hl => (by rw [getD_replicate_false] at hl; cases hl), fun t _ ht => getD_in (by simpa using ht) (getD_replicate_false _ _)⟩
  have hcnt : ∀ k, k ≤ l.toArray.size → cntN (Array.replicate l.toArray.size false) k = k := by
    intro k
    induction k with
    | zero => intro _; rfl
    | succ k ih =>
      intro hk
      simp only [cntN]
      rw [ih (by omega), if_pos (getD_in (by simp at hk ⊢; omega) (getD_replicate_false _ _))]
  refine wp_region_any hm ?_
  have := wpAny_grow (Q := Q) hok hsz hE' (fun a' w' hi => ?_) n _ a { w with drawn := w.drawn + 1 } (hcnt n hok.le) inv0
    ⟨Later.refl _, rfl, rfl, fun t _ => rfl, fun i o F _ _ _ hl => (by rw [getD_replicate_false] at hl; cases hl)⟩
  · rw [show n + (l.toArray.size - n) = l.toArray.size by have := hok.le; omega] at this
    exact this
  · have hk := fin_use hok hsz hEn (fun j oj hoj hj => (hE' j oj hoj hj).imp fun _ h => h.1) hi (hF w' hi.later)
    have hdl : (l.drop n).length = l.toArray.size - n := by simp
    have := wpAny_of_seq (md := .any) (Q' := Q) (l.drop n) n (headDone n l.toArray.size) a' w' (fun j => by simp [List.getElem?_drop]) (by rw [hdl]; exact hok.seq) hk
    rwa [hdl] at this
end
end Go.Proofs.Ytfkafejoacpclaa
