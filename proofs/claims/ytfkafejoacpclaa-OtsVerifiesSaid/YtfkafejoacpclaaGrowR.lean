/- A region that draws its order, walked once, over whatever relation of worlds. No conditions. -/
import Derived.Test.YtfkafejoacpclaaGrow
import Derived.Test.YtfkafejoacpclaaGrowL
namespace Go.Proofs.Ytfkafejoacpclaa
open Go.RowKit
set_option linter.unusedVariables false
set_option linter.unusedSimpArgs false
/-- A relation of worlds that goes on. -/
structure Rel (R : World → World → Prop) : Prop where
  refl : ∀ w, R w w
  trans : ∀ {a b c}, R a b → R b c → R a c
  drew' : ∀ w : World, R w { w with drawn := w.drawn + 1 }
theorem Rel.below (B : Nat) : Rel (Below B) := ⟨fun w => Below.refl B w, fun h k => Below.trans h k, fun w => (Below.refl B w).drew⟩
section
variable {P : Program} {ops : Array Oper} {R : World → World → Prop}
/-- An operation gives a value of which so much is known, and makes memory at most. -/
def GivesR (P : Program) (ops : Array Oper) (R : World → World → Prop) (o : Oper) (a : Act) (w : World) (F : Fact) : Prop :=
  if Region.wanted o (yielded ops a.tmps) then o.wp P a w (fun a' w' => ∃ v, a' = a.put o.dst v ∧ F v w' ∧ R w w') (fun _ _ _ => False) else F undef w
def wpR (P : Program) (ops : Array Oper) (R : World → World → Prop) (a0 : Act) (w0 : World) (Fin : Env → Prop) : List Oper → Env → Prop
  | [], env => Fin env
  | o :: rest, env => ∃ F : Fact, (∀ v w w', R w w' → F v w → F v w') ∧
      (∀ a w, R w0 w → (∀ t, (o.looksAt ops).contains t = true → Known a0 env a w t) → GivesR P ops R o a w F) ∧ wpR P ops R a0 w0 Fin rest ((o.dst, F) :: env)
theorem wpR_spec {a0 : Act} {w0 : World} {Fin : Env → Prop} : ∀ (l : List Oper) (env : Env), wpR P ops R a0 w0 Fin l env → ∃ E : Env, E.length = l.length ∧ Fin (E.reverse ++ env) ∧ ∀ i o, l[i]? = some o → ∃ F : Fact, E[i]? = some (o.dst, F) ∧ (∀ v w w', R w w' → F v w → F v w') ∧
      ∀ a w, R w0 w → (∀ t, (o.looksAt ops).contains t = true → Known a0 ((E.take i).reverse ++ env) a w t) → GivesR P ops R o a w F
  | [], env, h => ⟨[], rfl, by have h' : Fin env := h; simpa using h', fun i o h => by simp at h⟩
  | o :: rest, env, ⟨F, hs, ho, hr⟩ => by
    obtain ⟨E, hl, hf, hE⟩ := wpR_spec rest ((o.dst, F) :: env) hr
    refine ⟨(o.dst, F) :: E, by simp [hl], by simpa using hf, fun i o' hi => ?_⟩
    cases i with
    | zero =>
      simp at hi
      subst hi
      exact ⟨F, rfl, hs, by simpa using ho⟩
    | succ i =>
      obtain ⟨F', h1, h2, h3⟩ := hE i o' (by simpa using hi)
      exact ⟨F', by simpa using h1, h2, by simpa using h3⟩
structure GInvR (R : World → World → Prop) (ops : Array Oper) (E : Env) (n : Nat) (a0 : Act) (w0 : World) (listed : Array Bool) (a : Act) (w : World) : Prop where
  later : R w0 w
  size : a.tmps.size = a0.tmps.size
  defers : a.defers = a0.defers
  old : ∀ t, (∀ i o, i < n → ops[i]? = some o → listed.getD i false = true → o.dst ≠ some t) → a.eval (.tmp t) = a0.eval (.tmp t)
  new : ∀ i o F, i < n → ops[i]? = some o → E[i]? = some (o.dst, F) → listed.getD i false = true → ∃ v, F v w ∧ ∀ d, o.dst = some d → a.eval (.tmp d) = v
theorem GInvR.step {E : Env} (hR : Rel R) {n sz i : Nat} {o : Oper} {a0 a : Act} {w0 w : World} {listed : Array Bool} (hok : GOk ops n sz) (hsz : a0.tmps.size = sz)
    (hE : ∀ j oj, ops[j]? = some oj → j < n → ∃ F : Fact, E[j]? = some (oj.dst, F) ∧ (∀ v w w', R w w' → F v w → F v w') ∧
      ∀ a w, R w0 w → (∀ t, (oj.looksAt ops).contains t = true → Known a0 (E.take j).reverse a w t) → GivesR P ops R oj a w F)
    (hH : HeadInv .any ops n listed) (hi : GInvR R ops E n a0 w0 listed a w) (hr : i ∈ Region.ready .any ops listed) (hin : i < n) (ho : ops[i]? = some o)
    {K : Act → World → Prop} {Q : Exit → Act → World → Prop} (hK : ∀ a' w', GInvR R ops E n a0 w0 (listed.setIfInBounds i true) a' w' → K a' w') : wpOp P ops Q i K a w := by
  obtain ⟨F, hF, hst, hob⟩ := hE i o ho hin
  have hun := (mem_ready.1 hr).1
  have hils : i < listed.size := by rw [hH.size]; exact Nat.lt_of_lt_of_le hin hok.le
  have hlist : ∀ j, listed.getD j false = true → j ≠ i := fun j hj e => by
    subst e
    rw [getD_both hun] at hj
    cases hj
  -- what is known
  have hkn : ∀ t, (o.looksAt ops).contains t = true → Known a0 (E.take i).reverse a w t := by
    intro t ht
    rcases known_find hok (fun j oj hj hoj => (hE j oj hoj hj).imp fun _ h => h.1) hin ho t with ⟨h1, h2⟩ | ⟨j, oj, G, hj, hoj, hd, hG, hf⟩
    · unfold Known
      rw [h1]
      refine hi.old t fun j oj hj hoj hl hd => ?_
      have hji := hlist j hl
      rcases hok.flow i j o oj t hin hj (Ne.symm hji) ho hoj hd ht with h | h
      · exact h2 j oj h.1 hoj hd
      · obtain ⟨oj', hoj', e, he, hb, hon⟩ := Region.waitsFor_spec h.2
        rw [hoj] at hoj'
        obtain rfl := Option.some.inj hoj'
        have := hH.closed j oj hoj hl e he hb
        rw [hon, getD_both hun] at this
        cases this
    · unfold Known
      rw [hf]
      have hw : listed.getD j false = true := by
        rcases hok.flow i j o oj t hin (by omega) (by omega) ho hoj hd ht with h | h
        · obtain ⟨o', ho', e, he, hb, hon⟩ := Region.waitsFor_spec h.2
          rw [ho] at ho'
          obtain rfl := Option.some.inj ho'
          obtain ⟨_, o'', ho'', hall⟩ := mem_ready.1 hr
          rw [ho] at ho''
          obtain rfl := Option.some.inj ho''
          rw [← hon]
          exact hall e he hb
        · omega
      obtain ⟨v, hv, hev⟩ := hi.new j oj G (by omega) hoj hG hw
      show G (a.eval (.tmp t)) w
      rw [hev t hd]
      exact hv
  have hg := hob a w hi.later hkn
  -- behind it
  have hnext : ∀ v w', F v w' → R w w' → GInvR R ops E n a0 w0 (listed.setIfInBounds i true) (a.put o.dst v) w' := by
    intro v w' hv hl
    refine ⟨hR.trans hi.later hl, by rw [put_size]; exact hi.size, by rw [put_def]; exact hi.defers, fun t ht => ?_, fun j oj G hj hoj hG hlj => ?_⟩
    · rw [eval_put_ne _ _ _ _ (ht i o hin ho (by simp [hils]))]
      exact hi.old t fun j oj hj hoj hlj => ht j oj hj hoj (getD_set_true hlj)
    · by_cases hji : j = i
      · subst hji
        rw [ho] at hoj
        obtain rfl := Option.some.inj hoj
        rw [hF] at hG
        injection hG with hG
        injection hG with _ hG
        subst hG
        refine ⟨v, hv, fun d hd => ?_⟩
        rw [hd]
        exact eval_put_eq a d v (by rw [hi.size, hsz]; exact (hok.fit j o d hin ho hd).1)
      · rw [getD_set_ne false (Ne.symm hji)] at hlj
        obtain ⟨u, hu, hev⟩ := hi.new j oj G hj hoj hG hlj
        obtain ⟨G', hG', hst', _⟩ := hE j oj hoj hj
        rw [hG] at hG'
        injection hG' with hG'
        injection hG' with _ hG'
        subst hG'
        exact ⟨u, hst' _ _ _ hl hu, fun d hd => by rw [eval_put_ne _ _ _ _ (hok.own i j o oj d hin hj (Ne.symm hji) ho hoj hd)]; exact hev d hd⟩
  unfold GivesR at hg
  unfold wpOp
  simp only [ho]
  split at hg
  · rename_i hw
    rw [if_pos hw]
    exact .inl (wp_monoQ (fun a' w' h => by
      obtain ⟨v, rfl, hv, hl⟩ := h
      exact hK _ _ (hnext v w' hv hl)) hg)
  · rename_i hw
    rw [if_neg hw]
    exact hK _ _ (hnext undef w hg (hR.refl w))
theorem wpAny_growR (hR : Rel R) {E : Env} {n sz : Nat} {a0 : Act} {w0 : World} {Q : Exit → Act → World → Prop} (hok : GOk ops n sz) (hsz : a0.tmps.size = sz)
    (hE : ∀ j oj, ops[j]? = some oj → j < n → ∃ F : Fact, E[j]? = some (oj.dst, F) ∧ (∀ v w w', R w w' → F v w → F v w') ∧
      ∀ a w, R w0 w → (∀ t, (oj.looksAt ops).contains t = true → Known a0 (E.take j).reverse a w t) → GivesR P ops R oj a w F)
    (hend : ∀ a w, GInvR R ops E n a0 w0 (headDone n ops.size) a w → wpAny P .any ops Q (ops.size - n) (headDone n ops.size) a w) :
    ∀ (f : Nat) (listed : Array Bool) (a : Act) (w : World), cntN listed n = f → HeadInv .any ops n listed → GInvR R ops E n a0 w0 listed a w → wpAny P .any ops Q (f + (ops.size - n)) listed a w
  | 0, listed, a, w, hc, hH, hi => by
    have hz := cntN_zero n hc
    have hl : listed = headDone n ops.size := by
      have hle := hok.le
      apply Array.ext
      · simp [headDone, hH.size]; omega
      · intro i h1 h2
        by_cases hin : i < n
        · have := hz i hin
          simp [h1] at this
          simp [headDone, Array.getElem_append, hin, this]
        · have := hH.tail i (by omega) (by rw [← hH.size]; exact h1)
          simp [h1] at this
          simp [headDone, Array.getElem_append, hin, this]
    subst hl
    rw [Nat.zero_add]
    exact hend a w hi
  | f + 1, listed, a, w, hc, hH, hi => by
    rw [show f + 1 + (ops.size - n) = (f + (ops.size - n)) + 1 by omega]
    -- the least one that isn't done is ready
    obtain ⟨k, hk, hku⟩ := cntN_pos n (by rw [hc]; exact Nat.succ_pos f)
    have hmin : ∃ m, m < n ∧ listed.getD m true = false ∧ ∀ j, j < m → listed.getD j true = true := by
      have : ∀ d k, k = d → k < n → listed.getD k true = false → ∃ m, m < n ∧ listed.getD m true = false ∧ ∀ j, j < m → listed.getD j true = true := by
        intro d
        induction d using Nat.strongRecOn with
        | _ d ih =>
          intro k hkd hkn hku
          by_cases h : ∃ j, j < k ∧ listed.getD j true = false
          · obtain ⟨j, hj, hju⟩ := h
            exact ih j (by omega) j rfl (by omega) hju
          · refine ⟨k, hkn, hku, fun j hj => ?_⟩
            cases hl : listed.getD j true with
            | true => rfl
            | false => exact absurd ⟨j, hj, hl⟩ h
      exact this k k rfl hk hku
    obtain ⟨m, hm, hmu, hml⟩ := hmin
    have hmlt : m < ops.size := Nat.lt_of_lt_of_le hm hok.le
    have hom : ops[m]? = some ops[m] := Array.getElem?_eq_getElem hmlt
    have hmr : m ∈ Region.ready .any ops listed := by
      refine mem_ready.2 ⟨hmu, _, hom, fun e he hb => ?_⟩
      have hlt := hok.back m _ hm hom e he hb
      have := hml e.on hlt
      have hs : e.on < listed.size := by rw [hH.size]; omega
      simp [hs] at this ⊢
      exact this
    refine ⟨fun h0 => (by rw [h0] at hmr; cases hmr), fun i hir => ?_⟩
    have hin : i < n := by
      rcases hok.tail with ht | ⟨hs, hc'⟩
      · obtain ⟨_, o, ho, _⟩ := mem_ready.1 hir
        rw [ht]
        exact (Array.getElem?_eq_some_iff.1 ho).1
      · rcases Nat.lt_or_ge i n with h | h
        · exact h
        · by_cases hns : n < ops.size
          · exact absurd hir (tail_waits hs hc' hns hH _ m rfl hm hmu i h)
          · obtain ⟨_, o, ho, _⟩ := mem_ready.1 hir
            have := (Array.getElem?_eq_some_iff.1 ho).1
            omega
    obtain ⟨hiu, o, ho, _⟩ := mem_ready.1 hir
    have hils : i < listed.size := by rw [hH.size]; exact (Array.getElem?_eq_some_iff.1 ho).1
    refine GInvR.step hR hok hsz hE hH hi hir hin ho fun a' w' hi' => ?_
    exact wpAny_growR hR hok hsz hE hend f _ a' w' (by have := cntN_set hils hiu n hin; omega) (hH.set hir hin) hi'
/-- The end: what is known of each slot, in the order of the text. -/
theorem fin_useR {E : Env} {n sz : Nat} {a0 a : Act} {w0 w : World} {K : Act → World → Prop} (hok : GOk ops n sz) (hsz : a0.tmps.size = sz) (hl : E.length = n) (hE : ∀ j oj, ops[j]? = some oj → j < n → ∃ F : Fact, E[j]? = some (oj.dst, F))
    (hi : GInvR R ops E n a0 w0 (headDone n ops.size) a w) (h : fin K E a0 w) : K a w := by
  have hdone : ∀ i, i < n → (headDone n ops.size).getD i false = true := fun i h => by
    have := hok.le
    simp [headDone, Array.getElem?_append, h]
  -- step by step: behind the first k
  have main : ∀ (m k : Nat) (b : Act), m + k = n → b.tmps.size = a0.tmps.size → b.defers = a0.defers →
      (∀ t, (∀ i o, i < k → ops[i]? = some o → o.dst ≠ some t) → b.eval (.tmp t) = a0.eval (.tmp t)) → (∀ i o d, i < k → ops[i]? = some o → o.dst = some d → b.eval (.tmp d) = a.eval (.tmp d)) → fin K (E.drop k) b w → K a w := by
    intro m
    induction m with
    | zero =>
      intro k b hk h1 h2 h3 h4 hf
      have hkn : k = n := by omega
      subst hkn
      rw [List.drop_of_length_le (by omega)] at hf
      have hab : a = b := by
        have ht : a.tmps = b.tmps := by
          apply Array.ext
          · rw [hi.size, h1]
          · intro t ht1 ht2
            have : a.eval (.tmp t) = b.eval (.tmp t) := by
              by_cases hx : ∃ i o, i < k ∧ ops[i]? = some o ∧ o.dst = some t
              · obtain ⟨i, o, hik, ho, hd⟩ := hx
                exact (h4 i o t hik ho hd).symm
              · rw [h3 t fun i o hik ho hd => hx ⟨i, o, hik, ho, hd⟩]
                exact hi.old t fun i o hik ho _ hd => hx ⟨i, o, hik, ho, hd⟩
            simpa [Act.eval, ht1, ht2] using this
        have hd : a.defers = b.defers := by rw [hi.defers, h2]
        cases a; cases b
        simp only at ht hd
        subst ht hd
        rfl
      rw [hab]
      exact hf
    | succ m ih =>
      intro k b hk h1 h2 h3 h4 hf
      have hkn : k < n := by omega
      have hlt : k < ops.size := Nat.lt_of_lt_of_le hkn hok.le
      have ho : ops[k]? = some ops[k] := Array.getElem?_eq_getElem hlt
      obtain ⟨F, hF⟩ := hE k _ ho hkn
      obtain ⟨v, hv, hev⟩ := hi.new k _ F hkn ho hF (hdone k hkn)
      have hdrop : E.drop k = (ops[k].dst, F) :: E.drop (k + 1) := by
        have hkl : k < E.length := by omega
        rw [List.drop_eq_getElem_cons hkl]
        rw [List.getElem?_eq_getElem hkl] at hF
        rw [Option.some.inj hF]
      rw [hdrop] at hf
      refine ih (k + 1) (b.put ops[k].dst v) (by omega) (by rw [put_size, h1]) (by rw [put_def, h2]) (fun t ht => ?_) (fun i o d hik hio hd => ?_) (hf v hv)
      · rw [eval_put_ne _ _ _ _ (ht k _ (Nat.lt_succ_self k) ho)]
        exact h3 t fun i o hik hio => ht i o (by omega) hio
      · by_cases hieq : i = k
        · subst hieq
          rw [ho] at hio
          obtain rfl := Option.some.inj hio
          rw [hev d hd, hd]
          exact eval_put_eq b d v (by rw [h1, hsz]; exact (hok.fit i _ d hkn ho hd).1)
        · rw [eval_put_ne _ _ _ _ (hok.own k i _ o d hkn (by omega) (Ne.symm hieq) ho hio hd)]
          exact h4 i o d (by omega) hio hd
  exact main n 0 a0 (by omega) rfl rfl (fun t _ => rfl) (fun i o d hik => absurd hik (Nat.not_lt_zero _)) (by simpa using h)
/-- A region that draws its order: its first n operations only read or make memory, the rest comes one by one. -/
theorem wp_region_growR (hR : Rel R) {id : Nat} {Q : Exit → Act → World → Prop} {a : Act} {w : World} {l : List Oper} (n sz : Nat) (hm : P.follows .mixedOrders = true) (hB : growB l.toArray n sz = true) (hsz : a.tmps.size = sz)
    (h : ∀ w0 : World, R w w0 → wpR P l.toArray R a w0 (fun env => ∀ w', R w0 w' → fin (fun a' w' => wpList P l.toArray Q (l.drop n) a' w') env.reverse a w') (l.take n) []) : (Code.region id l.toArray true).wp P Q a w := by
  have hok := GOk.of hB
  have hle : n ≤ l.length := by simpa using hok.le
  obtain ⟨E, hEl, hF, hE⟩ := wpR_spec _ _ (h { w with drawn := w.drawn + 1 } (hR.drew' _))
  simp only [List.append_nil, List.reverse_reverse] at hF hE
  have hEn : E.length = n := by rw [hEl, List.length_take]; omega
  have hE' : ∀ j oj, l.toArray[j]? = some oj → j < n → ∃ F : Fact, E[j]? = some (oj.dst, F) ∧ (∀ v w w', R w w' → F v w → F v w') ∧
      ∀ a1 w1, R { w with drawn := w.drawn + 1 } w1 → (∀ t, (oj.looksAt l.toArray).contains t = true → Known a (E.take j).reverse a1 w1 t) → GivesR P l.toArray R oj a1 w1 F := fun j oj hoj hj => by
    have : (l.take n)[j]? = some oj := by rw [List.getElem?_take, if_pos hj]; simpa using hoj
    exact hE j oj this
  have inv0 : HeadInv .any l.toArray n (Array.replicate l.toArray.size false) :=
    ⟨by simp, fun j oj _ hl => (by rw [getD_replicate_false] at hl; cases hl), fun t _ ht => getD_in (by simpa using ht) (getD_replicate_false _ _)⟩
  have hcnt : ∀ k, k ≤ l.toArray.size → cntN (Array.replicate l.toArray.size false) k = k := by
    intro k
    induction k with
    | zero => intro _; rfl
    | succ k ih =>
      intro hk
      simp only [cntN]
      rw [ih (by omega), if_pos (getD_in (by simp at hk ⊢; omega) (getD_replicate_false _ _))]
  refine wp_region_any hm ?_
  have := wpAny_growR (Q := Q) hR hok hsz hE' (fun a' w' hi => ?_) n _ a { w with drawn := w.drawn + 1 } (hcnt n hok.le) inv0
    ⟨hR.refl _, rfl, rfl, fun t _ => rfl, fun i o F _ _ _ hl => (by rw [getD_replicate_false] at hl; cases hl)⟩
  · rw [show n + (l.toArray.size - n) = l.toArray.size by have := hok.le; omega] at this
    exact this
  · have hk := fin_useR hok hsz hEn (fun j oj hoj hj => (hE' j oj hoj hj).imp fun _ h => h.1) hi (hF w' hi.later)
    have hdl : (l.drop n).length = l.toArray.size - n := by simp
    have := wpAny_of_seq (md := .any) (Q' := Q) (l.drop n) n (headDone n l.toArray.size) a' w' (fun j => by simp [List.getElem?_drop]) (by rw [hdl]; exact hok.seq) hk
    rwa [hdl] at this
/-! ### Laws for the single operations -/
variable {a0 : Act} {w0 : World} {Fin : Env → Prop} {rest : List Oper} {env : Env} {d : Option Tmp} {ty ty' : TypeId} {x : Operand} {pos : String} {after : Array Edge}
theorem wpR_nil (h : Fin env) : wpR P ops R a0 w0 Fin [] env := h
theorem givesR_of {o : Oper} {a : Act} {w : World} {F : Fact} (hg : o.guard = none) (h : o.wp P a w (fun a' w' => ∃ v, a' = a.put o.dst v ∧ F v w' ∧ R w w') (fun _ _ _ => False)) : GivesR P ops R o a w F := by
  unfold GivesR
  rw [if_pos (by simp [Region.wanted, hg])]
  exact h
theorem wpR_value (hR : Rel R) {o : Oper} (v : Value) (hg : o.guard = none) (h : ∀ a w, R w0 w → (∀ t, (o.looksAt ops).contains t = true → Known a0 env a w t) → ∀ K : Result Next → Prop, K (.ok (.value v) w) → K ((execOp a.eval o).run P w))
    (hr : wpR P ops R a0 w0 Fin rest ((o.dst, Is v) :: env)) : wpR P ops R a0 w0 Fin (o :: rest) env := by
  refine ⟨Is v, fun _ _ _ _ h => h, fun a w hl hk => ?_, hr⟩
  unfold GivesR
  rw [if_pos (by simp [Region.wanted, hg])]
  unfold Oper.wp
  exact h a w hl hk (fun r => Oper.upon P o a _ _ r) ⟨v, rfl, rfl, hR.refl w⟩
theorem wpR_value' (hR : Rel R) {o : Oper} {v : Value} (hg : o.guard = none) (h : ∀ a w, R w0 w → (∀ t, (o.looksAt ops).contains t = true → Known a0 env a w t) → ∀ K : Result Next → Prop, K (.ok (.value v) w) → K ((execOp a.eval o).run P w))
    (hr : wpR P ops R a0 w0 Fin rest ((o.dst, Is v) :: env)) : wpR P ops R a0 w0 Fin (o :: rest) env := wpR_value hR v hg h hr
theorem wpR_move (hR : Rel R) {v : Value} (hx : ∀ a w, (∀ t, (Oper.looksAt ops { dst := d, op := .move x, type := ty', pos := pos, after := after, guard := none }).contains t = true → Known a0 env a w t) → a.eval x = v)
    (hr : wpR P ops R a0 w0 Fin rest ((d, Is v) :: env)) : wpR P ops R a0 w0 Fin ({ dst := d, op := .move x, type := ty', pos := pos, after := after, guard := none } :: rest) env :=
  wpR_value hR v rfl (fun a w hl hk K hK => by rw [← hx a w hk] at hK; simpa [execOp] using hK) hr
theorem wpR_assign (hR : Rel R) {v : Value} (hx : ∀ a w, (∀ t, (Oper.looksAt ops { dst := d, op := .assign x, type := ty', pos := pos, after := after, guard := none }).contains t = true → Known a0 env a w t) → a.eval x = v)
    (hr : wpR P ops R a0 w0 Fin rest ((d, Is v) :: env)) : wpR P ops R a0 w0 Fin ({ dst := d, op := .assign x, type := ty', pos := pos, after := after, guard := none } :: rest) env :=
  wpR_value hR v rfl (fun a w hl hk K hK => by rw [← hx a w hk] at hK; simpa [execOp] using hK) hr
/-- A cell, or a whole block, read: it is there in each world of the region. -/
theorem wpR_load1 (hR : Rel R) {p : Addr} {v : Value} {u : TypeDesc} (hc : ∀ w, R w0 w → w.cell? p = some v) (hu : P.underlying ty = some u) (hd : (match u with | .struct _ | .array _ _ => true | _ => false) = false)
    (hx : ∀ a w, (∀ t, (Oper.looksAt ops { dst := d, op := .load ty x, type := ty', pos := pos, after := after, guard := none }).contains t = true → Known a0 env a w t) → a.eval x = .pointer (some p))
    (hr : wpR P ops R a0 w0 Fin rest ((d, Is v) :: env)) : wpR P ops R a0 w0 Fin ({ dst := d, op := .load ty x, type := ty', pos := pos, after := after, guard := none } :: rest) env :=
  ⟨Is v, fun _ _ _ _ h => h, fun a w hl hk => givesR_of rfl (wp_load1 (hc w hl) hu (hx a w hk) hd ⟨v, rfl, rfl, hR.refl w⟩), hr⟩
theorem wpR_loadW (hR : Rel R) {g : Nat} {t : TypeId} {cs : Array Value} {u : TypeDesc} (hw : ∀ w, R w0 w → Whole w g t cs) (hu : P.underlying ty = some u) (hd : (match u with | .struct _ | .array _ _ => true | _ => false) = true) (hi : (P.info? ty).map (·.size) = some cs.size)
    (hx : ∀ a w, (∀ t, (Oper.looksAt ops { dst := d, op := .load ty x, type := ty', pos := pos, after := after, guard := none }).contains t = true → Known a0 env a w t) → a.eval x = .pointer (some ⟨g, 0, none⟩))
    (hr : wpR P ops R a0 w0 Fin rest ((d, Is (.agg cs)) :: env)) : wpR P ops R a0 w0 Fin ({ dst := d, op := .load ty x, type := ty', pos := pos, after := after, guard := none } :: rest) env :=
  ⟨Is (.agg cs), fun _ _ _ _ h => h, fun a w hl hk => givesR_of rfl (wp_loadW (hw w hl) hu (hx a w hk) hd hi ⟨_, rfl, rfl, hR.refl w⟩), hr⟩
theorem wpR_call (hR : Rel R) {ts : Array TypeId} {f : FuncId} {xs : Array Operand} (vs : Array Value) (v : Value) {fn : Func} (hfn : P.funcs[f]? = some fn) (hname : (fn.name == "runtime.NumGoroutine") = false) (hbody : fn.body.isNone = false)
    (hc : ∀ w, R w0 w → Calls P f vs w (fun e w' => e = .returned v ∧ R w w'))
    (hx : ∀ a w, (∀ t, (Oper.looksAt ops { dst := d, op := .call { callee := .value (.func f), args := xs, argTypes := ts }, type := ty', pos := pos, after := after, guard := none }).contains t = true → Known a0 env a w t) → xs.map a.eval = vs)
    (hr : wpR P ops R a0 w0 Fin rest ((d, Is v) :: env)) : wpR P ops R a0 w0 Fin ({ dst := d, op := .call { callee := .value (.func f), args := xs, argTypes := ts }, type := ty', pos := pos, after := after, guard := none } :: rest) env :=
  ⟨Is v, fun _ _ _ _ h => h, fun a w hl hk => givesR_of rfl (wp_callf hfn hname hbody (hx a w hk) (hc w hl) (fun e w' he => ⟨v, he.1, ⟨v, rfl, rfl, he.2⟩⟩)), hr⟩
end
end Go.Proofs.Ytfkafejoacpclaa
