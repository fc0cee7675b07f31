/- Maps of texts by texts as plain functions; what a list of pairs leaves in a map. No conditions. -/
import Derived.Test.YtknjbkbbhgjnlaaSmt5
import Derived.Maps.RangeWalk
import Derived.Maps.OwnSet
import Derived.Maps.StringElems
namespace Go.Proofs.Ytknjbkbbhgjnlaa
open Go.RowKit
set_option linter.unusedVariables false
set_option linter.unusedSimpArgs false
abbrev MD := DataW Unit
def keyL (k : ByteArray) : Lit := .string k.data.toList
theorem keyL_inj {a b : ByteArray} (h : keyL a = keyL b) : a = b := by
  unfold keyL at h
  have h1 : a.data.toList = b.data.toList := Lit.string.inj h
  cases a; cases b
  simp only [ByteArray.mk.injEq]
  exact Array.toList_inj.1 h1
theorem keyL_lit (k : ByteArray) : WideAt.IsKeyLit (keyL k) := by simp [WideAt.IsKeyLit, keyL]
def valD (v : ByteArray) : MD := .lit (.string v.data.toList)
theorem valD_inj {a b : ByteArray} (h : valD a = valD b) : a = b := keyL_inj (DataW.lit.inj h)
/-- A map's datum tells the function f. -/
def MapF (D : MD) (f : ByteArray → Option ByteArray) : Prop := ∀ k, Maps.has D (keyL k) = (f k).isSome ∧ ∀ zd, D.atKey (keyL k) zd = match f k with | some v => valD v | none => zd
def setF (f : ByteArray → Option ByteArray) (k v : ByteArray) : ByteArray → Option ByteArray := fun x => if x = k then some v else f x
theorem MapF.empty : MapF (.map []) (fun _ => none) := fun k => ⟨rfl, fun zd => rfl⟩
theorem MapF.put {D : MD} {f : ByteArray → Option ByteArray} (h : MapF D f) (hD : Maps.IsMap D) (k v : ByteArray) : MapF (D.put (keyL k) (valD v)) (setF f k v) := by
  intro x
  by_cases e : x = k
  · subst e
    refine ⟨?_, fun zd => ?_⟩
    · rw [Maps.has_put_same hD (keyL_lit x)]; simp [setF]
    · rw [Maps.atKey_put_same hD (keyL_lit x)]; simp [setF]
  · have e' : keyL x ≠ keyL k := fun q => e (keyL_inj q)
    refine ⟨?_, fun zd => ?_⟩
    · rw [Maps.has_put_other e', (h x).1]; simp [setF, e]
    · rw [Maps.atKey_put_other e', (h x).2]; simp [setF, e]
theorem MapF.at_ {D : MD} {f : ByteArray → Option ByteArray} (h : MapF D f) {k v : ByteArray} (hk : ∀ zd, D.atKey (keyL k) zd = valD v) : f k = some v := by
  have h1 := (h k).2 DataW.nil
  rw [hk] at h1
  cases hf : f k with
  | none => rw [hf] at h1; cases h1
  | some u => rw [hf] at h1; rw [valD_inj h1]
/-- What a list of pairs tells of a key, the last one counts. -/
def lastV : List KV → ByteArray → Option ByteArray
  | [], _ => none
  | x :: l, k => match lastV l k with
    | some v => some v
    | none => if k = x.1 then some x.2 else none
theorem lastV_snoc (x : KV) (k : ByteArray) : ∀ l : List KV, lastV (l ++ [x]) k = setF (lastV l) x.1 x.2 k
  | [] => by simp [lastV, setF]
  | y :: l => by
    rw [List.cons_append]
    simp only [lastV]
    rw [lastV_snoc x k l]
    by_cases e : k = x.1
    · simp [setF, e]
    · simp [setF, e, lastV]
theorem lastV_none : ∀ {l : List KV} {k : ByteArray}, lastV l k = none ↔ ∀ p ∈ l, p.1 ≠ k
  | [], k => by simp [lastV]
  | x :: l, k => by
    have ih := lastV_none (l := l) (k := k)
    simp only [lastV]
    cases h : lastV l k with
    | some v =>
      simp only [reduceCtorEq, false_iff]
      intro q
      have := ih.2 (fun p hp => q p (List.mem_cons_of_mem _ hp))
      rw [h] at this
      cases this
    | none =>
      by_cases e : k = x.1
      · simp [e]
      · simp only [e, if_false, List.mem_cons, forall_eq_or_imp, true_iff]
        exact ⟨fun q => e q.symm, ih.1 h⟩
/-- All pairs of a function, each once. -/
def Listed (f : ByteArray → Option ByteArray) (q : List KV) : Prop := NK q ∧ ∀ k v, (k, v) ∈ q ↔ f k = some v
theorem nodup_of_nk {l : List KV} (h : NK l) : l.Nodup := List.Pairwise.imp (fun hne e => hne (by rw [e])) h
theorem Listed.perm {f : ByteArray → Option ByteArray} {q q' : List KV} (h : Listed f q) (h' : Listed f q') : q.Perm q' :=
  (List.perm_ext_iff_of_nodup (nodup_of_nk h.1) (nodup_of_nk h'.1)).2 fun ⟨k, v⟩ => (h.2 k v).trans (h'.2 k v).symm
theorem lastK_hit {x : KV} {l : List KV} (h : ∃ p ∈ l, p.1 = x.1) : lastK (x :: l) = lastK l := by
  show (if l.any (fun q => decide (q.1 = x.1)) = true then lastK l else x :: lastK l) = _
  rw [if_pos]
  obtain ⟨p, hp, e⟩ := h
  exact List.any_eq_true.2 ⟨p, hp, decide_eq_true e⟩
theorem lastK_miss {x : KV} {l : List KV} (h : ∀ p ∈ l, p.1 ≠ x.1) : lastK (x :: l) = x :: lastK l := by
  show (if l.any (fun q => decide (q.1 = x.1)) = true then lastK l else x :: lastK l) = _
  rw [if_neg]
  intro q
  obtain ⟨p, hp, e⟩ := List.any_eq_true.1 q
  exact h p hp (of_decide_eq_true e)
theorem lastK_listed : ∀ l : List KV, Listed (lastV l) (lastK l)
  | [] => ⟨lastK_nk _, fun k v => by simp [lastK, lastV]⟩
  | x :: l => by
    refine ⟨lastK_nk _, fun k v => ?_⟩
    have ih := (lastK_listed l).2
    have hk := lastK_keys l
    simp only [lastV]
    by_cases e : k = x.1
    · subst e
      cases h : lastV l x.1 with
      | some u =>
        rw [lastK_hit ((hk x.1).1 ⟨_, (ih x.1 u).2 h, rfl⟩), ih, h]
      | none =>
        have hn := lastV_none.1 h
        rw [lastK_miss hn, List.mem_cons]
        simp only [if_true, Option.some.injEq]
        constructor
        · rintro (q | q)
          · rw [← q]
          · exact (hn (x.1, v) (lastK_mem l (x.1, v) q) rfl).elim
        · rintro rfl
          exact .inl rfl
    · have hx : ((k, v) ∈ lastK (x :: l)) ↔ (k, v) ∈ lastK l := by
        by_cases ha : ∃ p ∈ l, p.1 = x.1
        · rw [lastK_hit ha]
        · rw [lastK_miss (fun p hp q => ha ⟨p, hp, q⟩), List.mem_cons]
          constructor
          · rintro (q | q)
            · exact absurd (by rw [← q]) e
            · exact q
          · exact .inr
      rw [hx, ih]
      cases h : lastV l k with
      | some u => rfl
      | none => simp [e]
/-- The map in block b holds what f tells, of at most n keys. -/
def MapW (w : World) (b n : Nat) (f : ByteArray → Option ByteArray) : Prop := ∃ D : MD, w.ownsMap Try.prog 9 (plainElem Try.prog 9) b n D ∧ MapF D f
theorem MapW.later {w w' : World} {b n : Nat} {f : ByteArray → Option ByteArray} (h : MapW w b n f) (hb : Later w w') : MapW w' b n f := by
  obtain ⟨D, ho, hf⟩ := h
  have hlt := ho.lt
  obtain ⟨es, clock, h1, h2⟩ := ho
  exact ⟨D, ⟨es, clock, (hb.block b hlt).trans h1, h2⟩, hf⟩
theorem keyOf_string_inv {P : Program} {k : TypeId} (hk : P.underlying k = some .string) {key : Value} {kl : Lit} (h : keyOf P k key = some kl) : ∃ s : ByteArray, key = .string s ∧ kl = keyL s ∧ s.size ≤ maxLen := by
  unfold keyOf at h
  rw [hk] at h
  cases key <;> simp [mapKey, hk] at h
  exact ⟨_, rfl, h.2.symm, h.1⟩
/-- The range's step at texts by texts. -/
theorem wl_nextSS {H : Type} {P : Program} (w : World) {ops : Array Oper} {rest : List Oper} {o : Oper} {a : Act} {Q : Exit → Act → World → Prop}
    (hg : o.guard = none) (it : Operand) (hop : o.op = Op.next it false) (k e : TypeId) (K : Maps.Keyed P k) (hk : P.underlying k = some .string) (he : P.underlying e = some .string)
    (b r n : Nat) (D : DataW H) (left : Lit → Bool) (cnt : Nat) (hit : a.eval it = .pointer (some ⟨r, 0, none⟩)) (h : w.ranges P k (plainElem P e) b r n D left cnt)
    (hDone : cnt = 0 → (∀ kl, left kl = false) → wpList P ops Q rest (a.put o.dst (.tuple #[.bool false])) w)
    (hMore : ∀ (x c : ByteArray) (w' : World) (cnt' : Nat), x.size ≤ maxLen → c.size ≤ maxLen → left (keyL x) = true → (∀ zd, D.atKey (keyL x) zd = .lit (.string c.data.toList)) → w'.ranges P k (plainElem P e) b r n D (fun z => left z && !z.sameKey (keyL x)) cnt' → cnt' < cnt →
      w.grownBy w' (some r) → w'.heap.size = w.heap.size → (Instr.entry (.pointer (some ⟨r, 0, none⟩))).run P w' = .ok (.tuple #[.string x, .string c]) w' → wpList P ops Q rest (a.put o.dst (.tuple #[.bool true, .string x, .string c])) w') :
    wpList P ops Q (o :: rest) a w :=
  wpList_next_ranges w hg it hop k K (plainElem P e) Value.string Value.string (fun key kl hkey => by obtain ⟨x, rfl, _⟩ := keyOf_string_inv hk hkey; exact ⟨x, rfl⟩) (fun v y hv => by obtain ⟨c, rfl, _⟩ := plainElem_string_inv he hv; exact ⟨c, rfl⟩)
    b r n D left cnt hit h hDone (fun x c kl y w' cnt' hkey hlk hv hat hrg hlt hgr hsz hen => by
      obtain ⟨x', ex, rfl, hwx⟩ := keyOf_string_inv hk hkey
      cases ex
      obtain ⟨c', ec, rfl, hwc⟩ := plainElem_string_inv he hv
      cases ec
      exact hMore x c w' cnt' hwx hwc hlk hat hrg hlt hgr hsz hen)
theorem ranges_later {H : Type} {P : Program} {k : TypeId} {R : Value → Option (DataW H × List MemPlace)} {w w' : World} {b r n : Nat} {D : DataW H} {left : Lit → Bool} {cnt : Nat} (h : w.ranges P k R b r n D left cnt) (hb : Later w w') : w'.ranges P k R b r n D left cnt :=
  h.kept (row := none) ⟨hb.os, hb.tape, hb.output, hb.size, fun i hi _ => hb.block i hi⟩ (by simp) (by simp)
/-- What has come in a range: q, of the map D; left tells what is still to come. -/
def Come (D : MD) (left : Lit → Bool) (q : List KV) : Prop := NK q ∧ (∀ p ∈ q, (∀ zd, D.atKey (keyL p.1) zd = valD p.2) ∧ left (keyL p.1) = false) ∧ ∀ k, Maps.has D (keyL k) = true → left (keyL k) = false → ∃ p ∈ q, p.1 = k
theorem Come.start (D : MD) : Come D (Maps.has D) [] := ⟨List.Pairwise.nil, by simp, fun k h1 h2 => by rw [h1] at h2; cases h2⟩
theorem Come.step {D : MD} {left : Lit → Bool} {q : List KV} (h : Come D left q) {x c : ByteArray} (hl : left (keyL x) = true) (hc : ∀ zd, D.atKey (keyL x) zd = valD c) : Come D (fun z => left z && !z.sameKey (keyL x)) (q ++ [(x, c)]) := by
  obtain ⟨h1, h2, h3⟩ := h
  have hs : (keyL x).sameKey (keyL x) = true := WideAt.sameKey_self (keyL_lit x)
  refine ⟨List.pairwise_append.2 ⟨h1, List.pairwise_singleton _ _, fun p hp r hr e => ?_⟩, fun p hp => ?_, fun k hk hl' => ?_⟩
  · rw [List.mem_singleton] at hr
    subst hr
    have := (h2 p hp).2
    rw [e] at this
    rw [hl] at this
    cases this
  · rcases List.mem_append.1 hp with hp | hp
    · refine ⟨(h2 p hp).1, ?_⟩
      show (left (keyL p.1) && _) = false
      rw [(h2 p hp).2]
      rfl
    · rw [List.mem_singleton] at hp
      subst hp
      refine ⟨hc, ?_⟩
      show (left (keyL x) && !(keyL x).sameKey (keyL x)) = false
      rw [hs, hl]
      rfl
  · have hl2 : (left (keyL k) && !(keyL k).sameKey (keyL x)) = false := hl'
    cases e : left (keyL k)
    · obtain ⟨p, hp, hpk⟩ := h3 k hk e
      exact ⟨p, List.mem_append.2 (.inl hp), hpk⟩
    · rw [e] at hl2
      have : (keyL k).sameKey (keyL x) = true := by simpa using hl2
      exact ⟨(x, c), by simp, (keyL_inj (WideAt.sameKey_eq this)).symm⟩
theorem Come.done {D : MD} {left : Lit → Bool} {q : List KV} (h : Come D left q) (hl : ∀ kl, left kl = false) {f : ByteArray → Option ByteArray} (hf : MapF D f) : Listed f q := by
  obtain ⟨h1, h2, h3⟩ := h
  refine ⟨h1, fun k v => ⟨fun hp => hf.at_ (h2 _ hp).1, fun hv => ?_⟩⟩
  obtain ⟨⟨k', v'⟩, hp, e⟩ := h3 k (by rw [(hf k).1, hv]; rfl) (hl _)
  obtain rfl : k' = k := e
  have := hf.at_ (h2 _ hp).1
  rw [hv] at this
  rw [Option.some.inj this]
  exact hp
end Go.Proofs.Ytknjbkbbhgjnlaa
