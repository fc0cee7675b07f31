/- Kinds: what a value's cells say, kind by kind; arguments opened by their kinds; the frame of every law's row. No conditions. -/
import Derived.Test.YtknjbkbbhgjnlaaToolA
import Derived.OpenShut
import Derived.ShutString
import Derived.ChangeOld
import Derived.SizedLaws
import Derived.Carry
import Derived.Deep.Slices
namespace Go.Proofs.Ytknjbkbbhgjnlaa
open Go.ChangeShapes Go.WideShapes Go.RowKit Go.Deep
set_option linter.unusedVariables false
set_option linter.unusedSimpArgs false

/-- A kind of values: how many cells one takes, and what they say. -/
structure Kn (α : Type) where
  sz : Nat
  K : World → α → List Value → Prop
  len : ∀ {w x cs}, K w x cs → cs.length = sz
  one : ∀ {w x cs}, K w x cs → ∀ u ∈ cs, u.oneCell' = true
  below : ∀ {w w1 : World} {x cs}, Below w.heap.size w w1 → K w x cs → K w1 x cs

/-- A row of such values that is read. -/
def Kn.Rows {α : Type} (d : Kn α) (w : World) (A : Option Addr) (xs : List α) : Prop :=
  xs.length ≤ 9223372036854775807 ∧ (0 < xs.length → ∃ ad, A = some ad ∧ ad.block < w.heap.size ∧ ∀ j x, xs[j]? = some x → ∃ c, d.K w x c ∧ ∀ i u, c[i]? = some u → w.cell? (ad.add (j * d.sz + i)) = some u)

theorem block_add (a : Addr) (n : Nat) : (a.add n).block = a.block := by unfold Addr.add; split <;> rfl

section
variable {α : Type} {d : Kn α} {w w1 : World} {A : Option Addr} {xs : List α}
theorem Kn.Rows.below (h : d.Rows w A xs) (hb : Below w.heap.size w w1) : d.Rows w1 A xs :=
  ⟨h.1, fun hn => by
    obtain ⟨ad, e, hlt, hc⟩ := h.2 hn
    refine ⟨ad, e, Nat.lt_of_lt_of_le hlt hb.size, fun j x hj => ?_⟩
    obtain ⟨c, hk, hcell⟩ := hc j x hj
    exact ⟨c, d.below hb hk, fun i u hu => (hb.cell (by rw [block_add]; exact hlt)).trans (hcell i u hu)⟩⟩
theorem Kn.Rows.none_ (d : Kn α) (w : World) (A : Option Addr) : d.Rows w A [] := ⟨by simp, fun h => absurd h (by simp)⟩
/-- One of the row's values: its cells, and where they lie. -/
theorem Kn.Rows.get (h : d.Rows w A xs) {k : Nat} (hk : k < xs.length) : ∃ ad c, A = some ad ∧ ad.block < w.heap.size ∧ d.K w xs[k] c ∧ ∀ i u, c[i]? = some u → w.cell? (ad.add (k * d.sz + i)) = some u := by
  obtain ⟨ad, e, hlt, hc⟩ := h.2 (by omega)
  obtain ⟨c, hk', hcell⟩ := hc k _ (List.getElem?_eq_getElem hk)
  exact ⟨ad, c, e, hlt, hk', hcell⟩
end

/-- The same, the address as a walk spells a field's. -/
theorem Kn.Rows.fields {α : Type} {d : Kn α} {w : World} {A : Option Addr} {xs : List α} (h : d.Rows w A xs) {k : Nat} (hk : k < xs.length) : ∃ ad c, A = some ad ∧ ad.block < w.heap.size ∧ d.K w xs[k] c ∧
    (∀ u, c[0]? = some u → w.cell? (ad.add (k * d.sz)) = some u) ∧ ∀ j u, c[j + 1]? = some u → w.cell? ⟨(ad.add (k * d.sz)).block, (ad.add (k * d.sz)).off + (j + 1), none⟩ = some u := by
  obtain ⟨ad, c, e, hlt, hK, hc⟩ := h.get hk
  refine ⟨ad, c, e, hlt, hK, fun u hu => hc 0 u hu, fun j u hu => ?_⟩
  have := hc (j + 1) u hu
  rw [← this, ← Go.Deep.add_add]
  congr 1

def Kn.enc {α : Type} (f : α → Value) (h : ∀ x, (f x).oneCell' = true) : Kn α where
  sz := 1
  K := fun _ x cs => cs = [f x]
  len := fun h => by rw [h]; rfl
  one := fun hh u hu => by rw [hh] at hu; rw [List.mem_singleton.1 hu]; exact h _
  below := fun _ h => h
def Kn.int (k : IntKind) : Kn Int := .enc (Value.int k) (fun _ => rfl)
def Kn.bool : Kn Bool := .enc Value.bool (fun _ => rfl)
def Kn.str : Kn ByteArray := .enc Value.string (fun _ => rfl)
def Kn.sl {α : Type} (d : Kn α) : Kn (List α) where
  sz := 1
  K := fun w xs cs => ∃ A c, cs = [.slice A xs.length c] ∧ xs.length ≤ c ∧ d.Rows w A xs
  len := by rintro w x cs ⟨A, c, rfl, _⟩; rfl
  one := by
    rintro w x cs ⟨A, c, rfl, _⟩ u hu
    rw [List.mem_singleton.1 hu]; rfl
  below := by
    rintro w w1 x cs hb ⟨A, c, rfl, hl, hr⟩
    exact ⟨A, c, rfl, hl, hr.below hb⟩
/-- Two, one behind the other. -/
def Kn.pair {α β : Type} (a : Kn α) (b : Kn β) : Kn (α × β) where
  sz := a.sz + b.sz
  K := fun w x cs => ∃ c0 c1, cs = c0 ++ c1 ∧ a.K w x.1 c0 ∧ b.K w x.2 c1
  len := by
    rintro w x cs ⟨c0, c1, rfl, h0, h1⟩
    rw [List.length_append, a.len h0, b.len h1]
  one := by
    rintro w x cs ⟨c0, c1, rfl, h0, h1⟩ u hu
    rcases List.mem_append.1 hu with hu | hu
    · exact a.one h0 u hu
    · exact b.one h1 u hu
  below := by
    rintro w w1 x cs hb ⟨c0, c1, rfl, h0, h1⟩
    exact ⟨c0, c1, rfl, a.below hb h0, b.below hb h1⟩
/-- By another name. -/
def Kn.via {α β : Type} (d : Kn α) (f : β → α) : Kn β where
  sz := d.sz
  K := fun w x cs => d.K w (f x) cs
  len := d.len
  one := d.one
  below := d.below

/-- A one-cell element of a row. -/
theorem Kn.Rows.one_ {α : Type} {f : α → Value} {hf : ∀ x, (f x).oneCell' = true} {w : World} {A : Option Addr} {xs : List α} (h : (Kn.enc f hf).Rows w A xs) {k : Nat} (hk : k < xs.length) :
    ∃ ad, A = some ad ∧ ad.block < w.heap.size ∧ w.cell? (ad.add k) = some (f xs[k]) := by
  obtain ⟨ad, c, e, hlt, hK, hc⟩ := h.get hk
  obtain rfl := hK
  have := hc 0 _ rfl
  exact ⟨ad, e, hlt, by simpa [Kn.enc] using this⟩

/-- Arguments of a type are of a kind; ok: what is known of their numbers. -/
structure Opens {α : Type} (P : Program) (t : TypeId) (d : Kn α) (ok : α → Prop) : Prop where
  out : ∀ {H : Type} {enc : TypeId × Value → H} {w : World} {fuel : Nat} {cs : List Value} {x : DataW H × List MemPlace},
    DataW.trod enc P w 0 (fun _ => true) true fuel t cs = some x → ∃ a, d.K w a cs ∧ ok a

def fits (k : IntKind) (n : Int) : Prop := (Lit.int k n).wf = true
section
variable {P : Program}
theorem Opens.int {t : TypeId} {k : IntKind} (ht : P.underlying t = some (.int k)) : Opens P t (Kn.int k) (fits k) := by
  constructor
  intro H enc w fuel cs x h
  obtain ⟨n, rfl, _, hw⟩ := DataW.trod_int ht h
  exact ⟨n, rfl, hw⟩
theorem Opens.bool {t : TypeId} (ht : P.underlying t = some .bool) : Opens P t Kn.bool (fun _ => True) := by
  constructor
  intro H enc w fuel cs x h
  obtain ⟨n, rfl, _⟩ := DataW.trod_bool ht h
  exact ⟨n, rfl, trivial⟩
theorem Opens.str {t : TypeId} (ht : P.underlying t = some .string) : Opens P t Kn.str (fun s => s.size ≤ 9223372036854775807) := by
  constructor
  intro H enc w fuel cs x h
  obtain ⟨n, rfl, _, hw⟩ := DataW.trod_string ht h
  exact ⟨n, rfl, by simpa [maxLen] using hw⟩
theorem Opens.via {α β : Type} {t : TypeId} {d : Kn α} {ok : α → Prop} (h : Opens P t d ok) (f : β → α) (g : α → β) (hg : ∀ a, f (g a) = a) {ok' : β → Prop} (hok : ∀ a, ok a → ok' (g a)) : Opens P t (d.via f) ok' := by
  constructor
  intro H enc w fuel cs x hx
  obtain ⟨a, ha, hk⟩ := h.out hx
  exact ⟨g a, by show d.K w (f (g a)) cs; rw [hg]; exact ha, hok a hk⟩
theorem list_of (n : Nat) {β : Type} (Q : Nat → β → Prop) (h : ∀ i, i < n → ∃ b, Q i b) : ∃ l : List β, l.length = n ∧ ∀ i b, l[i]? = some b → Q i b := by
  induction n with
  | zero => exact ⟨[], rfl, fun i b hb => by simp at hb⟩
  | succ n ih =>
    obtain ⟨l, hl, hq⟩ := ih (fun i hi => h i (by omega))
    obtain ⟨b, hb⟩ := h n (by omega)
    refine ⟨l ++ [b], by simp [hl], fun i c hc => ?_⟩
    rcases Nat.lt_or_ge i l.length with hi | hi
    · rw [List.getElem?_append_left hi] at hc; exact hq i c hc
    · have : i = n := by
        have := (List.getElem?_eq_some_iff.1 hc).1
        simp at this; omega
      subst this
      rw [List.getElem?_append_right hi, hl] at hc
      simp at hc
      subst hc
      exact hb
theorem Opens.slice {α : Type} {t e : TypeId} {d : Kn α} {ok : α → Prop} (ht : P.underlying t = some (.slice e)) (hc : P.cellsOf e = d.sz) (hs : 0 < d.sz) (he : Opens P e d ok) :
    Opens P t d.sl (fun xs => ∀ x ∈ xs, ok x) := by
  constructor
  intro H enc w fuel cs x h
  rcases open_slice ht h with ⟨rfl, _⟩ | ⟨a, len, cap, m, n, D, Pl, rfl, _, hl, hm, hmm, _, hi⟩
  · exact ⟨[], ⟨none, 0, rfl, by simp, Kn.Rows.none_ _ _ _⟩, by simp⟩
  · rw [if_pos rfl] at hmm
    subst hmm
    obtain ⟨l, hlen, hq⟩ := list_of len (fun i (b : α) => (∃ c, d.K w b c ∧ ∀ j u, c[j]? = some u → w.cell? (a.add (i * d.sz + j)) = some u) ∧ ok b) (fun i hi' => by
      obtain ⟨cs', hcs, ht'⟩ := hi i (by omega)
      obtain ⟨b, hb, hk⟩ := he.out ht'
      obtain ⟨_, hcl, hat⟩ := World.cells?_some hcs
      refine ⟨b, ⟨cs', hb, fun j u hu => ?_⟩, hk⟩
      have hj : j < cs'.length := (List.getElem?_eq_some_iff.1 hu).1
      have := hat j (by omega)
      rw [hc] at this
      rw [← Go.Deep.add_add, this, hu])
    have hmax : len ≤ 9223372036854775807 := by unfold maxLen at hm; omega
    refine ⟨l, ⟨some a, m, by rw [hlen], by omega, by rw [hlen]; exact hmax, fun hn => ⟨a, rfl, ?_, fun j x hj => (hq j x hj).1⟩⟩, fun x hx => ?_⟩
    · obtain ⟨⟨c, hk, hcell⟩, _⟩ := hq 0 l[0] (List.getElem?_eq_getElem hn)
      have hcl := d.len hk
      have := hcell 0 c[0] (List.getElem?_eq_getElem (by omega))
      have := World.block_lt_of_cell? w _ this
      rwa [block_add] at this
    · obtain ⟨i, hi', rfl⟩ := List.getElem_of_mem hx
      exact (hq i _ (List.getElem?_eq_getElem hi')).2

/-- The fields from the i-th on, out of a struct's cells. -/
structure OpensF {α : Type} (P : Program) (fs : Array Field) (tot i off : Nat) (d : Kn α) (ok : α → Prop) : Prop where
  out : ∀ {H : Type} {enc : TypeId × Value → H} {w : World} {n : Nat} {cs : List Value} {xs : List (DataW H × List MemPlace)}, cs.length = tot → xs.length = fs.size →
    (∀ (j : Nat) (f : Field), fs[j]? = some f → DataW.trod enc P w 0 (fun _ => true) true n f.type ((cs.drop f.offset).take (P.cellsOf f.type)) = xs[j]?) → ∃ a, d.K w a (cs.drop off) ∧ ok a
theorem OpensF.last {α : Type} {fs : Array Field} {tot i off : Nat} {f : Field} {d : Kn α} {ok : α → Prop} (hf : fs[i]? = some f) (ho : f.offset = off) (hs : off + P.cellsOf f.type = tot) (h : Opens P f.type d ok) : OpensF P fs tot i off d ok := by
  constructor
  intro H enc w n cs xs hc hx hall
  have h1 := hall i f hf
  have hi : i < fs.size := (Array.getElem?_eq_some_iff.1 hf).1
  rw [List.getElem?_eq_getElem (by omega), ho, List.take_of_length_le (by rw [List.length_drop]; omega)] at h1
  exact h.out h1
theorem OpensF.cons {α β : Type} {fs : Array Field} {tot i off off' : Nat} {f : Field} {d : Kn α} {e : Kn β} {ok : α → Prop} {ok' : β → Prop} (hf : fs[i]? = some f) (ho : f.offset = off) (hs : off + P.cellsOf f.type = off')
    (h : Opens P f.type d ok) (h' : OpensF P fs tot (i + 1) off' e ok') : OpensF P fs tot i off (d.pair e) (fun x => ok x.1 ∧ ok' x.2) := by
  constructor
  intro H enc w n cs xs hc hx hall
  have h1 := hall i f hf
  have hi : i < fs.size := (Array.getElem?_eq_some_iff.1 hf).1
  rw [List.getElem?_eq_getElem (by omega), ho] at h1
  obtain ⟨a, ha, hk⟩ := h.out h1
  obtain ⟨b, hb, hk'⟩ := h'.out hc hx hall
  refine ⟨(a, b), ⟨_, _, ?_, ha, hb⟩, hk, hk'⟩
  rw [← hs, ← List.drop_drop, List.take_append_drop]
theorem Opens.struct {α : Type} {t : TypeId} {fs : Array Field} {tot : Nat} {d : Kn α} {ok : α → Prop} (ht : P.underlying t = some (.struct fs)) (hc : P.cellsOf t = tot) (h : OpensF P fs tot 0 0 d ok) : Opens P t d ok := by
  constructor
  intro H enc w fuel cs x hx
  obtain ⟨xs, n, _, _, hl, hlen, hf⟩ := DataW.trod_struct ht hx
  obtain ⟨a, ha, hk⟩ := h.out (by rw [hl, hc]) hlen hf
  exact ⟨a, by simpa using ha, hk⟩

/-- An array of n values. -/
def Kn.vec {α : Type} (n : Nat) (d : Kn α) : Kn (List α) where
  sz := n * d.sz
  K := fun w xs cs => xs.length = n ∧ ∃ css : List (List Value), css.length = n ∧ cs = css.flatten ∧ ∀ i x c, xs[i]? = some x → css[i]? = some c → d.K w x c
  len := by
    rintro w xs cs ⟨hn, css, hl, rfl, h⟩
    have : ∀ (l : List (List Value)), (∀ c ∈ l, c.length = d.sz) → l.flatten.length = l.length * d.sz := by
      intro l
      induction l with
      | nil => intro _; simp
      | cons c l ih => intro hc; rw [List.flatten_cons, List.length_append, ih (fun c' h' => hc c' (by simp [h'])), hc c (by simp), List.length_cons, Nat.add_mul]; omega
    rw [this css (fun c hc => ?_), hl]
    obtain ⟨i, hi, rfl⟩ := List.getElem_of_mem hc
    exact d.len (h i xs[i] _ (List.getElem?_eq_getElem (by omega)) (List.getElem?_eq_getElem hi))
  one := by
    rintro w xs cs ⟨hn, css, hl, rfl, h⟩ u hu
    obtain ⟨c, hc, huc⟩ := List.mem_flatten.1 hu
    obtain ⟨i, hi, rfl⟩ := List.getElem_of_mem hc
    exact d.one (h i xs[i] _ (List.getElem?_eq_getElem (by omega)) (List.getElem?_eq_getElem hi)) u huc
  below := by
    rintro w w1 xs cs hb ⟨hn, css, hl, rfl, h⟩
    exact ⟨hn, css, hl, rfl, fun i x c hx hc => d.below hb (h i x c hx hc)⟩
theorem chunks (m : Nat) : ∀ (n : Nat) (cs : List Value), cs.length = n * m → cs = ((List.range n).map fun i => (cs.drop (i * m)).take m).flatten
  | 0, cs, h => by
    have : cs = [] := List.eq_nil_of_length_eq_zero (by simpa using h)
    subst this; simp
  | n + 1, cs, h => by
    rw [List.range_succ_eq_map, List.map_cons, List.flatten_cons, List.map_map]
    have h1 : (cs.drop m).length = n * m := by rw [List.length_drop, h, Nat.add_mul]; omega
    have ih := chunks m n (cs.drop m) h1
    have e : (List.range n).map ((fun i => (cs.drop (i * m)).take m) ∘ Nat.succ) = (List.range n).map fun i => ((cs.drop m).drop (i * m)).take m := by
      refine List.map_congr_left fun i _ => ?_
      simp only [Function.comp_def, List.drop_drop, Nat.succ_eq_add_one]
      rw [show (i + 1) * m = m + i * m by rw [Nat.add_mul]; omega]
    rw [e, ← ih]
    simp
theorem Opens.arr {α : Type} {t e : TypeId} {n : Nat} {d : Kn α} {ok : α → Prop} (ht : P.underlying t = some (.array n e)) (hc : P.cellsOf e = d.sz) (hct : P.cellsOf t = n * d.sz) (he : Opens P e d ok) :
    Opens P t (d.vec n) (fun xs => ∀ x ∈ xs, ok x) := by
  constructor
  intro H enc w fuel cs x h
  obtain ⟨xs, m, _, _, hl, hlen, hf⟩ := DataW.trod_array ht h
  rw [hct] at hl
  obtain ⟨l, hll, hq⟩ := list_of n (fun i (b : α) => d.K w b ((cs.drop (i * d.sz)).take d.sz) ∧ ok b) (fun i hi => by
    have h1 := hf i hi
    rw [hc, List.getElem?_eq_getElem (by omega)] at h1
    exact he.out h1)
  refine ⟨l, ⟨hll, (List.range n).map fun i => (cs.drop (i * d.sz)).take d.sz, by simp, chunks d.sz n cs hl, fun i x c hx hcc => ?_⟩, fun x hx => ?_⟩
  · have hi : i < n := by have := (List.getElem?_eq_some_iff.1 hx).1; omega
    have : c = (cs.drop (i * d.sz)).take d.sz := by
      rw [List.getElem?_map, List.getElem?_range hi] at hcc
      simpa using hcc.symm
    rw [this]
    exact (hq i x hx).1
  · obtain ⟨i, hi', rfl⟩ := List.getElem_of_mem hx
    exact (hq i _ (List.getElem?_eq_getElem hi')).2
/-- An array of n one-cell values. -/
theorem Kn.vec_one {α : Type} {n : Nat} {f : α → Value} {hf : ∀ x, (f x).oneCell' = true} {w : World} {xs : List α} {cs : List Value} (h : ((Kn.enc f hf).vec n).K w xs cs) : xs.length = n ∧ cs = xs.map f := by
  obtain ⟨hn, css, hl, rfl, h⟩ := h
  refine ⟨hn, ?_⟩
  have e : css = xs.map fun x => [f x] := by
    refine List.ext_getElem (by simp [hl, hn]) fun i h1 h2 => ?_
    have := h i (xs[i]'(by simpa using h2)) css[i] (List.getElem?_eq_getElem _) (List.getElem?_eq_getElem h1)
    rw [List.getElem_map]
    exact this
  rw [e]
  clear h e hl hn
  induction xs with
  | nil => rfl
  | cons x xs ih => simp [ih]

theorem okWide_array {t e : TypeId} {n : Nat} {w : World} {r : Reach} {base : Nat} {v : Value} (ht : P.underlying t = some (.array n e)) (h : Value.okWide P w r base t v) : ∃ cs, v = .agg cs ∧ cs.size = P.cellsOf t := by
  simp only [Value.okWide, ht] at h
  obtain ⟨cs, h1, h2, _⟩ := h
  exact ⟨cs, h1, h2⟩
theorem agg_of {cs : Array Value} {l : List Value} (h : (Value.agg cs).cells.toList = l) : Value.agg cs = .agg l.toArray := by rw [← h]; rfl

/-! ### The frame of a law's row -/
theorem trodAll_kept {H : Type} {enc : TypeId × Value → H} (hl : laidOutB P = true) {W W' : World} (hb : Below W.heap.size W W') : ∀ (ts : List TypeId) (vs : List Value) (ds : List (DataW H)) (ps : List MemPlace),
    (∀ t ∈ ts, P.readableRec t = true ∧ t < P.types.size) → (∀ x ∈ ps, x.block < W.heap.size) → DataW.TrodAll enc P W 0 (fun _ => true) true ts vs ds ps → DataW.TrodAll enc P W' 0 (fun b => decide (b < W.heap.size)) true ts vs ds ps
  | [], vs, ds, ps, _, _, h => by
    obtain ⟨rfl, rfl, rfl⟩ := trodAll_nil h
    exact trodAll_mk0
  | t :: ts, vs, ds, ps, ht, hlt, h => by
    obtain ⟨v, vs', d, ds', p, q, rfl, rfl, rfl, h1, h2⟩ := trodAll_cons h
    exact trodAll_cons_mk (Below.trod hl (ht t (by simp)).1 (ht t (by simp)).2 h1 hb (fun x hx => hlt x (by simp [hx])))
      (trodAll_kept hl hb ts vs' ds' q (fun t' h' => ht t' (by simp [h'])) (fun x hx => hlt x (by simp [hx])) h2)
end
end Go.Proofs.Ytknjbkbbhgjnlaa
