/- The log's state: what Apply computes, as a plain function; slices.Clone of requests. Condition: at most 2^40 of them. -/
import Derived.Test.YtknjbkbbhgjnlaaRight
import Derived.Maps.AppendAt
import Derived.OwnWalk
import Derived.Lib.SliceRun
import Derived.Deep.RegionLaw
import Derived.Deep.AppendLies
namespace Go.Proofs.Ytknjbkbbhgjnlaa
open Go.RowKit
set_option linter.unusedVariables false
set_option linter.unusedSimpArgs false
/-- A reply; what a client asked last; a state. -/
structure Rp where
  e : Int
  i : Int
  h : Int
def Rp.A (r : Rp) : Array Value := #[.int .i64 r.e, .int .i64 r.i, .int .i64 r.h]
structure Cl where
  q : Int
  n : Int
  r : Rp
def Cl.zero : Cl := ⟨0, 0, 0, 0, 0⟩
/-- A state but for its heads, of which the number is told. -/
structure ST where
  l : List Rq
  c0 : Cl
  c1 : Cl
  c2 : Cl
  c3 : Cl
def ST.zero : ST := ⟨[], Cl.zero, Cl.zero, Cl.zero, Cl.zero⟩
def ST.cl (s : ST) (k : Nat) : Cl := match k with | 0 => s.c0 | 1 => s.c1 | 2 => s.c2 | _ => s.c3
def ST.put (s : ST) (k : Nat) (c : Cl) (l : List Rq) : ST := match k with | 0 => ⟨l, c, s.c1, s.c2, s.c3⟩ | 1 => ⟨l, s.c0, c, s.c2, s.c3⟩ | 2 => ⟨l, s.c0, s.c1, c, s.c3⟩ | _ => ⟨l, s.c0, s.c1, s.c2, c⟩
def ST.A (s : ST) (rv hv : Value) : Array Value :=
  #[rv, .int .i64 s.c0.q, .int .i64 s.c0.n, .int .i64 s.c0.r.e, .int .i64 s.c0.r.i, .int .i64 s.c0.r.h, .int .i64 s.c1.q, .int .i64 s.c1.n, .int .i64 s.c1.r.e, .int .i64 s.c1.r.i, .int .i64 s.c1.r.h, .int .i64 s.c2.q, .int .i64 s.c2.n, .int .i64 s.c2.r.e, .int .i64 s.c2.r.i, .int .i64 s.c2.r.h, .int .i64 s.c3.q, .int .i64 s.c3.n, .int .i64 s.c3.r.e, .int .i64 s.c3.r.i, .int .i64 s.c3.r.h, hv]
def ST.ap (s : ST) (m : Nat) (r : Rq) : ST × Rp :=
  if r.right = false then (s, ⟨1, 0, 0⟩)
  else if r.s = (s.cl r.c.toNat).q then (s, (s.cl r.c.toNat).r)
  else if r.s < (s.cl r.c.toNat).q then (s, ⟨7, 0, 0⟩)
  else if 20 ≤ (s.cl r.c.toNat).n then (s, ⟨6, 0, 0⟩)
  else if 64 ≤ s.l.length then (s, ⟨10, 0, 0⟩)
  else (s.put r.c.toNat ⟨r.s, (s.cl r.c.toNat).n + 1, 0, s.l.length, m + 1⟩ (s.l ++ [r]), ⟨0, s.l.length, m + 1⟩)
def Rq.L (l : List Rq) : List Value := l.flatMap fun r => r.A.toList
theorem Rq.L_length (l : List Rq) : (Rq.L l).length = l.length * 5 := by
  induction l with
  | nil => rfl
  | cons a l ih => simp only [Rq.L, List.flatMap_cons, List.length_append, List.length_cons] at ih ⊢; rw [ih]; simp [Rq.A]; omega
theorem Rq.L_one (l : List Rq) : ∀ u ∈ Rq.L l, u.oneCell' = true := by
  intro u hu
  simp only [Rq.L, List.mem_flatMap] at hu
  obtain ⟨r, _, hu⟩ := hu
  simp [Rq.A] at hu
  rcases hu with rfl | rfl | rfl | rfl | rfl <;> rfl
theorem Rq.L_snoc (l : List Rq) (r : Rq) : Rq.L (l ++ [r]) = Rq.L l ++ r.A.toList := by simp [Rq.L]
/-- A row of requests under a slice. -/
def RowAt (W : World) (v : Value) (l : List Rq) : Prop :=
  ∃ A cap, v = .slice A l.length cap ∧ l.length ≤ cap ∧ (A = none → l = []) ∧ ∀ a, A = some a → a.block < W.heap.size ∧ (∀ j u, (Rq.L l)[j]? = some u → W.cell? (a.add j) = some u) ∧ ∃ cs fr, W.heap[a.block]? = some (.cells cs 63 fr)
theorem RowAt.below {W W' : World} {v : Value} {l : List Rq} (h : RowAt W v l) (hb : Below W.heap.size W W') : RowAt W' v l := by
  obtain ⟨A, cap, rfl, h1, h2, h3⟩ := h
  exact ⟨A, cap, rfl, h1, h2, fun a ha => ⟨Nat.lt_of_lt_of_le (h3 a ha).1 hb.size, fun j u hu => cell_keep ((h3 a ha).2.1 j u hu) hb, by
    obtain ⟨cs, fr, h4⟩ := (h3 a ha).2.2
    exact ⟨cs, fr, (hb.block _ (h3 a ha).1).trans h4⟩⟩⟩
theorem RowAt.nil (W : World) : RowAt W (.slice none 0 0) [] := ⟨none, 0, rfl, Nat.le_refl _, fun _ => rfl, fun a h => by cases h⟩
theorem RowAt.own {W : World} {base : Nat} {v : Value} {l : List Rq} (h : W.ownsRow base 63 5 v l.length (Rq.L l)) : RowAt W v l := by
  rcases h.2 with ⟨rfl, hn⟩ | ⟨g, cap, cur, rfl, hb, hgg, hc, _⟩
  · exact ⟨none, 0, by rw [hn], by omega, fun _ => List.eq_nil_of_length_eq_zero hn, fun a h => by cases h⟩
  · refine ⟨some ⟨g, 0, none⟩, cap, rfl, hc, fun h => by (cases h), fun a ha => ?_⟩
    obtain rfl := Option.some.inj ha
    exact ⟨(h.lt g rfl).2, fun j u hu => h.cells rfl j u hu, _, _, hgg⟩
theorem RowAt.kept {W W' : World} {k : Nat} {T : TypeId} {cs : Array Value} {v : Value} {l : List Rq} (h : RowAt W v l) (hg : W.grownBy W' (some k)) (hk : Whole W k T cs) (hne : T ≠ 63) : RowAt W' v l := by
  obtain ⟨A, c, rfl, h1, h2, h3⟩ := h
  refine ⟨A, c, rfl, h1, h2, fun a ha => ?_⟩
  obtain ⟨hlt, hc, ds, fr, h4⟩ := h3 _ ha
  have hab : a.block ≠ k := by
    rintro rfl
    unfold Whole at hk
    rw [hk] at h4
    simp only [Option.some.injEq, Obj.cells.injEq] at h4
    exact hne h4.2.1
  exact ⟨Nat.lt_of_lt_of_le hlt hg.size, fun j u hu => hg.cell (hc j u hu) (by unfold Addr.add; split <;> simp <;> omega), ds, fr, (hg.block _ hlt (by simpa using hab)).trans h4⟩
theorem req_info : ∃ i z, (Try.prog.info? 63) = some i ∧ i.zero = some z ∧ i.size = 5 ∧ i.bytes = 64 ∧ z.cells.size = 5 := by
  obtain ⟨i, hi, hz, h1, h2⟩ := info_parts (P := Try.prog) (e := 63) (z := .agg #[.int .i64 0, .int .i64 0, .string ⟨#[]⟩, .string ⟨#[]⟩, .string ⟨#[]⟩]) (size := 5) (bytes := 64) (by kernel_rfl)
  exact ⟨i, _, hi, hz, h1, h2, rfl⟩
def ClonedAt (w w' : World) (e : Ending) (l : List Rq) : Prop := ∃ v', e = .returned v' ∧ w'.ownsRow w.heap.size 63 5 v' l.length (Rq.L l) ∧ Below w.heap.size w w'
set_option maxHeartbeats 400000 in
set_option maxRecDepth 100000 in
theorem clone_calls (w : World) (v : Value) (l : List Rq) (h : RowAt w v l) (hn : l.length ≤ 1099511627776) :
    Calls Try.prog 77 #[v] w fun e w' => ClonedAt w w' e l := by
  obtain ⟨A, cap, rfl, h1, h2, h3⟩ := h
  have hnil := fun (W : World) (a : Option Addr) (n c : Nat) => Lib.run_eql_slice_nil (P := Try.prog) W 66 63 a n c 0 0 Try.underlying66
  cases A with
  | none =>
    obtain rfl := h2 rfl
    simp only [List.length_nil] at h1 hn ⊢
    clear h2 h3
    go_enter Try.func77, Try.ntmps77
    go_wp2
    go_returns
    exact ⟨_, rfl, World.ownsRow_nil _ _ _ _, Below.refl _ _⟩
  | some a =>
    obtain ⟨hlt, hc, _⟩ := h3 a rfl
    clear h3 h2
    obtain ⟨ii, iz, j1, j2, j3, j4, j5⟩ := req_info
    have hlen := Rq.L_length l
    have hone := Rq.L_one l
    have hown := World.ownsRow_made (base := w.heap.size) (e := 63) (size := 5) w #[] 0 (Nat.le_refl _) (by decide) rfl
    have hc' : ∀ j u, (Rq.L l)[j]? = some u → (w.alloc (.cells #[] 63)).cell? (a.add j) = some u := fun j u hu => cell_alloc (hc j u hu) _
    have hm : 0 + l.length ≤ maxLen := by unfold maxLen; omega
    have hm2 : (0 + l.length) * 64 ≤ 140737488355328 := by omega
    replace hc := Lib.hid hc
    replace hc' := Lib.hid hc'
    replace hone := Lib.hid hone
    replace hown := Lib.hid hown
    go_enter Try.func77, Try.ntmps77
    go_wp2_with (at_builtin; refine wpList_append_own _ rfl _ _ 66 rfl w.heap.size 63 ii iz 5 64 Try.underlying66 j1 j2 j3 j4 j5 (by decide) _ 0 [] rfl hown.out a l.length cap (Rq.L l) rfl hlen hc'.out hone.out hm hm2 (by simp) ?_; intro v' w' ho' hg' hv')
    go_returns
    refine ⟨v', rfl, by simpa using ho', ?_⟩
    have hb : Below w.heap.size w (w.alloc (.cells #[] 63)) := by go_grown
    exact below_only' hb hg' (Nat.le_refl _)
end Go.Proofs.Ytknjbkbbhgjnlaa
