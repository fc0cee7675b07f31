/- The reference's history in memory; History.Do. Condition: at most 2^40 calls so far. -/
import Derived.Test.YtdohmkanpdhmaaaHist1
import Derived.Maps.AppendAt
import Derived.OwnWalk
import Derived.Deep.RegionLaw
import Derived.Deep.AppendLies
namespace Go.Proofs.Ytdohmkanpdhmaaa
open Go.RowKit
set_option linter.unusedVariables false
set_option linter.unusedSimpArgs false
/-- append onto a row of the call's own, as one step of a region that draws. -/
theorem step_own {P : Program} (w : World) {ops : Array Oper} {o : Oper} {a : Act} {K : Act → World → Prop} {Q : Exit → Act → World → Prop} {E : Prop} (hgd : o.guard = none) (s x : Operand) (t : TypeId)
    (ho : o.op = .call { callee := .builtin .append, args := #[s, x], argTypes := #[t, t] })
    (base : Nat) (e : TypeId) (i : TypeInfo) (z : Value) (bytes : Nat) (ht : P.underlying t = some (.slice e)) (hi : P.info? e = some i) (hz : i.zero = some z)
    (hsize : i.size = 1) (hby : i.bytes = bytes) (hzs : z.cells.size = 1)
    (v : Value) (n : Nat) (xs : List Value) (hs : a.eval s = v) (hown : w.ownsRow base e 1 v n xs)
    (ad : Addr) (u : Value) (hx : a.eval x = .slice (some ad) 1 1) (hu : w.cell? ad = some u) (h1 : u.oneCell' = true)
    (h63 : n + 1 ≤ maxLen) (hbytes : (n + 1) * bytes ≤ 140737488355328) (hbase : base ≤ w.heap.size)
    (h : ∀ v' w', w'.ownsRow base e 1 v' (n + 1) (xs ++ [u]) → w.grownBy w' v.ownBlock → (v'.ownBlock = v.ownBlock ∨ v'.ownBlock = some w.heap.size) → K (a.put o.dst v') w') :
    if Region.wanted o (yielded ops a.tmps) = true then Oper.wp P o a w K Q else E := by
  have hw : Region.wanted o (yielded ops a.tmps) = true := by simp [Region.wanted, hgd]
  rw [if_pos hw]
  obtain ⟨v', w', hr, h2, h3, h4, h5⟩ := run_append_own_at (P := P) w base t o.type e i z 1 bytes ht hi hz hsize hby hzs (by decide) v n xs hown ad 1 1 [u] rfl (fun j c hj => by
    match j, hj with
    | 0, hj => simp at hj; subst hj; simpa [Addr.add] using hu) (fun c hc => by rw [List.mem_singleton.1 hc]; exact h1) h63 hbytes hbase
  unfold Oper.wp execOp
  simp only [ho, resolve, invoke, builtin, Sem.run_bind, Sem.run_pure, Result.andThen_ok, List.map_toArray, List.map_cons, List.map_nil, hs, hx, hr]
  exact h v' w' h2 h3 h5
theorem own_rowsE {α : Type} {f : α → Value} {hf : ∀ x, (f x).oneCell' = true} {w : World} {base : Nat} {e : TypeId} {v : Value} {l : List α} (h : w.ownsRow base e 1 v l.length (l.map f)) (hl : l.length ≤ 9223372036854775807) :
    ∃ A c, v = .slice A l.length c ∧ l.length ≤ c ∧ (Kn.enc f hf).Rows w A l := by
  rcases h.2 with ⟨rfl, hn⟩ | ⟨g, cap, cur, rfl, hb, hgg, hc, _⟩
  · refine ⟨none, 0, by rw [hn], by omega, hl, fun h => absurd h (by omega)⟩
  · refine ⟨some ⟨g, 0, none⟩, cap, rfl, hc, hl, fun _ => ⟨_, rfl, (Array.getElem?_eq_some_iff.1 hgg).1, fun j x hj => ⟨[f x], rfl, fun i u hu => ?_⟩⟩⟩
    match i, hu with
    | 0, hu =>
      simp at hu
      subst hu
      refine h.cells rfl _ _ ?_
      show (l.map f)[j * 1 + 0]? = _
      simp [hj]
/-- The history's block and its three rows. -/
structure HistAt (W : World) (g base : Nat) (h : HS) (v0 v1 v2 : Value) : Prop where
  blk : Whole W g 35 #[v0, v1, v2]
  r0 : W.ownsRow base 3 1 v0 h.pl.length (h.pl.map (Value.int .i64))
  r1 : W.ownsRow base 3 1 v1 h.al.length (h.al.map (Value.int .i64))
  r2 : W.ownsRow base 9 1 v2 h.vl.length (h.vl.map Value.string)
  ne : v0.ownBlock = none ∨ v0.ownBlock ≠ v1.ownBlock
  lt : g < base
  bs : base ≤ W.heap.size
/-- What a call on the history keeps: all that is older, and every block of another kind. -/
structure KeptH (base g : Nat) (W W' : World) : Prop where
  os : W'.os = W.os
  tape : W'.tape = W.tape
  output : W'.output = W.output
  size : W.heap.size ≤ W'.heap.size
  old : ∀ k, k < base → k < W.heap.size → k ≠ g → W'.heap[k]? = W.heap[k]?
  whole : ∀ k T cs, k ≠ g → T ≠ 3 → T ≠ 9 → Whole W k T cs → Whole W' k T cs
theorem KeptH.trans {base g : Nat} {W W1 W2 : World} (h : KeptH base g W W1) (k : KeptH base g W1 W2) : KeptH base g W W2 :=
  ⟨k.os.trans h.os, k.tape.trans h.tape, k.output.trans h.output, Nat.le_trans h.size k.size, fun i hi hw hg => (k.old i hi (Nat.lt_of_lt_of_le hw h.size) hg).trans (h.old i hi hw hg), fun i T cs hg h1 h2 hw => k.whole i T cs hg h1 h2 (h.whole i T cs hg h1 h2 hw)⟩
theorem own_kind_ne {w : World} {base : Nat} {e : TypeId} {v : Value} {n : Nat} {xs : List Value} (h : w.ownsRow base e 1 v n xs) {k : Nat} {T : TypeId} {cs : Array Value} (hk : Whole w k T cs) (hne : T ≠ e) : some k ≠ v.ownBlock := by
  intro he
  rcases h.2 with ⟨rfl, _⟩ | ⟨g, cap, cur, rfl, hb, hgg, _⟩
  · simp [Value.ownBlock] at he
  · simp only [Value.ownBlock, Option.some.injEq] at he
    subst he
    unfold Whole at hk
    rw [hgg] at hk
    simp only [Option.some.injEq, Obj.cells.injEq] at hk
    exact hne hk.2.1.symm
theorem KeptH.grow {base g : Nat} {w w' : World} {e : TypeId} {v : Value} {n : Nat} {xs : List Value} (h : w.ownsRow base e 1 v n xs) (he : e = 3 ∨ e = 9) (hg : w.grownBy w' v.ownBlock) : KeptH base g w w' :=
  ⟨hg.os, hg.tape, hg.output, hg.size, fun k hk hw _ => hg.block k hw (fun q => by have := (h.lt k q.symm).1; omega), fun k T cs _ h1 h2 hw => (hg.block k hw.lt (own_kind_ne h hw (by rcases he with rfl | rfl <;> assumption))).trans hw⟩
theorem KeptH.put {base g : Nat} (w : World) (i : Nat) (u : Value) : KeptH base g w (w.setCell ⟨g, i, none⟩ u) :=
  ⟨rfl, rfl, rfl, by simp, fun k _ _ hk => Below.heap_setCell w ⟨g, i, none⟩ u k hk, fun k T cs hk _ _ hw => (Below.heap_setCell w ⟨g, i, none⟩ u k hk).trans hw⟩
theorem KeptH.alloc {base g : Nat} (w : World) (o : Obj) : KeptH base g w (w.alloc o) :=
  ⟨rfl, rfl, rfl, by simp, fun k _ hw _ => Below.heap_alloc w o k hw, fun k T cs _ _ _ hw => hw.alloc o⟩
theorem KeptH.drew {base g : Nat} (w : World) : KeptH base g w w.drew := ⟨rfl, rfl, rfl, Nat.le_refl _, fun k _ _ _ => rfl, fun k T cs _ _ _ hw => hw⟩
theorem own_put {w : World} {base g : Nat} {e : TypeId} {v : Value} {n : Nat} {xs : List Value} (h : w.ownsRow base e 1 v n xs) (hg : g < base) (i : Nat) (u : Value) : (w.setCell ⟨g, i, none⟩ u).ownsRow base e 1 v n xs := by
  refine ⟨h.1, ?_⟩
  rcases h.2 with hn | ⟨g', cap, cur, rfl, hb, hgg, rest⟩
  · exact .inl hn
  · exact .inr ⟨g', cap, cur, rfl, hb, (Below.heap_setCell w ⟨g, i, none⟩ u g' (show g' ≠ g by omega)).trans hgg, rest⟩
/-- The first row grown, and put back. -/
theorem hist_put0 {w w' : World} {g base : Nat} {h : HS} {v0 v1 v2 v0' : Value} {n : Int} (H : HistAt w g base h v0 v1 v2) (ho : w'.ownsRow base 3 1 v0' (h.pl.length + 1) (h.pl.map (Value.int .i64) ++ [.int .i64 n])) (hg : w.grownBy w' v0.ownBlock)
    (hv : v0'.ownBlock = v0.ownBlock ∨ v0'.ownBlock = some w.heap.size) : HistAt (w'.setCell ⟨g, 0, none⟩ v0') g base ⟨h.pl ++ [n], h.al, h.vl⟩ v0' v1 v2 ∧ KeptH base g w (w'.setCell ⟨g, 0, none⟩ v0') := by
  have hgb : some g ≠ v0.ownBlock := fun q => by have := (H.r0.lt g q.symm).1; have := H.lt; omega
  have n1 : v1.ownBlock = none ∨ v1.ownBlock ≠ v0.ownBlock := by
    rcases H.ne with h1 | h1
    · cases h2 : v1.ownBlock
      · exact .inl rfl
      · exact .inr (by rw [h1]; simp)
    · exact .inr (fun q => h1 q.symm)
  have n2 : v2.ownBlock = none ∨ v2.ownBlock ≠ v0.ownBlock := by
    cases h2 : v2.ownBlock with
    | none => exact .inl rfl
    | some k =>
      refine .inr (fun q => ?_)
      rcases H.r2.2 with ⟨hh, _⟩ | ⟨g', cap, cur, hh, hb, hgg, _⟩
      · rw [hh] at h2; cases h2
      · have hk : Whole w g' 9 cur := hgg
        have := own_kind_ne H.r0 hk (by decide)
        rw [hh] at h2
        exact this (show some g' = v0.ownBlock from Eq.trans h2 q)
  refine ⟨⟨(H.blk.only hg hgb).put' 0 _ rfl, ?_, own_put (H.r1.kept hg n1) H.lt _ _, own_put (H.r2.kept hg n2) H.lt _ _, ?_, H.lt, ?_⟩, (KeptH.grow H.r0 (.inl rfl) hg).trans (KeptH.put _ _ _)⟩
  · have := own_put ho H.lt 0 v0'
    simpa using this
  · rcases hv with h1 | h1
    · rcases H.ne with h2 | h2
      · exact .inl (h1.trans h2)
      · exact .inr (fun q => h2 (h1.symm.trans q))
    · refine .inr (fun q => ?_)
      have := (H.r1.lt w.heap.size (q.symm.trans h1)).2
      omega
  · have := hg.size
    have := H.bs
    go_size
theorem own_ne {w : World} {base : Nat} {e e' : TypeId} {v v' : Value} {n n' : Nat} {xs xs' : List Value} (h : w.ownsRow base e 1 v n xs) (h' : w.ownsRow base e' 1 v' n' xs') (hne : e' ≠ e) : v'.ownBlock = none ∨ v'.ownBlock ≠ v.ownBlock := by
  cases h2 : v'.ownBlock with
  | none => exact .inl rfl
  | some k =>
    refine .inr (fun q => ?_)
    rcases h'.2 with ⟨hh, _⟩ | ⟨g', cap, cur, hh, hb, hgg, _⟩
    · rw [hh] at h2; cases h2
    · have hk : Whole w g' e' cur := hgg
      have := own_kind_ne h hk hne
      rw [hh] at h2
      exact this (show some g' = v.ownBlock from Eq.trans h2 q)
/-- The second row grown, and put back. -/
theorem hist_put1 {w w' : World} {g base : Nat} {h : HS} {v0 v1 v2 v1' : Value} {n : Int} (H : HistAt w g base h v0 v1 v2) (ho : w'.ownsRow base 3 1 v1' (h.al.length + 1) (h.al.map (Value.int .i64) ++ [.int .i64 n])) (hg : w.grownBy w' v1.ownBlock)
    (hv : v1'.ownBlock = v1.ownBlock ∨ v1'.ownBlock = some w.heap.size) : HistAt (w'.setCell ⟨g, 1, none⟩ v1') g base ⟨h.pl, h.al ++ [n], h.vl⟩ v0 v1' v2 ∧ KeptH base g w (w'.setCell ⟨g, 1, none⟩ v1') := by
  have hgb : some g ≠ v1.ownBlock := fun q => by have := (H.r1.lt g q.symm).1; have := H.lt; omega
  refine ⟨⟨(H.blk.only hg hgb).put' 1 _ rfl, own_put (H.r0.kept hg H.ne) H.lt _ _, ?_, own_put (H.r2.kept hg (own_ne H.r1 H.r2 (by decide))) H.lt _ _, ?_, H.lt, ?_⟩, (KeptH.grow H.r1 (.inl rfl) hg).trans (KeptH.put _ _ _)⟩
  · have := own_put ho H.lt 1 v1'
    simpa using this
  · rcases H.ne with h2 | h2
    · exact .inl h2
    · rcases hv with h1 | h1
      · exact .inr (fun q => h2 (q.trans h1))
      · refine .inr (fun q => ?_)
        have := (H.r0.lt w.heap.size (q.trans h1)).2
        omega
  · have := hg.size
    have := H.bs
    go_size
/-- The third row grown, and put back. -/
theorem hist_put2 {w w' : World} {g base : Nat} {h : HS} {v0 v1 v2 v2' : Value} {u : ByteArray} (H : HistAt w g base h v0 v1 v2) (ho : w'.ownsRow base 9 1 v2' (h.vl.length + 1) (h.vl.map Value.string ++ [.string u])) (hg : w.grownBy w' v2.ownBlock) :
    HistAt (w'.setCell ⟨g, 2, none⟩ v2') g base ⟨h.pl, h.al, h.vl ++ [u]⟩ v0 v1 v2' ∧ KeptH base g w (w'.setCell ⟨g, 2, none⟩ v2') := by
  have hgb : some g ≠ v2.ownBlock := fun q => by have := (H.r2.lt g q.symm).1; have := H.lt; omega
  refine ⟨⟨(H.blk.only hg hgb).put' 2 _ rfl, own_put (H.r0.kept hg (own_ne H.r2 H.r0 (by decide))) H.lt _ _, own_put (H.r1.kept hg (own_ne H.r2 H.r1 (by decide))) H.lt _ _, ?_, H.ne, H.lt, ?_⟩, (KeptH.grow H.r2 (.inr rfl) hg).trans (KeptH.put _ _ _)⟩
  · have := own_put ho H.lt 2 v2'
    simpa using this
  · have := hg.size
    have := H.bs
    go_size
/-- What a call that is granted leaves. -/
def DoneAt (W W' : World) (g base : Nat) (h : HS) : Prop := ∃ v0 v1 v2, HistAt W' g base h v0 v1 v2 ∧ KeptH base g W W'
theorem int_info : ∃ i z, (Try.prog.info? 3) = some i ∧ i.zero = some z ∧ i.size = 1 ∧ i.bytes = 8 ∧ z.cells.size = 1 := by
  obtain ⟨i, hi, hz, h1, h2⟩ := info_parts (P := Try.prog) (e := 3) (z := .int .i64 0) (size := 1) (bytes := 8) (by kernel_rfl)
  exact ⟨i, _, hi, hz, h1, h2, rfl⟩
set_option maxHeartbeats 400000 in
set_option maxRecDepth 100000 in
theorem do_not (a : Bool) (n : Int) (v : ByteArray) (W : World) (g base : Nat) (h : HS) (v0 v1 v2 : Value) (hH : HistAt W g base h v0 v1 v2)
    (hn : h.pl.length ≤ 1099511627776) (hc : n < 1 ∨ 2147483647 < n ∨ n < most h.pl ∨ (n = most h.pl ∧ a = false)) :
    Calls Try.prog 19 #[.pointer (some ⟨g, 0, none⟩), .agg #[.bool a, .int .i64 n, .string v]] W fun e w' => e = .returned (.bool false) ∧ DoneAt W w' g base h := by
  obtain ⟨hb, h0, h1, h2, hne, hlt, hbs⟩ := hH
  obtain ⟨A0, c0, rfl, hc0, hr0⟩ : ∃ A c, v0 = .slice A h.pl.length c ∧ h.pl.length ≤ c ∧ (Kn.int .i64).Rows W A h.pl := own_rowsE h0 (by omega)
  have D : DoneAt W (W.alloc (.cells #[.bool a, .int .i64 n, .string v] 37)) g base h := ⟨_, _, _, ⟨hb.alloc _, h0.alloc _, h1.alloc _, h2.alloc _, hne, hlt, by go_size⟩, KeptH.alloc W _⟩
  have hb' := hb.alloc (.cells #[.bool a, .int .i64 n, .string v] 37)
  have ho := Whole.new W 37 #[.bool a, .int .i64 n, .string v]
  have hr1 := hr0.below (w1 := W.alloc (.cells #[.bool a, .int .i64 n, .string v] 37)) (by go_grown)
  have hM := most_calls A0 h.pl c0 (W.alloc (.cells #[.bool a, .int .i64 n, .string v] 37)) hr1
  generalize most h.pl = m at *
  have k0 : (W.alloc (.cells #[.bool a, .int .i64 n, .string v] 37)).cell? ⟨g, 0, none⟩ = some (.slice A0 h.pl.length c0) := hb'.cell 0
  have hgo : g < W.heap.size := hb.lt
  replace hM := Lib.hid hM
  replace D := Lib.hid D
  have hcc : n < 1 ∨ (1 ≤ n ∧ 2147483647 < n) ∨ (1 ≤ n ∧ n ≤ 2147483647 ∧ n < m) ∨ (1 ≤ n ∧ n ≤ 2147483647 ∧ n = m ∧ a = false) := by
    rcases hc with h | h | h | h
    · omega
    · omega
    · omega
    · obtain ⟨h, rfl⟩ := h
      by_cases q : n < 1
      · exact .inl q
      · by_cases q' : 2147483647 < n
        · exact .inr (.inl ⟨by omega, q'⟩)
        · exact .inr (.inr (.inr ⟨by omega, by omega, h, rfl⟩))
  clear hc
  rcases hcc with q | ⟨q, q'⟩ | ⟨q, q', q''⟩ | ⟨q, q', rfl, rfl⟩
  all_goals go_enter Try.func19, Try.ntmps19
  all_goals go_wp2_with (go_at_call 43; refine hM.out.mono ?_; rintro e w1 ⟨rfl, rfl⟩)
  all_goals go_returns
  all_goals exact ⟨rfl, D.out⟩
set_option maxHeartbeats 400000 in
set_option maxRecDepth 100000 in
theorem do_yes (a : Bool) (n : Int) (v : ByteArray) (W : World) (g base : Nat) (h : HS) (v0 v1 v2 : Value) (hH : HistAt W g base h v0 v1 v2)
    (hn : h.pl.length ≤ 1099511627776) (hn1 : h.al.length ≤ 1099511627776) (hn2 : h.vl.length ≤ 1099511627776) (hc : ¬ (n < 1 ∨ 2147483647 < n ∨ n < most h.pl ∨ (n = most h.pl ∧ a = false))) :
    Calls Try.prog 19 #[.pointer (some ⟨g, 0, none⟩), .agg #[.bool a, .int .i64 n, .string v]] W fun e w' => e = .returned (.bool true) ∧ DoneAt W w' g base ⟨h.pl ++ [n], if a then h.al ++ [n] else h.al, if a then h.vl ++ [v] else h.vl⟩ := by
  obtain ⟨hb, h0, h1, h2, hne, hlt, hbs⟩ := hH
  have M := most_calls
  have q0 : (1 ≤ n) := by omega
  have q1 : (n ≤ 2147483647) := by omega
  have q2 : most h.pl ≤ n := by omega
  have q3 : n = most h.pl → a = true := fun e => by cases a <;> simp_all
  obtain ⟨A0, c0, rfl, hc0, hr0⟩ : ∃ A c, v0 = .slice A h.pl.length c ∧ h.pl.length ≤ c ∧ (Kn.int .i64).Rows W A h.pl := own_rowsE h0 (by omega)
  have hb' := hb.alloc (.cells #[.bool a, .int .i64 n, .string v] 37)
  have ho := Whole.new W 37 #[.bool a, .int .i64 n, .string v]
  have hr1 := hr0.below (w1 := W.alloc (.cells #[.bool a, .int .i64 n, .string v] 37)) (by go_grown)
  have hM := most_calls A0 h.pl c0 (W.alloc (.cells #[.bool a, .int .i64 n, .string v] 37)) hr1
  generalize most h.pl = m at *
  replace hM := Lib.hid hM
  replace q3 := Lib.hid q3
  have k0 : (W.alloc (.cells #[.bool a, .int .i64 n, .string v] 37)).cell? ⟨g, 0, none⟩ = some (.slice A0 h.pl.length c0) := hb'.cell 0
  have k1 : (W.alloc (.cells #[.bool a, .int .i64 n, .string v] 37)).cell? ⟨g, 1, none⟩ = some v1 := hb'.cell 1
  have k2 : (W.alloc (.cells #[.bool a, .int .i64 n, .string v] 37)).cell? ⟨g, 2, none⟩ = some v2 := hb'.cell 2
  clear M hc
  go_enter Try.func19, Try.ntmps19
  go_upto_region 2 with (go_at_call 43; refine hM.out.mono ?_; rintro e w1 ⟨rfl, rfl⟩)
  have hb1 := hb'
  replace h0 := h0.alloc (.cells #[.bool a, .int .i64 n, .string v] 37)
  replace h1 := h1.alloc (.cells #[.bool a, .int .i64 n, .string v] 37)
  replace h2 := h2.alloc (.cells #[.bool a, .int .i64 n, .string v] 37)
  have hgo : g < W.heap.size := hb.lt
  generalize hW1 : W.alloc (.cells #[.bool a, .int .i64 n, .string v] 37) = W1 at *
  have o0 : W1.cell? ⟨W.heap.size, 0, none⟩ = some (.bool a) := ho.cell 0
  have o1 : W1.cell? ⟨W.heap.size, 1, none⟩ = some (.int .i64 n) := ho.cell 1
  have o2 : W1.cell? ⟨W.heap.size, 2, none⟩ = some (.string v) := ho.cell 2
  have f0 : W1.frozen? ⟨g, 0, none⟩ = false := hb1.frozen 0
  replace hW1 := Lib.hid hW1
  go_cut [35] (fun p wc => p = .bool false ∧ wc = W1)
  case first =>
    cases a
    · have q4 : m < n := by
        have hq := q3.out
        by_cases e : n = m
        · exact absurd (hq e) (by decide)
        · omega
      go_wp2
      go_meet
      exact ⟨congrArg Value.bool (by simp; omega), rfl⟩
    · by_cases e : n = m
      · subst e
        go_wp2
        go_meet
        exact ⟨congrArg Value.bool (by simp; try omega), rfl⟩
      · have q4 : m < n := by omega
        go_wp2
        go_meet
        exact ⟨congrArg Value.bool (by simp; try omega), rfl⟩
  case rest =>
    obtain ⟨rfl, h9⟩ := hcut
    have h10 := h9.symm
    subst h10
    obtain ⟨ii, iz, j1, j2, j3, j4, j5⟩ := int_info
    have hne0 : ∀ q, (Value.slice A0 h.pl.length c0).ownBlock = some q → base ≤ q := fun q e => (h0.lt q e).1
    have hbs1 : W.heap.size ≤ W1.heap.size := by
      have := ho.lt
      omega
    have b1 : (W1.alloc (.cells #[.int .i64 n] 3)).drew.cell? ⟨W1.heap.size, 0, none⟩ = some (.int .i64 n) := (Whole.new W1 3 #[.int .i64 n]).cell 0
    have b4 : base ≤ (W1.alloc (.cells #[.int .i64 n] 3)).drew.heap.size := by go_size
    have b5 : h.pl.length + 1 ≤ maxLen := by unfold maxLen; omega
    have b6 : (h.pl.length + 1) * 8 ≤ 140737488355328 := by omega
    have b7 : Whole (W1.alloc (.cells #[.int .i64 n] 3)).drew g 35 #[.slice A0 h.pl.length c0, v1, v2] := hb1.alloc _
    have b11 : (W1.alloc (.cells #[.int .i64 n] 3)).cell? ⟨g, 0, none⟩ = some (.slice A0 h.pl.length c0) := cell_alloc k0 _
    have HH : HistAt (W1.alloc (.cells #[.int .i64 n] 3)).drew g base h (.slice A0 h.pl.length c0) v1 v2 := ⟨b7, h0.alloc _, h1.alloc _, h2.alloc _, hne, hlt, b4⟩
    replace HH := Lib.hid HH
    go_upto_region 4 with (fail)
    go_cut [] (fun wd => ∃ v0', HistAt wd g base ⟨h.pl ++ [n], h.al, h.vl⟩ v0' v1 v2 ∧ KeptH base g W1 wd)
    case first =>
      go_region_law (first | (refine step_own _ rfl (.tmp 40) (.tmp 43) 32 rfl base 3 ii iz 8 Try.underlying32 j1 j2 j3 j4 j5 _ _ _ rfl (h0.alloc (.cells #[.int .i64 n] 3)) _ (.int .i64 n) rfl b1 rfl b5 b6 b4 ?_; intro v' w' ho' hg' hv'; obtain ⟨g', cap', rfl, hg1, hg2⟩ := ho'.form (Nat.succ_pos _); have b8 := Whole.only b7 hg' (fun q => Nat.lt_irrefl _ (Nat.lt_of_lt_of_le hlt (hne0 _ q.symm))); have b9 : w'.cell? ⟨g, 0, none⟩ = some (.slice A0 h.pl.length c0) := b8.cell 0; have b10 : w'.frozen? ⟨g, 0, none⟩ = false := b8.frozen 0))
      all_goals (go_wp2_with (fail); go_meet)
      all_goals (exact ⟨_, (hist_put0 HH.out ho' hg' hv').1, (KeptH.alloc W1 _).trans ((KeptH.drew _).trans (hist_put0 HH.out ho' hg' hv').2)⟩)
    case rest =>
      obtain ⟨v0', H1, K1⟩ := hcut
      have ho2 := K1.whole _ _ _ (Nat.ne_of_gt hgo) (by decide) (by decide) ho
      have K2 : KeptH base g W wc := by
        have := KeptH.alloc (base := base) (g := g) W (.cells #[.bool a, .int .i64 n, .string v] 37)
        rw [hW1.out] at this
        exact this.trans K1
      clear HH b1 b4 b5 b6 b7 b11 k0 k1 k2 o0 o1 o2 f0 h0 h1 h2 hb1 hb' hr1 hr0 hM hb ho K1 hW1
      have o0 : wc.cell? ⟨W.heap.size, 0, none⟩ = some (.bool a) := ho2.cell 0
      have o1 : wc.cell? ⟨W.heap.size, 1, none⟩ = some (.int .i64 n) := ho2.cell 1
      have o2 : wc.cell? ⟨W.heap.size, 2, none⟩ = some (.string v) := ho2.cell 2
      cases a
      · replace H1 := Lib.hid H1
        replace K2 := Lib.hid K2
        go_wp2
        go_returns
        exact ⟨rfl, _, _, _, H1.out, K2.out⟩
      · obtain ⟨hb6, r0, r1, r2, hne6, _, hbs6⟩ := H1
        simp only at r0 r1 r2
        obtain ⟨A1, c1, rfl, hc1, hr1⟩ := own_rowsE (f := Value.int .i64) (hf := fun _ => rfl) r1 (by omega)
        have b1 : (wc.alloc (.cells #[.int .i64 n] 3)).drew.cell? ⟨wc.heap.size, 0, none⟩ = some (.int .i64 n) := (Whole.new wc 3 #[.int .i64 n]).cell 0
        have b4 : base ≤ (wc.alloc (.cells #[.int .i64 n] 3)).drew.heap.size := by go_size
        have b5 : h.al.length + 1 ≤ maxLen := by unfold maxLen; omega
        have b6 : (h.al.length + 1) * 8 ≤ 140737488355328 := by omega
        have b7 : Whole (wc.alloc (.cells #[.int .i64 n] 3)).drew g 35 #[v0', .slice A1 h.al.length c1, v2] := hb6.alloc _
        have k0 : wc.cell? ⟨g, 1, none⟩ = some (.slice A1 h.al.length c1) := hb6.cell 1
        have b11 : (wc.alloc (.cells #[.int .i64 n] 3)).cell? ⟨g, 1, none⟩ = some (.slice A1 h.al.length c1) := cell_alloc k0 _
        have hneo : ∀ q, (Value.slice A1 h.al.length c1).ownBlock = some q → base ≤ q := fun q e => (r1.lt q e).1
        have HH : HistAt (wc.alloc (.cells #[.int .i64 n] 3)).drew g base ⟨h.pl ++ [n], h.al, h.vl⟩ v0' (.slice A1 h.al.length c1) v2 := ⟨b7, r0.alloc _, r1.alloc _, r2.alloc _, hne6, hlt, b4⟩
        replace HH := Lib.hid HH
        replace K2 := Lib.hid K2
        go_upto_region 6 with (fail)
        go_cut [] (fun wd => ∃ v1', HistAt wd g base ⟨h.pl ++ [n], h.al ++ [n], h.vl⟩ v0' v1' v2 ∧ KeptH base g wc wd)
        case first =>
          go_region_law (first | (refine step_own _ rfl (.tmp 53) (.tmp 56) 32 rfl base 3 ii iz 8 Try.underlying32 j1 j2 j3 j4 j5 _ _ _ rfl (r1.alloc (.cells #[.int .i64 n] 3)) _ (.int .i64 n) rfl b1 rfl b5 b6 b4 ?_; intro v' w' ho' hg' hv'; obtain ⟨g', cap', rfl, hg1, hg2⟩ := ho'.form (Nat.succ_pos _); have b8 := Whole.only b7 hg' (fun q => Nat.lt_irrefl _ (Nat.lt_of_lt_of_le hlt (hneo _ q.symm))); have b9 : w'.cell? ⟨g, 1, none⟩ = some (.slice A1 h.al.length c1) := b8.cell 1; have b10 : w'.frozen? ⟨g, 1, none⟩ = false := b8.frozen 1))
          all_goals (go_wp2_with (fail); go_meet)
          all_goals (exact ⟨_, (hist_put1 HH.out ho' hg' hv').1, (KeptH.alloc wc _).trans ((KeptH.drew _).trans (hist_put1 HH.out ho' hg' hv').2)⟩)
        case rest =>
          obtain ⟨v1', H3, K3⟩ := hcut
          have ho3 := K3.whole _ _ _ (Nat.ne_of_gt hgo) (by decide) (by decide) ho2
          have K4 := K2.out.trans K3
          clear HH b1 b4 b5 b6 b7 b11 k0 o0 o1 o2 r0 r1 r2 hb6 hr1 ho2 K3 K2 hneo hne6 hbs6
          have o2 : wc.cell? ⟨W.heap.size, 2, none⟩ = some (.string v) := ho3.cell 2
          obtain ⟨hb6, r0, r1, r2, hne6, _, hbs6⟩ := H3
          simp only at r0 r1 r2
          obtain ⟨A2, c2, rfl, hc2, hr2⟩ := own_rowsE (f := Value.string) (hf := fun _ => rfl) r2 (by omega)
          obtain ⟨si, sz, i1, i2, i3, i4, i5⟩ := str_info
          have b1 : (wc.alloc (.cells #[.string v] 9)).drew.cell? ⟨wc.heap.size, 0, none⟩ = some (.string v) := (Whole.new wc 9 #[.string v]).cell 0
          have b4 : base ≤ (wc.alloc (.cells #[.string v] 9)).drew.heap.size := by go_size
          have b5 : h.vl.length + 1 ≤ maxLen := by unfold maxLen; omega
          have b6 : (h.vl.length + 1) * 16 ≤ 140737488355328 := by omega
          have b7 : Whole (wc.alloc (.cells #[.string v] 9)).drew g 35 #[v0', v1', .slice A2 h.vl.length c2] := hb6.alloc _
          have k0 : wc.cell? ⟨g, 2, none⟩ = some (.slice A2 h.vl.length c2) := hb6.cell 2
          have b11 : (wc.alloc (.cells #[.string v] 9)).cell? ⟨g, 2, none⟩ = some (.slice A2 h.vl.length c2) := cell_alloc k0 _
          have hneo : ∀ q, (Value.slice A2 h.vl.length c2).ownBlock = some q → base ≤ q := fun q e => (r2.lt q e).1
          have HH : HistAt (wc.alloc (.cells #[.string v] 9)).drew g base ⟨h.pl ++ [n], h.al ++ [n], h.vl⟩ v0' v1' (.slice A2 h.vl.length c2) := ⟨b7, r0.alloc _, r1.alloc _, r2.alloc _, hne6, hlt, b4⟩
          replace HH := Lib.hid HH
          replace K4 := Lib.hid K4
          go_upto_region 7 with (fail)
          go_cut [] (fun wd => ∃ v2', HistAt wd g base ⟨h.pl ++ [n], h.al ++ [n], h.vl ++ [v]⟩ v0' v1' v2' ∧ KeptH base g wc wd)
          case first =>
            go_region_law (first | (refine step_own _ rfl (.tmp 64) (.tmp 67) 33 rfl base 9 si sz 16 Try.underlying33 i1 i2 i3 i4 i5 _ _ _ rfl (r2.alloc (.cells #[.string v] 9)) _ (.string v) rfl b1 rfl b5 b6 b4 ?_; intro v' w' ho' hg' hv'; obtain ⟨g', cap', rfl, hg1, hg2⟩ := ho'.form (Nat.succ_pos _); have b8 := Whole.only b7 hg' (fun q => Nat.lt_irrefl _ (Nat.lt_of_lt_of_le hlt (hneo _ q.symm))); have b9 : w'.cell? ⟨g, 2, none⟩ = some (.slice A2 h.vl.length c2) := b8.cell 2; have b10 : w'.frozen? ⟨g, 2, none⟩ = false := b8.frozen 2))
            all_goals (go_wp2_with (fail); go_meet)
            all_goals (exact ⟨_, (hist_put2 HH.out ho' hg').1, (KeptH.alloc wc _).trans ((KeptH.drew _).trans (hist_put2 HH.out ho' hg').2)⟩)
          case rest =>
            obtain ⟨v2', H5, K5⟩ := hcut
            have K6 := K4.out.trans K5
            replace H5 := Lib.hid H5
            replace K6 := Lib.hid K6
            clear K5 HH b1 b4 b5 b6 b7 b11 k0 o2 r0 r1 r2 hb6
            go_wp2
            go_returns
            exact ⟨rfl, _, _, _, H5.out, K6.out⟩
end Go.Proofs.Ytdohmkanpdhmaaa
