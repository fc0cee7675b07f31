/- State.Apply: what is taken. Conditions: at most 2^40 heads. -/
import Derived.Test.YtknjbkbbhgjnlaaState3
namespace Go.Proofs.Ytknjbkbbhgjnlaa
open Go.RowKit
set_option linter.unusedVariables false
set_option linter.unusedSimpArgs false
/-- What a call leaves that takes a request. -/
def TakenAt (w w' : World) (e : Ending) (s : ST) (hv : Value) (x : Array Value) : Prop := ∃ rv, e = .returned (.tuple #[.agg (s.A rv hv), .agg x]) ∧ RowAt w' rv s.l ∧ Below w.heap.size w w'
theorem put_cells (s : ST) (k : Nat) (hk : k < 4) (q n e i h : Int) (l : List Rq) (rv hv : Value) :
    ((s.A rv hv).toList.take (1 + k * 5) ++ [Value.int .i64 q, .int .i64 n, .int .i64 e, .int .i64 i, .int .i64 h] ++ (s.A rv hv).toList.drop (1 + k * 5 + 5)).toArray = (s.put k ⟨q, n, e, i, h⟩ l).A rv hv := by
  match k, hk with
  | 0, _ => rfl
  | 1, _ => rfl
  | 2, _ => rfl
  | 3, _ => rfl
theorem RowAt.only {W W' : World} {g3 k : Nat} {n cap : Nat} {l : List Rq} (h : RowAt W (.slice (some ⟨g3, 0, none⟩) n cap) l) (hg : W.grownBy W' (some k)) (hk : k ≠ g3) : RowAt W' (.slice (some ⟨g3, 0, none⟩) n cap) l := by
  obtain ⟨A, c, h0, h1, h2, h3⟩ := h
  refine ⟨A, c, h0, h1, h2, fun a ha => ?_⟩
  simp only [Value.slice.injEq] at h0
  obtain ⟨q, _, _⟩ := h0
  rw [ha] at q
  obtain rfl := Option.some.inj q
  obtain ⟨hlt, hc, ds, fr, h4⟩ := h3 _ ha
  exact ⟨Nat.lt_of_lt_of_le hlt hg.size, fun j u hu => hg.cell (hc j u hu) (by unfold Addr.add; split <;> simp <;> omega), ds, fr, (hg.block _ hlt (by simp; omega)).trans h4⟩
set_option maxHeartbeats 3000000 in
set_option maxRecDepth 100000 in
theorem apply_ok (w : World) (s : ST) (k : Nat) (hk : k < 4) (rs : Int) (rl rk rv2 : ByteArray) (A B : Option Addr) (n cap m hc : Nat) (hR : (⟨k, rs, rl, rk, rv2⟩ : Rq).right = true)
    (hne : ¬ rs = (s.cl k).q) (hlt : ¬ rs < (s.cl k).q) (hq : ¬ 20 ≤ (s.cl k).n) (hq0 : -9223372036854775808 ≤ (s.cl k).n) (hn : n < 64) (hln : s.l.length = n) (hrow : RowAt w (.slice A n cap) s.l) (hm : m ≤ 1099511627776) :
    Calls Try.prog 38 #[.agg (s.A (.slice A n cap) (.slice B m hc)), .agg #[.int .i64 k, .int .i64 rs, .string rl, .string rk, .string rv2]] w fun e w' => TakenAt w w' e (s.put k ⟨rs, (s.cl k).n + 1, 0, n, m + 1⟩ (s.l ++ [⟨k, rs, rl, rk, rv2⟩])) (.slice B m hc) #[.int .i64 0, .int .i64 n, .int .i64 (m + 1)] := by
  have hput := fun rv hv => put_cells s k hk rs ((s.cl k).n + 1) 0 n (m + 1) (s.l ++ [⟨k, rs, rl, rk, rv2⟩]) rv hv
  obtain ⟨s', hs'⟩ : ∃ s', s.put k ⟨rs, (s.cl k).n + 1, 0, n, m + 1⟩ (s.l ++ [⟨k, rs, rl, rk, rv2⟩]) = s' := ⟨_, rfl⟩
  have hl' : s'.l = s.l ++ [⟨k, rs, rl, rk, rv2⟩] := by
    subst hs'
    match k, hk with
    | 0, _ => rfl
    | 1, _ => rfl
    | 2, _ => rfl
    | 3, _ => rfl
  rw [hs']
  simp only [hs'] at hput
  replace hput := Lib.hid hput
  replace hl' := Lib.hid hl'
  clear hs'
  obtain ⟨l0, hl0⟩ : ∃ l0, s.l = l0 := ⟨_, rfl⟩
  rw [hl0] at hl' hln hrow
  replace hrow := Lib.hid hrow
  obtain ⟨W, hW, h0, h1, h2, h3, hB, hsz⟩ := apply_blocks w (s.A (.slice A n cap) (.slice B m hc)) #[.int .i64 k, .int .i64 rs, .string rl, .string rk, .string rv2]
  have R := right_calls k rs rl rk rv2 W
  rw [hR] at R
  obtain ⟨c, hcc⟩ : ∃ c, s.cl k = c := ⟨_, rfl⟩
  have ec := fun (W : World) (H : Whole W w.heap.size 75 (s.A (.slice A n cap) (.slice B m hc))) => cl_at H hk
  simp only [hcc] at *
  clear hcc hR
  obtain ⟨l, c0, c1, c2, c3⟩ := s
  obtain ⟨cq, cn, ce, ci, ch⟩ := c
  simp only [ST.A] at h0 hW ec
  simp only [ST.A, Rp.A]
  replace R := Lib.hid R
  replace ec := Lib.hid ec
  skip
  go_enter Try.func38, Try.ntmps38
  go_wp2_with fail
  rw [← hW]
  clear hW
  go_upto_region 4 with (first | ((with_reducible refine R.out.mono ?_); rintro e w4 ⟨rfl, hb4⟩; replace h0 := Whole.below (by first | (with_reducible exact h0) | (with_reducible exact h0.alloc _) | (with_reducible exact (h0.alloc _).alloc _) | (with_reducible exact h0.drewN _)) hb4 (by have := h0.lt; go_size); replace h1 := Whole.below (by first | (with_reducible exact h1) | (with_reducible exact h1.alloc _) | (with_reducible exact (h1.alloc _).alloc _) | (with_reducible exact h1.drewN _)) hb4 (by have := h1.lt; go_size); replace h2 := Whole.below (by first | (with_reducible exact h2) | (with_reducible exact h2.alloc _) | (with_reducible exact (h2.alloc _).alloc _) | (with_reducible exact h2.drewN _)) hb4 (by have := h2.lt; go_size); replace h3 := Whole.below (by first | (with_reducible exact h3) | (with_reducible exact h3.alloc _) | (with_reducible exact (h3.alloc _).alloc _) | (with_reducible exact h3.drewN _)) hb4 (by have := h3.lt; go_size); replace hB := below_next' (by first | (with_reducible exact hB) | (with_reducible exact hB.alloc hB.size _) | (with_reducible exact (hB.alloc hB.size _).alloc (hB.alloc hB.size _).size _) | exact below_drewN' hB _) hb4; obtain ⟨e0, e1, e2, e3, e4⟩ := ec.out w4 h0; have b0 : w4.cell? ⟨w.heap.size + 1, 0, none⟩ = some (.int .i64 k) := h1.cell 0; have hsz4 := hb4.size) | (first | ((with_reducible apply wl_loadW (ty := 63) h1 Try.underlying63); rfl; rfl; rfl; kernel_rfl) | ((with_reducible apply wl_loadW (ty := 63) (h1.alloc _) Try.underlying63); rfl; rfl; rfl; kernel_rfl) | ((with_reducible apply wl_loadW (ty := 63) ((h1.alloc _).alloc _) Try.underlying63); rfl; rfl; rfl; kernel_rfl)) | fail)
  clear e0 e1 e2 e3 e4 b0 ec R
  have h6 := Whole.new w4 71 #[.int .i64 cq, .int .i64 cn, .int .i64 ce, .int .i64 ci, .int .i64 ch]
  replace h0 := h0.alloc (.cells #[.int .i64 cq, .int .i64 cn, .int .i64 ce, .int .i64 ci, .int .i64 ch] 71)
  replace h1 := h1.alloc (.cells #[.int .i64 cq, .int .i64 cn, .int .i64 ce, .int .i64 ci, .int .i64 ch] 71)
  replace h2 := h2.alloc (.cells #[.int .i64 cq, .int .i64 cn, .int .i64 ce, .int .i64 ci, .int .i64 ch] 71)
  replace h3 := h3.alloc (.cells #[.int .i64 cq, .int .i64 cn, .int .i64 ce, .int .i64 ci, .int .i64 ch] 71)
  replace hB := hB.alloc hB.size (.cells #[.int .i64 cq, .int .i64 cn, .int .i64 ce, .int .i64 ci, .int .i64 ch] 71)
  have hsz5 : w4.heap.size < (w4.alloc (.cells #[.int .i64 cq, .int .i64 cn, .int .i64 ce, .int .i64 ci, .int .i64 ch] 71)).heap.size := by simp
  generalize w4.alloc (.cells #[.int .i64 cq, .int .i64 cn, .int .i64 ce, .int .i64 ci, .int .i64 ch] 71) = W5 at *
  have b0 : W5.cell? ⟨w.heap.size + 1, 0, none⟩ = some (.int .i64 k) := h1.cell 0
  have b1 : W5.cell? ⟨w.heap.size + 1, 1, none⟩ = some (.int .i64 rs) := h1.cell 1
  have d0 : W5.cell? ⟨w4.heap.size, 0, none⟩ = some (.int .i64 cq) := h6.cell 0
  have d1 : W5.cell? ⟨w4.heap.size, 1, none⟩ = some (.int .i64 cn) := h6.cell 1
  have q1 : (rs = cq) = False := eq_false (by omega)
  have q2 : (rs < cq) = False := eq_false (by omega)
  have q3 : ((20:Int) ≤ cn) = False := eq_false (by omega)
  have q4 : ((64:Int) ≤ (n:Int)) = False := eq_false (by omega)
  have x0 : W5.cell? ⟨w.heap.size, 0, none⟩ = some (.slice A n cap) := h0.cell 0
  have x2 : W5.cell? ⟨w.heap.size, 21, none⟩ = some (.slice B m hc) := h0.cell 21
  go_upto_region 13 with (fail)
  have h7 := Whole.new W5 69 #[.int .i64 0, .int .i64 n, .int .i64 (m + 1)]
  replace h0 := h0.alloc (.cells #[.int .i64 0, .int .i64 n, .int .i64 (m + 1)] 69)
  replace h1 := h1.alloc (.cells #[.int .i64 0, .int .i64 n, .int .i64 (m + 1)] 69)
  replace h2 := h2.alloc (.cells #[.int .i64 0, .int .i64 n, .int .i64 (m + 1)] 69)
  replace h3 := h3.alloc (.cells #[.int .i64 0, .int .i64 n, .int .i64 (m + 1)] 69)
  replace h6 := h6.alloc (.cells #[.int .i64 0, .int .i64 n, .int .i64 (m + 1)] 69)
  replace hB := hB.alloc hB.size (.cells #[.int .i64 0, .int .i64 n, .int .i64 (m + 1)] 69)
  have hsz7 : W5.heap.size < (W5.alloc (.cells #[.int .i64 0, .int .i64 n, .int .i64 (m + 1)] 69)).heap.size := by simp
  clear b0 b1 d0 d1 x0 x2
  generalize W5.alloc (.cells #[.int .i64 0, .int .i64 n, .int .i64 (m + 1)] 69) = W7 at *
  have b0 : W7.cell? ⟨w.heap.size + 1, 0, none⟩ = some (.int .i64 k) := h1.cell 0
  have b1 : W7.cell? ⟨w.heap.size + 1, 1, none⟩ = some (.int .i64 rs) := h1.cell 1
  have d1 : W7.cell? ⟨w4.heap.size, 1, none⟩ = some (.int .i64 cn) := h6.cell 1
  go_upto_region 14 with (first | (first | ((with_reducible apply wl_loadW (ty := 69) h7 Try.underlying69); rfl; rfl; rfl; kernel_rfl) | ((with_reducible apply wl_loadW (ty := 69) (h7.alloc _) Try.underlying69); rfl; rfl; rfl; kernel_rfl) | ((with_reducible apply wl_loadW (ty := 69) ((h7.alloc _).alloc _) Try.underlying69); rfl; rfl; rfl; kernel_rfl)) | ((with_reducible apply wl_storeIn (ty := 71) (s'.A (.slice A n cap) (.slice B m hc)) h0); rfl; rfl; rfl; kernel_rfl; (simp; omega); rfl; exact hput.out _ _; intro w8 h8 hg8 hz8))
  clear b0 b1 d1
  rw [put_none]
  replace h1 := h1.only hg8 (by simp only [ne_eq, Option.some.injEq]; omega)
  replace h2 := h2.only hg8 (by simp only [ne_eq, Option.some.injEq]; omega)
  replace h3 := h3.only hg8 (by simp only [ne_eq, Option.some.injEq]; omega)
  replace h7 := h7.only hg8 (by simp only [ne_eq, Option.some.injEq]; omega)
  replace hB := below_only' hB hg8 (Nat.le_refl _)
  clear hg8 h0 h6 q4
  subst hln
  go_cut [] (fun wc => ∃ g3 cap', Whole wc w.heap.size 75 (s'.A (.slice (some ⟨g3, 0, none⟩) (l0.length + 1) cap') (.slice B m hc)) ∧ W5.heap.size < g3 ∧ RowAt wc (.slice (some ⟨g3, 0, none⟩) (l0.length + 1) cap') s'.l ∧ Whole wc (w.heap.size + 1 + 1) 75 #[.slice none 0 0, .int .i64 0, .int .i64 0, .int .i64 0, .int .i64 0, .int .i64 0, .int .i64 0, .int .i64 0, .int .i64 0, .int .i64 0, .int .i64 0, .int .i64 0, .int .i64 0, .int .i64 0, .int .i64 0, .int .i64 0, .int .i64 0, .int .i64 0, .int .i64 0, .int .i64 0, .int .i64 0, .slice none 0 0] ∧ Whole wc (w.heap.size + 1 + 1 + 1) 69 #[.int .i64 0, .int .i64 0, .int .i64 0] ∧ Whole wc W5.heap.size 69 #[.int .i64 0, .int .i64 l0.length, .int .i64 (m + 1)] ∧ Below w.heap.size w wc)
  case first =>
    obtain ⟨ii, j1, j2, j3, j4⟩ := info_parts (P := Try.prog) (e := 63) (z := .agg #[.int .i64 0, .int .i64 0, .string ⟨#[]⟩, .string ⟨#[]⟩, .string ⟨#[]⟩]) (size := 5) (bytes := 64) (by kernel_rfl)
    obtain ⟨i3, m1, m2, m3, m4⟩ := info_parts (P := Try.prog) (e := 66) (z := .slice none 0 0) (size := 1) (bytes := 24) (by kernel_rfl)
    have hfa : ∀ V, (Instr.fieldAt 75 (.pointer (some ⟨w.heap.size, 0, none⟩)) 0).run Try.prog V = .ok (.pointer (some ⟨w.heap.size, 0, none⟩)) V := fun V => by go_simp
    have hnl : l0.length ≤ 1099511627776 := by omega
    have hfill : Instr.fill (fun i => some (i * (#[.int .i64 k, .int .i64 rs, .string rl, .string rk, .string rv2] : Array Value).size, (#[.int .i64 k, .int .i64 rs, .string rl, .string rk, .string rv2] : Array Value).size)) ((Array.range (1 * (#[.int .i64 k, .int .i64 rs, .string rl, .string rk, .string rv2] : Array Value).size)).map ((Value.agg #[.int .i64 0, .int .i64 0, .string ⟨#[]⟩, .string ⟨#[]⟩, .string ⟨#[]⟩]).cells[· % (Value.agg #[.int .i64 0, .int .i64 0, .string ⟨#[]⟩, .string ⟨#[]⟩, .string ⟨#[]⟩]).cells.size]!)) [(0, .agg #[.int .i64 k, .int .i64 rs, .string rl, .string rk, .string rv2])] = some #[.int .i64 k, .int .i64 rs, .string rl, .string rk, .string rv2] := by kernel_rfl
    have hpo : ∀ u ∈ (#[.int .i64 k, .int .i64 rs, .string rl, .string rk, .string rv2] : Array Value).toList, u.oneCell' = true := by
      intro u hu
      simp at hu
      rcases hu with rfl | rfl | rfl | rfl | rfl <;> rfl
    have hf1 : l0.length + 1 ≤ maxLen := by unfold maxLen; omega
    have hf2 : (l0.length + 1) * 64 ≤ 140737488355328 := by omega
    refine wp_region_any (by kernel_rfl) ?_
    change wpAny _ _ _ _ _ _ _ (World.drew _)
    replace h8 := h8.drew
    replace h1 := h1.drew
    replace h2 := h2.drew
    replace h3 := h3.drew
    replace h7 := h7.drew
    replace hB := hB.drew
    have hz9 : w8.drew.heap.size = W7.heap.size := hz8
    generalize w8.drew = V0 at *
    replace hrow := Lib.hid (hrow.out.below hB)
    refine wpAny_take (i := 0) (v := .pointer (some ⟨w.heap.size, 0, none⟩)) rfl (by kernel_rfl) (by kernel_rfl) (by kernel_rfl) (fun _ _ _ h => h) (Or.inl ⟨by rfl, fun w => by go_simp⟩) ?_
    generalize ha : Act.mk _ _ = a0
    have k2 : a0.eval (.tmp 2) = .pointer (some ⟨w.heap.size, 0, none⟩) := by subst ha; rfl
    have k3 : a0.eval (.tmp 3) = .pointer (some ⟨w.heap.size + 1, 0, none⟩) := by subst ha; rfl
    have ks : a0.tmps.size = 76 := by subst ha; rfl
    have ha0 := ha.symm
    clear ha
    refine any_two (i := 1) (j := 3) (by kernel_rfl) rfl rfl rfl rfl ?_ ?_
    · refine wp_load1 (p := ⟨w.heap.size, 0, none⟩) (v := .slice A l0.length cap) (h8.cell 0) Try.underlying66 (by simp [eval_put, size_put, put_none, k2, k3, ks]) rfl ?_
      refine any_two (i := 2) (j := 3) (by kernel_rfl) rfl rfl rfl rfl ?_ ?_
      · (refine wp_callf Try.func77 (by kernel_rfl) (by kernel_rfl) (vs := #[.slice A l0.length cap]) (by simp [eval_put, size_put, put_none, k2, k3, ks]) (clone_calls _ _ l0 hrow.out hnl) ?_; rintro e V ⟨v', rfl, ho, hb⟩; refine ⟨v', rfl, ?_⟩)
        (replace h8 := h8.below hb h8.lt; replace h1 := h1.below hb h1.lt; replace h2 := h2.below hb h2.lt; replace h3 := h3.below hb h3.lt; replace h7 := h7.below hb h7.lt; replace hB := below_next' hB hb)
        refine any_one (i := 3) (by kernel_rfl) rfl rfl ?_
        refine wp_loadW h1 Try.underlying63 (by simp [eval_put, size_put, put_none, k2, k3, ks]) rfl (by kernel_rfl) ?_
        refine any_one (i := 4) (by kernel_rfl) rfl rfl ?_
        have hsV := hb.size
        (refine wp_buildOne (part := #[.int .i64 k, .int .i64 rs, .string rl, .string rk, .string rv2]) Try.underlying66 j1 j2 j3 (by simp) (by simp) (by simp [eval_put, size_put, put_none, k2, k3, ks]) hfill ?_; have hnew := Whole.new V 63 #[.int .i64 k, .int .i64 rs, .string rl, .string rk, .string rv2]; (replace h8 := h8.alloc (.cells #[.int .i64 k, .int .i64 rs, .string rl, .string rk, .string rv2] 63); replace h1 := h1.alloc (.cells #[.int .i64 k, .int .i64 rs, .string rl, .string rk, .string rv2] 63); replace h2 := h2.alloc (.cells #[.int .i64 k, .int .i64 rs, .string rl, .string rk, .string rv2] 63); replace h3 := h3.alloc (.cells #[.int .i64 k, .int .i64 rs, .string rl, .string rk, .string rv2] 63); replace h7 := h7.alloc (.cells #[.int .i64 k, .int .i64 rs, .string rl, .string rk, .string rv2] 63); replace hB := hB.alloc hB.size (.cells #[.int .i64 k, .int .i64 rs, .string rl, .string rk, .string rv2] 63)))
        replace ho := ho.alloc (.cells #[.int .i64 k, .int .i64 rs, .string rl, .string rk, .string rv2] 63)
        have hbV : V0.heap.size ≤ (V.alloc (.cells #[.int .i64 k, .int .i64 rs, .string rl, .string rk, .string rv2] 63)).heap.size := by simp; omega
        (refine any_one (i := 5) (by kernel_rfl) rfl rfl ?_; refine wp_append_own (V.alloc (.cells #[.int .i64 k, .int .i64 rs, .string rl, .string rk, .string rv2] 63)) _ _ _ rfl V0.heap.size 63 ii _ 5 64 Try.underlying66 j1 j2 j3 j4 rfl (by decide) v' l0.length (Rq.L l0) (by simp [eval_put, size_put, put_none, k2, k3, ks]) ho ⟨V.heap.size, 0, none⟩ 1 1 (Array.toList #[.int .i64 k, .int .i64 rs, .string rl, .string rk, .string rv2]) (by simp [eval_put, size_put, put_none, k2, k3, ks]) rfl (World.news_of_block (cs := #[.int .i64 k, .int .i64 rs, .string rl, .string rk, .string rv2]) (t := 63) (fr := (0, 0)) hnew) hpo hf1 hf2 (by omega) ?_; intro v2 V2 ho2 hg2 _; replace hB := below_own hB ho (by omega) hg2; have hne2 : ∀ x, x < V0.heap.size → some x ≠ v'.ownBlock := fun x hx q => (by have := (ho.lt _ q.symm).1; omega); replace h8 := h8.only hg2 (hne2 _ (by omega)); replace h2 := h2.only hg2 (hne2 _ (by omega)); replace h3 := h3.only hg2 (hne2 _ (by omega)); replace h7 := h7.only hg2 (hne2 _ (by omega)); obtain ⟨g3, cap3, rfl, hgb3, _⟩ := ho2.form (Nat.succ_pos _); refine any_fieldAddr (i := 6) (by kernel_rfl) rfl (by simp [eval_put, size_put, put_none, k2, k3, ks]) (hfa _) ?_; refine any_store1 (j := 7) (by kernel_rfl) rfl (p := ⟨w.heap.size, 0, none⟩) (v := .slice (some ⟨g3, 0, none⟩) (l0.length + 1) cap3) (old := .slice A l0.length cap) (h8.cell 0) (h8.frozen 0) m1 m3 (by simp [eval_put, size_put, put_none, k2, k3, ks]) (by simp [eval_put, size_put, put_none, k2, k3, ks]) rfl rfl ?_; refine wpAny_done (by kernel_rfl) ?_ _; subst ha0; clear k2 k3 ks; go_wp2_with (fail); go_meet; exact ⟨_, _, h8.put' 0 _ rfl, by omega, RowAt.own (by rw [hl'.out, Rq.L_snoc, List.length_append]; exact own_far ho2 (by omega) 0 _), h2.far (show w.heap.size + 1 + 1 ≠ w.heap.size by omega) _, h3.far (show w.heap.size + 1 + 1 + 1 ≠ w.heap.size by omega) _, h7.far (show W5.heap.size ≠ w.heap.size by omega) _, hB.setCell (Nat.le_refl _) _⟩)
      · refine wp_loadW h1 Try.underlying63 (by simp [eval_put, size_put, put_none, k2, k3, ks]) rfl (by kernel_rfl) ?_
        refine any_two (i := 2) (j := 4) (by kernel_rfl) rfl rfl rfl rfl ?_ ?_
        · ((refine wp_callf Try.func77 (by kernel_rfl) (by kernel_rfl) (vs := #[.slice A l0.length cap]) (by simp [eval_put, size_put, put_none, k2, k3, ks]) (clone_calls _ _ l0 hrow.out hnl) ?_; rintro e V ⟨v', rfl, ho, hb⟩; refine ⟨v', rfl, ?_⟩); (replace h8 := h8.below hb h8.lt; replace h1 := h1.below hb h1.lt; replace h2 := h2.below hb h2.lt; replace h3 := h3.below hb h3.lt; replace h7 := h7.below hb h7.lt; replace hB := below_next' hB hb); refine any_one (i := 4) (by kernel_rfl) rfl rfl ?_; have hsV := hb.size; (refine wp_buildOne (part := #[.int .i64 k, .int .i64 rs, .string rl, .string rk, .string rv2]) Try.underlying66 j1 j2 j3 (by simp) (by simp) (by simp [eval_put, size_put, put_none, k2, k3, ks]) hfill ?_; have hnew := Whole.new V 63 #[.int .i64 k, .int .i64 rs, .string rl, .string rk, .string rv2]; (replace h8 := h8.alloc (.cells #[.int .i64 k, .int .i64 rs, .string rl, .string rk, .string rv2] 63); replace h1 := h1.alloc (.cells #[.int .i64 k, .int .i64 rs, .string rl, .string rk, .string rv2] 63); replace h2 := h2.alloc (.cells #[.int .i64 k, .int .i64 rs, .string rl, .string rk, .string rv2] 63); replace h3 := h3.alloc (.cells #[.int .i64 k, .int .i64 rs, .string rl, .string rk, .string rv2] 63); replace h7 := h7.alloc (.cells #[.int .i64 k, .int .i64 rs, .string rl, .string rk, .string rv2] 63); replace hB := hB.alloc hB.size (.cells #[.int .i64 k, .int .i64 rs, .string rl, .string rk, .string rv2] 63))); replace ho := ho.alloc (.cells #[.int .i64 k, .int .i64 rs, .string rl, .string rk, .string rv2] 63); have hbV : V0.heap.size ≤ (V.alloc (.cells #[.int .i64 k, .int .i64 rs, .string rl, .string rk, .string rv2] 63)).heap.size := by simp; omega)
          (refine any_one (i := 5) (by kernel_rfl) rfl rfl ?_; refine wp_append_own (V.alloc (.cells #[.int .i64 k, .int .i64 rs, .string rl, .string rk, .string rv2] 63)) _ _ _ rfl V0.heap.size 63 ii _ 5 64 Try.underlying66 j1 j2 j3 j4 rfl (by decide) v' l0.length (Rq.L l0) (by simp [eval_put, size_put, put_none, k2, k3, ks]) ho ⟨V.heap.size, 0, none⟩ 1 1 (Array.toList #[.int .i64 k, .int .i64 rs, .string rl, .string rk, .string rv2]) (by simp [eval_put, size_put, put_none, k2, k3, ks]) rfl (World.news_of_block (cs := #[.int .i64 k, .int .i64 rs, .string rl, .string rk, .string rv2]) (t := 63) (fr := (0, 0)) hnew) hpo hf1 hf2 (by omega) ?_; intro v2 V2 ho2 hg2 _; replace hB := below_own hB ho (by omega) hg2; have hne2 : ∀ x, x < V0.heap.size → some x ≠ v'.ownBlock := fun x hx q => (by have := (ho.lt _ q.symm).1; omega); replace h8 := h8.only hg2 (hne2 _ (by omega)); replace h2 := h2.only hg2 (hne2 _ (by omega)); replace h3 := h3.only hg2 (hne2 _ (by omega)); replace h7 := h7.only hg2 (hne2 _ (by omega)); obtain ⟨g3, cap3, rfl, hgb3, _⟩ := ho2.form (Nat.succ_pos _); refine any_fieldAddr (i := 6) (by kernel_rfl) rfl (by simp [eval_put, size_put, put_none, k2, k3, ks]) (hfa _) ?_; refine any_store1 (j := 7) (by kernel_rfl) rfl (p := ⟨w.heap.size, 0, none⟩) (v := .slice (some ⟨g3, 0, none⟩) (l0.length + 1) cap3) (old := .slice A l0.length cap) (h8.cell 0) (h8.frozen 0) m1 m3 (by simp [eval_put, size_put, put_none, k2, k3, ks]) (by simp [eval_put, size_put, put_none, k2, k3, ks]) rfl rfl ?_; refine wpAny_done (by kernel_rfl) ?_ _; subst ha0; clear k2 k3 ks; go_wp2_with (fail); go_meet; exact ⟨_, _, h8.put' 0 _ rfl, by omega, RowAt.own (by rw [hl'.out, Rq.L_snoc, List.length_append]; exact own_far ho2 (by omega) 0 _), h2.far (show w.heap.size + 1 + 1 ≠ w.heap.size by omega) _, h3.far (show w.heap.size + 1 + 1 + 1 ≠ w.heap.size by omega) _, h7.far (show W5.heap.size ≠ w.heap.size by omega) _, hB.setCell (Nat.le_refl _) _⟩)
        · (refine wp_buildOne (part := #[.int .i64 k, .int .i64 rs, .string rl, .string rk, .string rv2]) Try.underlying66 j1 j2 j3 (by simp) (by simp) (by simp [eval_put, size_put, put_none, k2, k3, ks]) hfill ?_; have hnew := Whole.new V0 63 #[.int .i64 k, .int .i64 rs, .string rl, .string rk, .string rv2]; (replace h8 := h8.alloc (.cells #[.int .i64 k, .int .i64 rs, .string rl, .string rk, .string rv2] 63); replace h1 := h1.alloc (.cells #[.int .i64 k, .int .i64 rs, .string rl, .string rk, .string rv2] 63); replace h2 := h2.alloc (.cells #[.int .i64 k, .int .i64 rs, .string rl, .string rk, .string rv2] 63); replace h3 := h3.alloc (.cells #[.int .i64 k, .int .i64 rs, .string rl, .string rk, .string rv2] 63); replace h7 := h7.alloc (.cells #[.int .i64 k, .int .i64 rs, .string rl, .string rk, .string rv2] 63); replace hB := hB.alloc hB.size (.cells #[.int .i64 k, .int .i64 rs, .string rl, .string rk, .string rv2] 63)))
          (refine any_one (i := 2) (by kernel_rfl) rfl rfl ?_; replace hrow := Lib.hid (hrow.out.below ((Below.refl V0.heap.size V0).alloc (Nat.le_refl _) (.cells #[.int .i64 k, .int .i64 rs, .string rl, .string rk, .string rv2] 63))); (refine wp_callf Try.func77 (by kernel_rfl) (by kernel_rfl) (vs := #[.slice A l0.length cap]) (by simp [eval_put, size_put, put_none, k2, k3, ks]) (clone_calls _ _ l0 hrow.out hnl) ?_; rintro e V ⟨v', rfl, ho, hb⟩; refine ⟨v', rfl, ?_⟩); (replace h8 := h8.below hb h8.lt; replace h1 := h1.below hb h1.lt; replace h2 := h2.below hb h2.lt; replace h3 := h3.below hb h3.lt; replace h7 := h7.below hb h7.lt; replace hB := below_next' hB hb); replace hnew := hnew.below hb hnew.lt; have hsV := hb.size; have hbV : (V0.alloc (.cells #[.int .i64 k, .int .i64 rs, .string rl, .string rk, .string rv2] 63)).heap.size = V0.heap.size + 1 := by simp)
          (refine any_one (i := 5) (by kernel_rfl) rfl rfl ?_; refine wp_append_own V _ _ _ rfl (V0.alloc (.cells #[.int .i64 k, .int .i64 rs, .string rl, .string rk, .string rv2] 63)).heap.size 63 ii _ 5 64 Try.underlying66 j1 j2 j3 j4 rfl (by decide) v' l0.length (Rq.L l0) (by simp [eval_put, size_put, put_none, k2, k3, ks]) ho ⟨V0.heap.size, 0, none⟩ 1 1 (Array.toList #[.int .i64 k, .int .i64 rs, .string rl, .string rk, .string rv2]) (by simp [eval_put, size_put, put_none, k2, k3, ks]) rfl (World.news_of_block (cs := #[.int .i64 k, .int .i64 rs, .string rl, .string rk, .string rv2]) (t := 63) (fr := (0, 0)) hnew) hpo hf1 hf2 (by omega) ?_; intro v2 V2 ho2 hg2 _; replace hB := below_own hB ho (by omega) hg2; have hne2 : ∀ x, x < (V0.alloc (.cells #[.int .i64 k, .int .i64 rs, .string rl, .string rk, .string rv2] 63)).heap.size → some x ≠ v'.ownBlock := fun x hx q => (by have := (ho.lt _ q.symm).1; omega); replace h8 := h8.only hg2 (hne2 _ (by omega)); replace h2 := h2.only hg2 (hne2 _ (by omega)); replace h3 := h3.only hg2 (hne2 _ (by omega)); replace h7 := h7.only hg2 (hne2 _ (by omega)); obtain ⟨g3, cap3, rfl, hgb3, _⟩ := ho2.form (Nat.succ_pos _); refine any_fieldAddr (i := 6) (by kernel_rfl) rfl (by simp [eval_put, size_put, put_none, k2, k3, ks]) (hfa _) ?_; refine any_store1 (j := 7) (by kernel_rfl) rfl (p := ⟨w.heap.size, 0, none⟩) (v := .slice (some ⟨g3, 0, none⟩) (l0.length + 1) cap3) (old := .slice A l0.length cap) (h8.cell 0) (h8.frozen 0) m1 m3 (by simp [eval_put, size_put, put_none, k2, k3, ks]) (by simp [eval_put, size_put, put_none, k2, k3, ks]) rfl rfl ?_; refine wpAny_done (by kernel_rfl) ?_ _; subst ha0; clear k2 k3 ks; go_wp2_with (fail); go_meet; exact ⟨_, _, h8.put' 0 _ rfl, by omega, RowAt.own (by rw [hl'.out, Rq.L_snoc, List.length_append]; exact own_far ho2 (by omega) 0 _), h2.far (show w.heap.size + 1 + 1 ≠ w.heap.size by omega) _, h3.far (show w.heap.size + 1 + 1 + 1 ≠ w.heap.size by omega) _, h7.far (show W5.heap.size ≠ w.heap.size by omega) _, hB.setCell (Nat.le_refl _) _⟩)
    · refine wp_loadW h1 Try.underlying63 (by simp [eval_put, size_put, put_none, k2, k3, ks]) rfl (by kernel_rfl) ?_
      refine any_two (i := 1) (j := 4) (by kernel_rfl) rfl rfl rfl rfl ?_ ?_
      · refine wp_load1 (p := ⟨w.heap.size, 0, none⟩) (v := .slice A l0.length cap) (h8.cell 0) Try.underlying66 (by simp [eval_put, size_put, put_none, k2, k3, ks]) rfl ?_
        refine any_two (i := 2) (j := 4) (by kernel_rfl) rfl rfl rfl rfl ?_ ?_
        · ((refine wp_callf Try.func77 (by kernel_rfl) (by kernel_rfl) (vs := #[.slice A l0.length cap]) (by simp [eval_put, size_put, put_none, k2, k3, ks]) (clone_calls _ _ l0 hrow.out hnl) ?_; rintro e V ⟨v', rfl, ho, hb⟩; refine ⟨v', rfl, ?_⟩); (replace h8 := h8.below hb h8.lt; replace h1 := h1.below hb h1.lt; replace h2 := h2.below hb h2.lt; replace h3 := h3.below hb h3.lt; replace h7 := h7.below hb h7.lt; replace hB := below_next' hB hb); refine any_one (i := 4) (by kernel_rfl) rfl rfl ?_; have hsV := hb.size; (refine wp_buildOne (part := #[.int .i64 k, .int .i64 rs, .string rl, .string rk, .string rv2]) Try.underlying66 j1 j2 j3 (by simp) (by simp) (by simp [eval_put, size_put, put_none, k2, k3, ks]) hfill ?_; have hnew := Whole.new V 63 #[.int .i64 k, .int .i64 rs, .string rl, .string rk, .string rv2]; (replace h8 := h8.alloc (.cells #[.int .i64 k, .int .i64 rs, .string rl, .string rk, .string rv2] 63); replace h1 := h1.alloc (.cells #[.int .i64 k, .int .i64 rs, .string rl, .string rk, .string rv2] 63); replace h2 := h2.alloc (.cells #[.int .i64 k, .int .i64 rs, .string rl, .string rk, .string rv2] 63); replace h3 := h3.alloc (.cells #[.int .i64 k, .int .i64 rs, .string rl, .string rk, .string rv2] 63); replace h7 := h7.alloc (.cells #[.int .i64 k, .int .i64 rs, .string rl, .string rk, .string rv2] 63); replace hB := hB.alloc hB.size (.cells #[.int .i64 k, .int .i64 rs, .string rl, .string rk, .string rv2] 63))); replace ho := ho.alloc (.cells #[.int .i64 k, .int .i64 rs, .string rl, .string rk, .string rv2] 63); have hbV : V0.heap.size ≤ (V.alloc (.cells #[.int .i64 k, .int .i64 rs, .string rl, .string rk, .string rv2] 63)).heap.size := by simp; omega)
          (refine any_one (i := 5) (by kernel_rfl) rfl rfl ?_; refine wp_append_own (V.alloc (.cells #[.int .i64 k, .int .i64 rs, .string rl, .string rk, .string rv2] 63)) _ _ _ rfl V0.heap.size 63 ii _ 5 64 Try.underlying66 j1 j2 j3 j4 rfl (by decide) v' l0.length (Rq.L l0) (by simp [eval_put, size_put, put_none, k2, k3, ks]) ho ⟨V.heap.size, 0, none⟩ 1 1 (Array.toList #[.int .i64 k, .int .i64 rs, .string rl, .string rk, .string rv2]) (by simp [eval_put, size_put, put_none, k2, k3, ks]) rfl (World.news_of_block (cs := #[.int .i64 k, .int .i64 rs, .string rl, .string rk, .string rv2]) (t := 63) (fr := (0, 0)) hnew) hpo hf1 hf2 (by omega) ?_; intro v2 V2 ho2 hg2 _; replace hB := below_own hB ho (by omega) hg2; have hne2 : ∀ x, x < V0.heap.size → some x ≠ v'.ownBlock := fun x hx q => (by have := (ho.lt _ q.symm).1; omega); replace h8 := h8.only hg2 (hne2 _ (by omega)); replace h2 := h2.only hg2 (hne2 _ (by omega)); replace h3 := h3.only hg2 (hne2 _ (by omega)); replace h7 := h7.only hg2 (hne2 _ (by omega)); obtain ⟨g3, cap3, rfl, hgb3, _⟩ := ho2.form (Nat.succ_pos _); refine any_fieldAddr (i := 6) (by kernel_rfl) rfl (by simp [eval_put, size_put, put_none, k2, k3, ks]) (hfa _) ?_; refine any_store1 (j := 7) (by kernel_rfl) rfl (p := ⟨w.heap.size, 0, none⟩) (v := .slice (some ⟨g3, 0, none⟩) (l0.length + 1) cap3) (old := .slice A l0.length cap) (h8.cell 0) (h8.frozen 0) m1 m3 (by simp [eval_put, size_put, put_none, k2, k3, ks]) (by simp [eval_put, size_put, put_none, k2, k3, ks]) rfl rfl ?_; refine wpAny_done (by kernel_rfl) ?_ _; subst ha0; clear k2 k3 ks; go_wp2_with (fail); go_meet; exact ⟨_, _, h8.put' 0 _ rfl, by omega, RowAt.own (by rw [hl'.out, Rq.L_snoc, List.length_append]; exact own_far ho2 (by omega) 0 _), h2.far (show w.heap.size + 1 + 1 ≠ w.heap.size by omega) _, h3.far (show w.heap.size + 1 + 1 + 1 ≠ w.heap.size by omega) _, h7.far (show W5.heap.size ≠ w.heap.size by omega) _, hB.setCell (Nat.le_refl _) _⟩)
        · (refine wp_buildOne (part := #[.int .i64 k, .int .i64 rs, .string rl, .string rk, .string rv2]) Try.underlying66 j1 j2 j3 (by simp) (by simp) (by simp [eval_put, size_put, put_none, k2, k3, ks]) hfill ?_; have hnew := Whole.new V0 63 #[.int .i64 k, .int .i64 rs, .string rl, .string rk, .string rv2]; (replace h8 := h8.alloc (.cells #[.int .i64 k, .int .i64 rs, .string rl, .string rk, .string rv2] 63); replace h1 := h1.alloc (.cells #[.int .i64 k, .int .i64 rs, .string rl, .string rk, .string rv2] 63); replace h2 := h2.alloc (.cells #[.int .i64 k, .int .i64 rs, .string rl, .string rk, .string rv2] 63); replace h3 := h3.alloc (.cells #[.int .i64 k, .int .i64 rs, .string rl, .string rk, .string rv2] 63); replace h7 := h7.alloc (.cells #[.int .i64 k, .int .i64 rs, .string rl, .string rk, .string rv2] 63); replace hB := hB.alloc hB.size (.cells #[.int .i64 k, .int .i64 rs, .string rl, .string rk, .string rv2] 63)))
          (refine any_one (i := 2) (by kernel_rfl) rfl rfl ?_; replace hrow := Lib.hid (hrow.out.below ((Below.refl V0.heap.size V0).alloc (Nat.le_refl _) (.cells #[.int .i64 k, .int .i64 rs, .string rl, .string rk, .string rv2] 63))); (refine wp_callf Try.func77 (by kernel_rfl) (by kernel_rfl) (vs := #[.slice A l0.length cap]) (by simp [eval_put, size_put, put_none, k2, k3, ks]) (clone_calls _ _ l0 hrow.out hnl) ?_; rintro e V ⟨v', rfl, ho, hb⟩; refine ⟨v', rfl, ?_⟩); (replace h8 := h8.below hb h8.lt; replace h1 := h1.below hb h1.lt; replace h2 := h2.below hb h2.lt; replace h3 := h3.below hb h3.lt; replace h7 := h7.below hb h7.lt; replace hB := below_next' hB hb); replace hnew := hnew.below hb hnew.lt; have hsV := hb.size; have hbV : (V0.alloc (.cells #[.int .i64 k, .int .i64 rs, .string rl, .string rk, .string rv2] 63)).heap.size = V0.heap.size + 1 := by simp)
          (refine any_one (i := 5) (by kernel_rfl) rfl rfl ?_; refine wp_append_own V _ _ _ rfl (V0.alloc (.cells #[.int .i64 k, .int .i64 rs, .string rl, .string rk, .string rv2] 63)).heap.size 63 ii _ 5 64 Try.underlying66 j1 j2 j3 j4 rfl (by decide) v' l0.length (Rq.L l0) (by simp [eval_put, size_put, put_none, k2, k3, ks]) ho ⟨V0.heap.size, 0, none⟩ 1 1 (Array.toList #[.int .i64 k, .int .i64 rs, .string rl, .string rk, .string rv2]) (by simp [eval_put, size_put, put_none, k2, k3, ks]) rfl (World.news_of_block (cs := #[.int .i64 k, .int .i64 rs, .string rl, .string rk, .string rv2]) (t := 63) (fr := (0, 0)) hnew) hpo hf1 hf2 (by omega) ?_; intro v2 V2 ho2 hg2 _; replace hB := below_own hB ho (by omega) hg2; have hne2 : ∀ x, x < (V0.alloc (.cells #[.int .i64 k, .int .i64 rs, .string rl, .string rk, .string rv2] 63)).heap.size → some x ≠ v'.ownBlock := fun x hx q => (by have := (ho.lt _ q.symm).1; omega); replace h8 := h8.only hg2 (hne2 _ (by omega)); replace h2 := h2.only hg2 (hne2 _ (by omega)); replace h3 := h3.only hg2 (hne2 _ (by omega)); replace h7 := h7.only hg2 (hne2 _ (by omega)); obtain ⟨g3, cap3, rfl, hgb3, _⟩ := ho2.form (Nat.succ_pos _); refine any_fieldAddr (i := 6) (by kernel_rfl) rfl (by simp [eval_put, size_put, put_none, k2, k3, ks]) (hfa _) ?_; refine any_store1 (j := 7) (by kernel_rfl) rfl (p := ⟨w.heap.size, 0, none⟩) (v := .slice (some ⟨g3, 0, none⟩) (l0.length + 1) cap3) (old := .slice A l0.length cap) (h8.cell 0) (h8.frozen 0) m1 m3 (by simp [eval_put, size_put, put_none, k2, k3, ks]) (by simp [eval_put, size_put, put_none, k2, k3, ks]) rfl rfl ?_; refine wpAny_done (by kernel_rfl) ?_ _; subst ha0; clear k2 k3 ks; go_wp2_with (fail); go_meet; exact ⟨_, _, h8.put' 0 _ rfl, by omega, RowAt.own (by rw [hl'.out, Rq.L_snoc, List.length_append]; exact own_far ho2 (by omega) 0 _), h2.far (show w.heap.size + 1 + 1 ≠ w.heap.size by omega) _, h3.far (show w.heap.size + 1 + 1 + 1 ≠ w.heap.size by omega) _, h7.far (show W5.heap.size ≠ w.heap.size by omega) _, hB.setCell (Nat.le_refl _) _⟩)
      · (refine wp_buildOne (part := #[.int .i64 k, .int .i64 rs, .string rl, .string rk, .string rv2]) Try.underlying66 j1 j2 j3 (by simp) (by simp) (by simp [eval_put, size_put, put_none, k2, k3, ks]) hfill ?_; have hnew := Whole.new V0 63 #[.int .i64 k, .int .i64 rs, .string rl, .string rk, .string rv2]; (replace h8 := h8.alloc (.cells #[.int .i64 k, .int .i64 rs, .string rl, .string rk, .string rv2] 63); replace h1 := h1.alloc (.cells #[.int .i64 k, .int .i64 rs, .string rl, .string rk, .string rv2] 63); replace h2 := h2.alloc (.cells #[.int .i64 k, .int .i64 rs, .string rl, .string rk, .string rv2] 63); replace h3 := h3.alloc (.cells #[.int .i64 k, .int .i64 rs, .string rl, .string rk, .string rv2] 63); replace h7 := h7.alloc (.cells #[.int .i64 k, .int .i64 rs, .string rl, .string rk, .string rv2] 63); replace hB := hB.alloc hB.size (.cells #[.int .i64 k, .int .i64 rs, .string rl, .string rk, .string rv2] 63)))
        refine any_one (i := 1) (by kernel_rfl) rfl rfl ?_
        refine wp_load1 (p := ⟨w.heap.size, 0, none⟩) (v := .slice A l0.length cap) (h8.cell 0) Try.underlying66 (by simp [eval_put, size_put, put_none, k2, k3, ks]) rfl ?_
        (refine any_one (i := 2) (by kernel_rfl) rfl rfl ?_; replace hrow := Lib.hid (hrow.out.below ((Below.refl V0.heap.size V0).alloc (Nat.le_refl _) (.cells #[.int .i64 k, .int .i64 rs, .string rl, .string rk, .string rv2] 63))); (refine wp_callf Try.func77 (by kernel_rfl) (by kernel_rfl) (vs := #[.slice A l0.length cap]) (by simp [eval_put, size_put, put_none, k2, k3, ks]) (clone_calls _ _ l0 hrow.out hnl) ?_; rintro e V ⟨v', rfl, ho, hb⟩; refine ⟨v', rfl, ?_⟩); (replace h8 := h8.below hb h8.lt; replace h1 := h1.below hb h1.lt; replace h2 := h2.below hb h2.lt; replace h3 := h3.below hb h3.lt; replace h7 := h7.below hb h7.lt; replace hB := below_next' hB hb); replace hnew := hnew.below hb hnew.lt; have hsV := hb.size; have hbV : (V0.alloc (.cells #[.int .i64 k, .int .i64 rs, .string rl, .string rk, .string rv2] 63)).heap.size = V0.heap.size + 1 := by simp)
        (refine any_one (i := 5) (by kernel_rfl) rfl rfl ?_; refine wp_append_own V _ _ _ rfl (V0.alloc (.cells #[.int .i64 k, .int .i64 rs, .string rl, .string rk, .string rv2] 63)).heap.size 63 ii _ 5 64 Try.underlying66 j1 j2 j3 j4 rfl (by decide) v' l0.length (Rq.L l0) (by simp [eval_put, size_put, put_none, k2, k3, ks]) ho ⟨V0.heap.size, 0, none⟩ 1 1 (Array.toList #[.int .i64 k, .int .i64 rs, .string rl, .string rk, .string rv2]) (by simp [eval_put, size_put, put_none, k2, k3, ks]) rfl (World.news_of_block (cs := #[.int .i64 k, .int .i64 rs, .string rl, .string rk, .string rv2]) (t := 63) (fr := (0, 0)) hnew) hpo hf1 hf2 (by omega) ?_; intro v2 V2 ho2 hg2 _; replace hB := below_own hB ho (by omega) hg2; have hne2 : ∀ x, x < (V0.alloc (.cells #[.int .i64 k, .int .i64 rs, .string rl, .string rk, .string rv2] 63)).heap.size → some x ≠ v'.ownBlock := fun x hx q => (by have := (ho.lt _ q.symm).1; omega); replace h8 := h8.only hg2 (hne2 _ (by omega)); replace h2 := h2.only hg2 (hne2 _ (by omega)); replace h3 := h3.only hg2 (hne2 _ (by omega)); replace h7 := h7.only hg2 (hne2 _ (by omega)); obtain ⟨g3, cap3, rfl, hgb3, _⟩ := ho2.form (Nat.succ_pos _); refine any_fieldAddr (i := 6) (by kernel_rfl) rfl (by simp [eval_put, size_put, put_none, k2, k3, ks]) (hfa _) ?_; refine any_store1 (j := 7) (by kernel_rfl) rfl (p := ⟨w.heap.size, 0, none⟩) (v := .slice (some ⟨g3, 0, none⟩) (l0.length + 1) cap3) (old := .slice A l0.length cap) (h8.cell 0) (h8.frozen 0) m1 m3 (by simp [eval_put, size_put, put_none, k2, k3, ks]) (by simp [eval_put, size_put, put_none, k2, k3, ks]) rfl rfl ?_; refine wpAny_done (by kernel_rfl) ?_ _; subst ha0; clear k2 k3 ks; go_wp2_with (fail); go_meet; exact ⟨_, _, h8.put' 0 _ rfl, by omega, RowAt.own (by rw [hl'.out, Rq.L_snoc, List.length_append]; exact own_far ho2 (by omega) 0 _), h2.far (show w.heap.size + 1 + 1 ≠ w.heap.size by omega) _, h3.far (show w.heap.size + 1 + 1 + 1 ≠ w.heap.size by omega) _, h7.far (show W5.heap.size ≠ w.heap.size by omega) _, hB.setCell (Nat.le_refl _) _⟩)
  case rest =>
    obtain ⟨g3, cap', h8, hgb3, hrow9, h2, h3, h7, hB⟩ := hcut
    go_upto_region 15 with (fail)
    refine wp_region_any (by kernel_rfl) ?_
    change wpAny _ _ _ _ _ _ _ (World.drew _)
    replace h8 := h8.drew
    replace h2 := h2.drew
    replace h3 := h3.drew
    replace h7 := h7.drew
    replace hB := hB.drew
    replace hrow9 : RowAt wc.drew _ _ := hrow9
    generalize wc.drew = W9 at *
    generalize ha : Act.mk _ _ = a0
    have k2 : a0.eval (.tmp 2) = .pointer (some ⟨w.heap.size, 0, none⟩) := by subst ha; rfl
    have k4 : a0.eval (.tmp 4) = .pointer (some ⟨w.heap.size + 1 + 1, 0, none⟩) := by subst ha; rfl
    have k5 : a0.eval (.tmp 5) = .pointer (some ⟨w.heap.size + 1 + 1 + 1, 0, none⟩) := by subst ha; rfl
    have k7 : a0.eval (.tmp 7) = .pointer (some ⟨W5.heap.size, 0, none⟩) := by subst ha; rfl
    have ks : a0.tmps.size = 76 := by subst ha; rfl
    have ha0 := ha.symm
    clear ha
    refine any_two (i := 0) (j := 1) (by kernel_rfl) rfl rfl rfl rfl ?_ ?_
    · refine wp_loadW h8 Try.underlying75 (by simp [eval_put, size_put, put_none, k2, k4, k5, k7, ks]) rfl (by kernel_rfl) ?_
      refine any_two (i := 1) (j := 2) (by kernel_rfl) rfl rfl rfl rfl ?_ ?_
      · refine wp_loadW h7 Try.underlying69 (by simp [eval_put, size_put, put_none, k2, k4, k5, k7, ks]) rfl (by kernel_rfl) ?_
        refine any_one (i := 2) (by kernel_rfl) rfl rfl ?_
        (refine wp_storeW (cells := s'.A (.slice (some ⟨g3, 0, none⟩) (l0.length + 1) cap') (.slice B m hc)) h2 (by simp [eval_put, size_put, put_none, k2, k4, k5, k7, ks]) (by simp [eval_put, size_put, put_none, k2, k4, k5, k7, ks]) (by kernel_rfl) rfl rfl ?_; intro w5 hs5 hg5 hz5; replace h3 := h3.only hg5 (by simp); replace h7 := h7.only hg5 (by simp only [ne_eq, Option.some.injEq]; omega))
        (refine any_one (i := 3) (by kernel_rfl) rfl rfl ?_; refine wp_storeW (cells := #[.int .i64 0, .int .i64 l0.length, .int .i64 (m + 1)]) h3 (by simp [eval_put, size_put, put_none, k2, k4, k5, k7, ks]) (by simp [eval_put, size_put, put_none, k2, k4, k5, k7, ks]) (by kernel_rfl) rfl rfl ?_; intro w6 hs6 hg6 hz6; refine wpAny_done (by kernel_rfl) ?_ _; subst ha0; clear k2 k4 k5 k7 ks; go_wp2; refine bodyPost_ret (res_cell_cell rfl _ _ _ _ _ _ _ _ _ _ rfl rfl (hs5.only hg6 (by simp)) hs6 Try.underlying75 rfl (by kernel_rfl) Try.underlying69 rfl (by kernel_rfl)) rfl ?_; go_light; exact ⟨_, rfl, (hrow9.only hg5 (by omega)).only hg6 (by omega), below_only' (below_only' hB hg5 (by omega)) hg6 (by omega)⟩)
      · (refine wp_storeW (cells := s'.A (.slice (some ⟨g3, 0, none⟩) (l0.length + 1) cap') (.slice B m hc)) h2 (by simp [eval_put, size_put, put_none, k2, k4, k5, k7, ks]) (by simp [eval_put, size_put, put_none, k2, k4, k5, k7, ks]) (by kernel_rfl) rfl rfl ?_; intro w5 hs5 hg5 hz5; replace h3 := h3.only hg5 (by simp); replace h7 := h7.only hg5 (by simp only [ne_eq, Option.some.injEq]; omega))
        refine any_one (i := 1) (by kernel_rfl) rfl rfl ?_
        refine wp_loadW h7 Try.underlying69 (by simp [eval_put, size_put, put_none, k2, k4, k5, k7, ks]) rfl (by kernel_rfl) ?_
        (refine any_one (i := 3) (by kernel_rfl) rfl rfl ?_; refine wp_storeW (cells := #[.int .i64 0, .int .i64 l0.length, .int .i64 (m + 1)]) h3 (by simp [eval_put, size_put, put_none, k2, k4, k5, k7, ks]) (by simp [eval_put, size_put, put_none, k2, k4, k5, k7, ks]) (by kernel_rfl) rfl rfl ?_; intro w6 hs6 hg6 hz6; refine wpAny_done (by kernel_rfl) ?_ _; subst ha0; clear k2 k4 k5 k7 ks; go_wp2; refine bodyPost_ret (res_cell_cell rfl _ _ _ _ _ _ _ _ _ _ rfl rfl (hs5.only hg6 (by simp)) hs6 Try.underlying75 rfl (by kernel_rfl) Try.underlying69 rfl (by kernel_rfl)) rfl ?_; go_light; exact ⟨_, rfl, (hrow9.only hg5 (by omega)).only hg6 (by omega), below_only' (below_only' hB hg5 (by omega)) hg6 (by omega)⟩)
    · refine wp_loadW h7 Try.underlying69 (by simp [eval_put, size_put, put_none, k2, k4, k5, k7, ks]) rfl (by kernel_rfl) ?_
      refine any_one (i := 0) (by kernel_rfl) rfl rfl ?_
      refine wp_loadW h8 Try.underlying75 (by simp [eval_put, size_put, put_none, k2, k4, k5, k7, ks]) rfl (by kernel_rfl) ?_
      refine any_one (i := 2) (by kernel_rfl) rfl rfl ?_
      (refine wp_storeW (cells := s'.A (.slice (some ⟨g3, 0, none⟩) (l0.length + 1) cap') (.slice B m hc)) h2 (by simp [eval_put, size_put, put_none, k2, k4, k5, k7, ks]) (by simp [eval_put, size_put, put_none, k2, k4, k5, k7, ks]) (by kernel_rfl) rfl rfl ?_; intro w5 hs5 hg5 hz5; replace h3 := h3.only hg5 (by simp); replace h7 := h7.only hg5 (by simp only [ne_eq, Option.some.injEq]; omega))
      (refine any_one (i := 3) (by kernel_rfl) rfl rfl ?_; refine wp_storeW (cells := #[.int .i64 0, .int .i64 l0.length, .int .i64 (m + 1)]) h3 (by simp [eval_put, size_put, put_none, k2, k4, k5, k7, ks]) (by simp [eval_put, size_put, put_none, k2, k4, k5, k7, ks]) (by kernel_rfl) rfl rfl ?_; intro w6 hs6 hg6 hz6; refine wpAny_done (by kernel_rfl) ?_ _; subst ha0; clear k2 k4 k5 k7 ks; go_wp2; refine bodyPost_ret (res_cell_cell rfl _ _ _ _ _ _ _ _ _ _ rfl rfl (hs5.only hg6 (by simp)) hs6 Try.underlying75 rfl (by kernel_rfl) Try.underlying69 rfl (by kernel_rfl)) rfl ?_; go_light; exact ⟨_, rfl, (hrow9.only hg5 (by omega)).only hg6 (by omega), below_only' (below_only' hB hg5 (by omega)) hg6 (by omega)⟩)
end Go.Proofs.Ytknjbkbbhgjnlaa
