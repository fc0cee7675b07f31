/- The program's table: sha.Make. No conditions. -/
import Derived.Test.YtknjbkbbhgjnlaaPrimes
import Derived.Test.YtknjbkbbhgjnlaaPSha2
import Derived.Test.YtknjbkbbhgjnlaaSha0
import Derived.RangeFuncCalls
import Derived.Shelf.RegionOpen
namespace Go.Proofs.Ytknjbkbbhgjnlaa
open Go.RowKit Go.Shelf
set_option linter.unusedVariables false
set_option linter.unusedSimpArgs false
attribute [local go_sem] Oper.semAt_some
/-- The table, of which the first k, and h, numbers are there. -/
def tabL (k h : Nat) : List Nat := (List.range 72).map fun j => if j < 64 then (if j < k then cuN (PR.getD j 0) else 0) else (if j - 64 < h then sqN (PR.getD (j - 64) 0) else 0)
theorem tabL_length (k h : Nat) : (tabL k h).length = 72 := by simp [tabL]
theorem tabL_get {k h j : Nat} (hj : j < 72) : (tabL k h)[j]? = some (if j < 64 then (if j < k then cuN (PR.getD j 0) else 0) else (if j - 64 < h then sqN (PR.getD (j - 64) 0) else 0)) := by
  unfold tabL
  rw [List.getElem?_map, List.getElem?_range hj]
  rfl
theorem tabL_k {k h : Nat} (hk : k < 64) : (tabL k h).set k (cuN (PR.getD k 0)) = tabL (k + 1) h := by
  apply List.ext_getElem?
  intro j
  rw [List.getElem?_set]
  by_cases hj : j < 72
  · rw [tabL_get hj, tabL_get hj, tabL_length]
    by_cases e : k = j
    · subst e
      rw [if_pos rfl, if_pos (by omega), if_pos hk, if_pos (by omega)]
    · rw [if_neg e]
      by_cases h64 : j < 64
      · rw [if_pos h64, if_pos h64]
        by_cases hjk : j < k
        · rw [if_pos hjk, if_pos (by omega)]
        · rw [if_neg hjk, if_neg (by omega)]
      · rw [if_neg h64, if_neg h64]
  · rw [if_neg (by omega), List.getElem?_eq_none (by rw [tabL_length]; omega), List.getElem?_eq_none (by rw [tabL_length]; omega)]
theorem tabL_h {k h : Nat} (hh : h < 8) : (tabL k h).set (64 + h) (sqN (PR.getD h 0)) = tabL k (h + 1) := by
  apply List.ext_getElem?
  intro j
  rw [List.getElem?_set]
  by_cases hj : j < 72
  · rw [tabL_get hj, tabL_get hj, tabL_length]
    by_cases e : 64 + h = j
    · subst e
      rw [if_pos rfl, if_pos (by omega), if_neg (by omega), if_pos (by omega), show 64 + h - 64 = h by omega]
    · rw [if_neg e]
      by_cases h64 : j < 64
      · rw [if_pos h64, if_pos h64]
      · rw [if_neg h64, if_neg h64]
        by_cases hjk : j - 64 < h
        · rw [if_pos hjk, if_pos (by omega)]
        · rw [if_neg hjk, if_neg (by omega)]
  · rw [if_neg (by omega), List.getElem?_eq_none (by rw [tabL_length]; omega), List.getElem?_eq_none (by rw [tabL_length]; omega)]
theorem arr_one' (l : List Nat) : (arr .u32 l).toList.all (·.oneCell') = true := by simp [arr, Value.oneCell']
theorem tabL_all : tabL 64 8 = K64 ++ H8.L := by kernel_rfl
theorem tabL_none : arr .u32 (tabL 0 0) = Try.zeroCells29 := by kernel_rfl
set_option maxHeartbeats 1000000 in
theorem primes_in (n : Nat) (w : World) : CallsIn Fence.wide n Try.prog 52 #[] w fun e w' => e = .returned (.func (.func 86) #[] #[]) ∧ w' = w := by
  refine callsIn_of_wp Try.func52 rfl trivial ?_ rfl
  simp only [Try.ntmps52, List.size_toArray, List.length_cons, List.length_nil, Nat.reduceAdd, Nat.reduceSub, Array.replicate_succ, Array.replicate_zero, List.push_toArray, List.append_toArray, List.nil_append, List.cons_append]
  gi_wp2
  go_ret
  exact ⟨rfl, rfl⟩
set_option maxRecDepth 100000 in
set_option maxHeartbeats 4000000 in
theorem make_in (w : World) : CallsIn Fence.wide 5 Try.prog 17 #[] w fun e w' => e = .returned (.agg (arr .u32 (K64 ++ H8.L))) ∧ Below w.heap.size w w' := by
  have hro : Fence.wide.round = none := rfl
  have h1 : 1 ≤ 5 := by decide
  refine callsIn_of_wp_marks Try.func17 rfl trivial ?_ hro
  simp only [Try.ntmps17, List.size_toArray, List.length_cons, List.length_nil, Nat.reduceAdd, Nat.reduceSub, Array.replicate_succ, Array.replicate_zero, List.push_toArray, List.append_toArray, List.nil_append, List.cons_append]
  gi_wp2_with (refine ⟨trivial, ?_⟩; gi_at_call 52; refine (primes_in _ _).mono ?_; rintro e w' ⟨rfl, rfl⟩)
  obtain ⟨W, hW, a0, a1, a2, hB, hsz⟩ : ∃ W, W = ((w.alloc (.cells Try.zeroCells29 29)).alloc (.cells Try.zeroCells29 29)).alloc (.cells #[.int .i64 0] 3) ∧
      Whole W w.heap.size 29 Try.zeroCells29 ∧ Whole W (w.heap.size + 1) 29 (arr .u32 (tabL 0 0)) ∧ Whole W (w.heap.size + 1 + 1) 3 #[.int .i64 ((0 : Nat) : Int)] ∧ Below w.heap.size w W ∧ W.heap.size = w.heap.size + 3 := by
    refine ⟨_, rfl, ((Whole.new w _ _).alloc _).alloc _, ?_, ?_, by go_grown, by simp⟩
    · rw [tabL_none]
      have := (Whole.new (w.alloc (.cells Try.zeroCells29 29)) 29 Try.zeroCells29).alloc (.cells #[.int .i64 0] 3)
      simpa using this
    · have := Whole.new ((w.alloc (.cells Try.zeroCells29 29)).alloc (.cells Try.zeroCells29 29)) 3 #[.int .i64 0]
      simpa using this
  rw [← hW]
  clear hW
  generalize hb0 : w.heap.size = b0 at *
  refine wpIn_rangeFunc_B (N := 64) (enc := fun k => #[.int .u64 ((PR.getD k 0 : Nat) : Int)]) hro h1 (gf := 86) (lb := #[]) rfl trivial (enters_of Try.func86 (by kernel_rfl) rfl) (primes_seq _) (fun _ => rfl)
    (fun k W' => Whole W' b0 29 Try.zeroCells29 ∧ Whole W' (b0 + 1) 29 (arr .u32 (tabL k (min k 8))) ∧ Whole W' (b0 + 1 + 1) 3 #[.int .i64 (k : Int)] ∧ Below b0 w W')
    (fun c W' => c = .exit 0 ∧ Whole W' b0 29 Try.zeroCells29 ∧ Whole W' (b0 + 1) 29 (arr .u32 (tabL 64 8)) ∧ Below b0 w W')
    (fun k A B h hb => ⟨h.1.below hb (by omega), h.2.1.below hb (by omega), h.2.2.1.below hb (by omega), h.2.2.2.trans (hb.mono (by omega))⟩)
    (fun c A B h hb => ⟨h.1, h.2.1.below hb (by omega), h.2.2.1.below hb (by omega), h.2.2.2.trans (hb.mono (by omega))⟩)
    ⟨a0, a1, a2, hB⟩
    (fun k => { tmps := #[.pointer (some ⟨b0, 0, none⟩), .pointer (some ⟨b0 + 1, 0, none⟩), .pointer (some ⟨b0 + 1 + 1, 0, none⟩), .int .u64 ((PR.getD k 0 : Nat) : Int), .func (.func 86) #[] #[], .int .u64 ((PR.getD k 0 : Nat) : Int), undef, undef, undef, undef, undef, undef, undef, undef, undef, undef, undef, undef, undef, undef, undef, undef, undef], defers := [] }) ?assign ?body ?stop
  case assign =>
    intro l x W K hK
    gi_wp2
    exact hK
  case body =>
    rintro l k W' hk hsz' ⟨h0, h1', h2, hB'⟩
    by_cases hlt : k < 64
    · obtain ⟨p, hp⟩ : ∃ p, PR.getD k 0 = p := ⟨_, rfl⟩
      have hp3 := (PR_get k (by omega)).2
      rw [hp] at hp3 ⊢
      have C := fun w => cube_calls p (by omega) w
      have S := fun w => square_calls p (by omega) w
      have hkk : ((k : Int) == 64) = false := by rw [beq_eq_false_iff_ne]; omega
      have hkl : ((k : Int) < 64) = True := eq_true (by omega)
      have c2 : W'.cell? ⟨b0 + 1 + 1, 0, none⟩ = some (.int .i64 k) := h2.cell 0
      have ck := arr_cell h1' (i := k) (by rw [tabL_length]; omega)
      have fk := h1'.frozen k
      have hset := tabL_k (h := min k 8) hlt
      rw [hp] at hset
      generalize (tabL k (min k 8)).getD k 0 = old at ck
      generalize hcu : cuN p = cu at *
      replace C := Lib.hid C
      replace S := Lib.hid S
      replace hset := Lib.hid hset
      have hm : Try.prog.follows .mixedOrders = true := by kernel_rfl
      gi_wp2
      refine wpIn_mono (Q := Exit.then (fun a' W2 => a' = { tmps := #[.pointer (some ⟨b0, 0, none⟩), .pointer (some ⟨b0 + 1, 0, none⟩), .pointer (some ⟨b0 + 1 + 1, 0, none⟩), .int .u64 p, .func (.func 86) #[] #[], .int .u64 p, .int .i64 k, .bool false, .int .i64 k, .int .u64 p, .int .u32 cu, .pointer (some ⟨b0 + 1, 0, none⟩), .pointer (some ⟨b0 + 1, k, none⟩), undef, undef, undef, undef, undef, undef, undef, undef, undef, undef], defers := [] } ∧
        Whole W2 b0 29 Try.zeroCells29 ∧ Whole W2 (b0 + 1) 29 (arr .u32 (tabL (k + 1) (min k 8))) ∧ Whole W2 (b0 + 1 + 1) 3 #[.int .i64 (k : Int)] ∧ Below b0 w W2 ∧ Above W.heap.size W' W2) (fun _ _ _ => False)) ?r1 ?r2
      case r1 =>
        have c2d : W'.drew.cell? ⟨b0 + 1 + 1, 0, none⟩ = some (.int .i64 k) := c2
        have ckd : W'.drew.cell? ⟨b0 + 1, k, none⟩ = some (.int .u32 (old : Int)) := ck
        have h0d := h0.drew
        have h1d := h1'.drew
        have h2d := h2.drew
        have hBd := hB'.drew
        have hsd : W'.drew.heap.size = W'.heap.size := rfl
        gi_region_with_o (refine ⟨trivial, ?_⟩; gi_at_call 53; refine (CallsIn.inRound l (callsIn_wide.2 (C.out _))).mono ?_; rintro e w5 ⟨rfl, hb5⟩; have c25 := cell_keep c2d hb5; have q0 := h0d.below hb5 h0d.lt; have q1 := h1d.below hb5 h1d.lt; have q2 := h2d.below hb5 h2d.lt; have ck5 := cell_keep ckd hb5; have fk5 := q1.frozen k; have z0 := q0.far (p := ⟨b0 + 1, k, none⟩) (by simp) (.int .u32 (cu : Int)); have z1 := arr_put q1 k cu; rw [hset.out] at z1; have z2 := q2.far (p := ⟨b0 + 1, k, none⟩) (by simp) (.int .u32 (cu : Int)); have zB : Below b0 w (w5.setCell ⟨b0 + 1, k, none⟩ (.int .u32 (cu : Int))) := (hBd.trans (hb5.mono (by omega))).setCell (p := ⟨b0 + 1, k, none⟩) (by simp) _; have zA : Above (b0 + 3) W' (w5.setCell ⟨b0 + 1, k, none⟩ (.int .u32 (cu : Int))) := ⟨by have := hb5.size; rw [hsd] at this; simpa [World.setCell] using this, fun g hg hgl => (Below.heap_setCell w5 ⟨b0 + 1, k, none⟩ _ g (by simp; omega)).trans (hb5.block g (by rw [hsd]; exact hgl))⟩)
        all_goals exact ⟨rfl, z0, z1, z2, zB, by rw [hsz]; exact zA⟩
      case r2 =>
        rintro e a' W2 hp2
        cases e with
        | normal =>
          obtain ⟨rfl, z0, z1, z2, zB, zA⟩ := hp2
          have hs2 := zA.1
          have d2 : W2.cell? ⟨b0 + 1 + 1, 0, none⟩ = some (.int .i64 k) := z2.cell 0
          have g2 := z2.frozen 0
          by_cases h8 : k < 8
          · have h8l : ((k : Int) < 8) = True := eq_true (by omega)
            have dk := arr_cell z1 (i := 64 + k) (by rw [tabL_length]; omega)
            have gk := z1.frozen (64 + k)
            have hset8 := tabL_h (k := k + 1) h8
            rw [hp] at hset8
            rw [show min k 8 = k by omega] at z1 dk
            generalize (tabL (k + 1) k).getD (64 + k) 0 = old8 at dk
            generalize hsu : sqN p = su at *
            replace hset8 := Lib.hid hset8
            gi_wp2
            refine wpIn_mono (Q := Exit.then (fun a' W3 => a' = { tmps := #[.pointer (some ⟨b0, 0, none⟩), .pointer (some ⟨b0 + 1, 0, none⟩), .pointer (some ⟨b0 + 1 + 1, 0, none⟩), .int .u64 p, .func (.func 86) #[] #[], .int .u64 p, .int .i64 k, .bool false, .int .i64 k, .int .u64 p, .int .u32 cu, .pointer (some ⟨b0 + 1, 0, none⟩), .pointer (some ⟨b0 + 1, k, none⟩), .int .i64 k, .bool true, .int .i64 k, .int .u64 p, .int .u32 su, .pointer (some ⟨b0 + 1, 64, none⟩), .pointer (some ⟨b0 + 1, 64 + k, none⟩), undef, undef, undef], defers := [] } ∧
              Whole W3 b0 29 Try.zeroCells29 ∧ Whole W3 (b0 + 1) 29 (arr .u32 (tabL (k + 1) (k + 1))) ∧ Whole W3 (b0 + 1 + 1) 3 #[.int .i64 (k : Int)] ∧ Below b0 w W3 ∧ Above W.heap.size W2 W3) (fun _ _ _ => False)) ?s1 ?s2
            case s1 =>
              have c2d : W2.drew.cell? ⟨b0 + 1 + 1, 0, none⟩ = some (.int .i64 k) := d2
              have ckd : W2.drew.cell? ⟨b0 + 1, 64 + k, none⟩ = some (.int .u32 (old8 : Int)) := dk
              have h0d := z0.drew
              have h1d := z1.drew
              have h2d := z2.drew
              have hBd := zB.drew
              have hsd : W2.drew.heap.size = W2.heap.size := rfl
              gi_region_with_o (refine ⟨trivial, ?_⟩; gi_at_call 54; refine (CallsIn.inRound l (callsIn_wide.2 (S.out _))).mono ?_; rintro e w5 ⟨rfl, hb5⟩; have c25 := cell_keep c2d hb5; have q0 := h0d.below hb5 h0d.lt; have q1 := h1d.below hb5 h1d.lt; have q2 := h2d.below hb5 h2d.lt; have ck5 := cell_keep ckd hb5; have fk5 := q1.frozen (64 + k); have y0 := q0.far (p := ⟨b0 + 1, 64 + k, none⟩) (by simp) (.int .u32 (su : Int)); have y1 := arr_put q1 (64 + k) su; rw [hset8.out] at y1; have y2 := q2.far (p := ⟨b0 + 1, 64 + k, none⟩) (by simp) (.int .u32 (su : Int)); have yB : Below b0 w (w5.setCell ⟨b0 + 1, 64 + k, none⟩ (.int .u32 (su : Int))) := (hBd.trans (hb5.mono (by omega))).setCell (p := ⟨b0 + 1, 64 + k, none⟩) (by simp) _; have yA : Above (b0 + 3) W2 (w5.setCell ⟨b0 + 1, 64 + k, none⟩ (.int .u32 (su : Int))) := ⟨by have := hb5.size; rw [hsd] at this; simpa [World.setCell] using this, fun g hg hgl => (Below.heap_setCell w5 ⟨b0 + 1, 64 + k, none⟩ _ g (by simp; omega)).trans (hb5.block g (by rw [hsd]; exact hgl))⟩)
              all_goals exact ⟨rfl, y0, y1, y2, yB, by rw [hsz]; exact yA⟩
            case s2 =>
              rintro e a' W3 hp3
              cases e with
              | normal =>
                obtain ⟨rfl, y0, y1, y2, yB, yA⟩ := hp3
                have e2 : W3.cell? ⟨b0 + 1 + 1, 0, none⟩ = some (.int .i64 k) := y2.cell 0
                have g3 := y2.frozen 0
                gi_wp2
                refine ⟨hlt, (zA.trans yA).trans ⟨by simp [World.setCell], fun g hg _ => Below.heap_setCell W3 _ _ g (by simp; omega)⟩, y0.far (by simp; omega) _, ?_, ?_, yB.setCell (by simp; omega) _⟩
                · rw [show min (k + 1) 8 = k + 1 by omega]
                  exact y1.far (by simp) _
                · exact y2.put 0 _
              | _ => exact hp3.elim
          · have h8l : ((k : Int) < 8) = False := eq_false (by omega)
            have h8n : ((8 : Int) ≤ k) = True := eq_true (by omega)
            gi_wp2
            refine ⟨hlt, zA.trans ⟨by simp [World.setCell], fun g hg _ => Below.heap_setCell W2 _ _ g (by simp; omega)⟩, z0.far (by simp; omega) _, ?_, ?_, zB.setCell (by simp; omega) _⟩
            · rw [show min (k + 1) 8 = min k 8 by omega]
              exact z1.far (by simp) _
            · exact z2.put 0 _
        | _ => exact hp2.elim
    · obtain rfl : k = 64 := by omega
      have c2 : W'.cell? ⟨b0 + 1 + 1, 0, none⟩ = some (.int .i64 64) := h2.cell 0
      gi_wp2
      exact ⟨Above.refl _ _, rfl, h0, h1', hB'⟩
  case stop =>
    rintro D c W' hD ⟨rfl, h0, h1', hB'⟩ hK
    rw [tabL_all] at h1'
    have hsz72 : (arr .u32 (K64 ++ H8.L)).size = 72 := by rw [arr_size]; rfl
    have hone := arr_one' (K64 ++ H8.L)
    generalize htb : arr .u32 (K64 ++ H8.L) = tb at *
    have hz0 : Try.zeroCells29.size = 72 := by kernel_rfl
    generalize Try.zeroCells29 = zc at *
    have hinfo : (Try.prog.info? 29).map (·.size) = some tb.size := by rw [hsz72]; kernel_rfl
    refine wpIn_wide.2 ?_
    go_wp2
    refine wpIn_wide.2 ?_
    have hall : tb.toList.all (·.oneCell') = true := hone
    go_wp2_with (first | ((with_reducible apply wl_loadW (ty := 29) h1' Try.underlying29); rfl; rfl; rfl; exact hinfo) | ((with_reducible apply wl_storeW (ty := 29) h0); rfl; rfl; rfl; (rw [hz0, ← hsz72]; exact hinfo); (rw [hz0, hsz72]); exact hall; intro w5 hs5 hg5 hz5))
    have hl0 := h0.lt
    have hK5 : w5.heap[D]? = some (.deferred (some [])) := (hg5.block D (Array.getElem?_eq_some_iff.1 hK).1 (by simp; omega)).trans hK
    have hs5' : Whole (w5.putObj D (.deferred none)) b0 29 tb := (World.putObj_heap_other (by omega)).trans hs5
    have hB5 : Below b0 w (w5.putObj D (.deferred none)) := (hB'.trans ((Below.refl b0 W').grown hg5 (by omega) (fun k e => by cases e; omega))).trans (below_putObj _ (by omega) (Array.getElem?_eq_some_iff.1 hK5).1)
    refine ⟨by simp, .inl ⟨_, _, rfl, run_takeDeferred hK5, ?_⟩⟩
    rw [htb, hb0]
    exact ⟨_, results_cell_row rfl _ _ _ _ _ _ _ (by rfl) hs5' Try.underlying29 rfl hinfo, rfl, hB5⟩
theorem make_calls (w : World) : Calls Try.prog 17 #[] w fun e w' => e = .returned (.agg (arr .u32 (K64 ++ H8.L))) ∧ Below w.heap.size w w' := callsIn_wide.1 (make_in w)
end Go.Proofs.Ytknjbkbbhgjnlaa
