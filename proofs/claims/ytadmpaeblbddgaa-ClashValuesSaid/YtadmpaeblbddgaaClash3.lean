/- Layer 9: a root; two answers. Conditions: sizes as the law's. -/
import Derived.Test.YtadmpaeblbddgaaClash2
import Derived.WalkSpells
import Derived.StillTactics
namespace Go.Proofs.Ytadmpaeblbddgaa
open Go.RowKit
set_option linter.unusedVariables false
set_option linter.unusedSimpArgs false
theorem texts_calls {f : FuncId} {hf : ByteArray → ByteArray} (H : Hasher f hf) (key : ByteArray) (a : An) (hk : key.size ≤ 1099511627770) (hv : a.value.size ≤ 1099511627770) (hp : a.proof.size ≤ 1099511627770) (w : World) :
    Calls Try.prog 64 #[.func (.func f) #[] #[], .string key, .agg a.A] w (RowOpt w (texts hf key a)) := by
  cases hm : a.may key
  · have : texts hf key a = none := by unfold texts; rw [if_neg (by rw [hm]; decide)]
    rw [this]
    exact texts_no key a hk hv hp hm w
  · exact texts_yes H key a hp hm w
theorem texts_len {hf : ByteArray → ByteArray} {key : ByteArray} {a : An} {l : List ByteArray} (h : texts hf key a = some l) : l.length = 257 := by
  unfold texts at h
  split at h
  · unfold topC at h
    split at h
    · split at h
      · have h := Option.some.inj h
        rw [← h]
        exact downL_length _ (Nat.le_refl _)
      · cases h
    · cases h
  · cases h
theorem st_size {hf : ByteArray → ByteArray} (hh : ∀ s, (hf s).size = 32) {key : ByteArray} {a : An} (hk : key.size ≤ 255) (hv : a.value.size ≤ 255) (hp : a.proof.size % 32 = 0) (h32 : 32 ≤ a.proof.size) : ∀ k T n, stC hf key a k = some (T, n) → T.size ≤ 600 ∧ 32 ≤ n ∧ n ≤ a.proof.size ∧ n % 32 = 0 := by
  intro k
  induction k with
  | zero =>
    intro T n h
    simp only [stC, Option.some.injEq, Prod.mk.injEq] at h
    obtain ⟨rfl, rfl⟩ := h
    refine ⟨?_, h32, Nat.le_refl _, hp⟩
    unfold An.low
    split
    · rw [ByteArray.size_append, ByteArray.size_append, ByteArray.size_append, strOfNums_size]
      show 1 + 1 + key.size + a.value.size ≤ 600
      omega
    · show 1 ≤ 600; decide
  | succ k ih =>
    intro T n h
    cases hs : stC hf key a k with
    | none => rw [stC, hs] at h; cases h
    | some x =>
      obtain ⟨T0, n0⟩ := x
      obtain ⟨_, i2, i3, i4⟩ := ih T0 n0 hs
      rw [stC_succ hf key a k T0 n0 hs] at h
      have hex : 64 ≤ n0 → (a.proof.extract (n0 - 32) n0).size = 32 := fun _ => by rw [ByteArray.size_extract]; omega
      have hnt : ∀ a b : ByteArray, a.size = 32 → b.size = 32 → (NT a b).size ≤ 600 := fun a b h1 h2 => by rw [NT_size, h1, h2]; decide
      split at h
      · split at h
        · cases h
        · simp only [Option.some.injEq, Prod.mk.injEq] at h
          obtain ⟨rfl, rfl⟩ := h
          refine ⟨?_, by omega, by omega, by omega⟩
          split
          · exact hnt _ _ (hex (by omega)) (hh _)
          · exact hnt _ _ (hh _) (hex (by omega))
      · simp only [Option.some.injEq, Prod.mk.injEq] at h
        obtain ⟨rfl, rfl⟩ := h
        refine ⟨?_, i2, i3, i4⟩
        split
        · exact hnt _ _ (emp_size hh _) (hh _)
        · exact hnt _ _ (hh _) (emp_size hh _)
theorem texts_size {hf : ByteArray → ByteArray} (hh : ∀ s, (hf s).size = 32) {key : ByteArray} {a : An} {l : List ByteArray} (h : texts hf key a = some l) (j : Nat) : (l.getD j ByteArray.empty).size ≤ 600 := by
  unfold texts at h
  split at h
  · rename_i hm
    obtain ⟨y1, y2, y3, y4, y5⟩ := may_yes hm
    have hs := st_size hh y1 y2 y5 y4
    have ht : ∀ k, (txC hf key a k).size ≤ 600 := fun k => by
      cases hk : stC hf key a k with
      | none => simp [txC, hk]
      | some x => rw [txC_of (T := x.1) (n := x.2) hk]; exact (hs k x.1 x.2 hk).1
    unfold topC at h
    split at h
    · split at h
      · have h := Option.some.inj h
        rw [← h]
        by_cases hj : j ≤ 256
        · rw [downL_getD _ (by decide) (by omega) hj]; exact ht _
        · rw [List.getD_eq_getElem?_getD, List.getElem?_eq_none (by rw [downL_length _ (by decide)]; omega)]
          show 0 ≤ 600; decide
      · cases h
    · cases h
  · cases h
set_option maxHeartbeats 1000000 in
set_option maxRecDepth 100000 in
theorem root_calls {f : FuncId} {hf : ByteArray → ByteArray} (H : Hasher f hf) (key : ByteArray) (a : An) (hk : key.size ≤ 1099511627770) (hv : a.value.size ≤ 1099511627770) (hp : a.proof.size ≤ 1099511627770) (w : World) :
    Calls Try.prog 38 #[.func (.func f) #[] #[], .string key, .agg a.A] w fun e w' => e = .returned (.tuple #[.string (rootC hf key a).1, .bool (rootC hf key a).2]) ∧ Later w w' := by
  have hnil := fun (w : World) a n c => Lib.run_eql_slice_nil (P := Try.prog) w 36 9 a n c 0 0 Try.underlying36
  have Ct := fun w => texts_calls H key a hk hv hp w
  obtain ⟨th, va, pr⟩ := a
  simp only [An.A] at *
  have hw := Whole.new w 23 #[.bool th, .string va, .string pr]
  have hB : Later w (w.alloc (.cells #[.bool th, .string va, .string pr] 23)) := (Later.refl w).alloc _
  cases ht : texts hf key ⟨th, va, pr⟩ with
  | none =>
    have hr : rootC hf key ⟨th, va, pr⟩ = (ByteArray.empty, false) := by unfold rootC; rw [ht]
    rw [hr]
    rw [ht] at Ct
    have Cn : ∀ w : World, Calls Try.prog 64 #[.func (.func f) #[] #[], .string key, .agg #[.bool th, .string va, .string pr]] w (fun e w' => e = .returned (.slice none 0 0) ∧ Later w w') := Ct
    clear hr ht H Ct
    replace Cn := Lib.hid Cn
    go_enter Try.func38, Try.ntmps38
    go_wp2_with (first | (first | ((with_reducible apply wl_loadW (ty := 23) hw Try.underlying23); rfl; rfl; rfl; kernel_rfl) | ((with_reducible apply wl_loadW (ty := 23) (hw.alloc _) Try.underlying23); rfl; rfl; rfl; kernel_rfl) | ((with_reducible apply wl_loadW (ty := 23) ((hw.alloc _).alloc _) Try.underlying23); rfl; rfl; rfl; kernel_rfl)) | ((with_reducible refine (Cn.out _).mono ?_); rintro e wT ⟨rfl, hlT⟩; replace hB := hB.trans hlT))
    go_returns
    go_light
    exact ⟨rfl, hB⟩
  | some l =>
    have hr : rootC hf key ⟨th, va, pr⟩ = (hf (l.getD 0 ByteArray.empty), true) := by unfold rootC; rw [ht]
    rw [hr]
    rw [ht] at Ct
    have Cn : ∀ w : World, Calls Try.prog 64 #[.func (.func f) #[] #[], .string key, .agg #[.bool th, .string va, .string pr]] w (RowRet w l) := Ct
    have hl := texts_len ht
    have Ch := fun w => H.calls (l.getD 0 ByteArray.empty) w (by have := texts_size H.size ht 0; omega)
    obtain ⟨t0, e0⟩ : ∃ t, l.getD 0 ByteArray.empty = t := ⟨_, rfl⟩
    rw [e0] at Ch ⊢
    replace e0 := Lib.hid e0
    have En := H.enters
    clear hr ht H Ct
    replace Cn := Lib.hid Cn
    replace Ch := Lib.hid Ch
    go_enter Try.func38, Try.ntmps38
    go_wp2_with (first | (first | ((with_reducible apply wl_loadW (ty := 23) hw Try.underlying23); rfl; rfl; rfl; kernel_rfl) | ((with_reducible apply wl_loadW (ty := 23) (hw.alloc _) Try.underlying23); rfl; rfl; rfl; kernel_rfl) | ((with_reducible apply wl_loadW (ty := 23) ((hw.alloc _).alloc _) Try.underlying23); rfl; rfl; rfl; kernel_rfl)) | ((with_reducible refine (Cn.out _).mono ?_); rintro e wT ⟨g, rfl, hT, hgT, hlT⟩; replace hB := hB.trans hlT; rw [hl]; have c0 := sarr_cell hT (i := 0) (by rw [hl]; decide); rw [e0.out] at c0) | ((with_reducible refine (Ch.out _).mono ?_); rintro e wH ⟨rfl, hlH⟩; replace hB := hB.trans hlH))
    go_returns
    go_light
    exact ⟨rfl, hB⟩
/-- The first text in which two rows differ, from number i on. -/
def firstD (x y : List ByteArray) : Nat → Nat → Option (ByteArray × ByteArray)
  | 0, _ => none
  | n + 1, i => if x.getD i ByteArray.empty = y.getD i ByteArray.empty then firstD x y n (i + 1) else some (x.getD i ByteArray.empty, y.getD i ByteArray.empty)
def valuesC (hf : ByteArray → ByteArray) (root key : ByteArray) (a b : An) : Option (ByteArray × ByteArray) :=
  match texts hf key a, texts hf key b with
  | some x, some y => if hf (x.getD 0 ByteArray.empty) = root ∧ hf (y.getD 0 ByteArray.empty) = root ∧ ¬ (a.there = b.there ∧ a.value = b.value) then firstD x y 257 0 else none
  | _, _ => none
def pairA : Option (ByteArray × ByteArray) → Array Value
  | some (p, q) => #[.string p, .string q]
  | none => #[.string ⟨#[]⟩, .string ⟨#[]⟩]
def SliceF (l : Option (List ByteArray)) : Fact := fun v w => match l with
  | some l => ∃ g, v = .slice (some ⟨g, 0, none⟩) l.length l.length ∧ Whole w g 9 (sarr l)
  | none => v = .slice none 0 0
theorem SliceF.later (l : Option (List ByteArray)) (v : Value) (w w' : World) (h : Later w w') (k : SliceF l v w) : SliceF l v w' := by
  cases l with
  | none => exact k
  | some l =>
    obtain ⟨g, rfl, hw⟩ := k
    exact ⟨g, rfl, h.whole hw⟩
theorem RowOpt.fact {w : World} {l : Option (List ByteArray)} {e : Ending} {w' : World} (h : RowOpt w l e w') : ∃ v, e = .returned v ∧ SliceF l v w' ∧ Later w w' := by
  cases l with
  | none => exact ⟨_, h.1, rfl, h.2⟩
  | some l =>
    obtain ⟨g, rfl, hw, _, hl⟩ := h
    exact ⟨_, rfl, ⟨g, rfl, hw⟩, hl⟩
theorem beqT {a b : ByteArray} (h : a = b) : (a.toList == b.toList) = true := by rw [h]; simp
theorem beqF {a b : ByteArray} (h : ¬ a = b) : (a.toList == b.toList) = false := by rw [beqL]; simpa using h
set_option maxHeartbeats 4000000 in
set_option maxRecDepth 100000 in
theorem values_calls {f : FuncId} {hf : ByteArray → ByteArray} (H : Hasher f hf) (root key : ByteArray) (a b : An) (hk : key.size ≤ 1099511627770) (hva : a.value.size ≤ 1099511627770) (hpa : a.proof.size ≤ 1099511627770) (hvb : b.value.size ≤ 1099511627770) (hpb : b.proof.size ≤ 1099511627770) (w : World) :
    Calls Try.prog 43 #[.func (.func f) #[] #[], .string root, .string key, .agg a.A, .agg b.A] w fun e w' => e = .returned (.tuple #[.agg (pairA (valuesC hf root key a b)), .bool (valuesC hf root key a b).isSome]) ∧ Later w w' := by
  have hnil := fun (w : World) a n c => Lib.run_eql_slice_nil (P := Try.prog) w 36 9 a n c 0 0 Try.underlying36
  have Ca : ∀ w : World, Calls Try.prog 64 #[.func (.func f) #[] #[], .string key, .agg a.A] w (fun e w' => ∃ v, e = .returned v ∧ SliceF (texts hf key a) v w' ∧ Later w w') := fun w => (texts_calls H key a hk hva hpa w).mono fun _ _ h => h.fact
  have Cb : ∀ w : World, Calls Try.prog 64 #[.func (.func f) #[] #[], .string key, .agg b.A] w (fun e w' => ∃ v, e = .returned v ∧ SliceF (texts hf key b) v w' ∧ Later w w') := fun w => (texts_calls H key b hk hvb hpb w).mono fun _ _ h => h.fact
  obtain ⟨v, hv⟩ : ∃ v, valuesC hf root key a b = v := ⟨_, rfl⟩
  have hv' := hv
  unfold valuesC at hv'
  have la := fun l => @texts_len hf key a l
  have lb := fun l => @texts_len hf key b l
  have sa := fun l => @texts_size hf H.size key a l
  have sb := fun l => @texts_size hf H.size key b l
  rw [hv]
  clear hv
  obtain ⟨tha, vaa, pra⟩ := a
  obtain ⟨thb, vab, prb⟩ := b
  simp only [An.A] at *
  replace Ca := Lib.hid Ca
  replace Cb := Lib.hid Cb
  obtain ⟨W0, hW0⟩ : ∃ W0, ((w.alloc (.cells #[.bool tha, .string vaa, .string pra] 23)).alloc (.cells #[.bool thb, .string vab, .string prb] 23)).alloc (.cells #[.string ⟨#[]⟩, .string ⟨#[]⟩] 31) = W0 := ⟨_, rfl⟩
  have hA : Whole W0 w.heap.size 23 #[.bool tha, .string vaa, .string pra] := by rw [← hW0]; exact ((Whole.new w _ _).alloc _).alloc _
  have hA2 : Whole W0 (w.heap.size + 1) 23 #[.bool thb, .string vab, .string prb] := by rw [← hW0]; exact (Whole.new1 w _ _ _).alloc _
  have hP : Whole W0 (w.heap.size + 1 + 1) 31 #[.string ⟨#[]⟩, .string ⟨#[]⟩] := by rw [← hW0]; exact Whole.new2 w _ _ _ _
  have hB : Later w W0 := by rw [← hW0]; exact (((Later.refl w).alloc _).alloc _).alloc _
  go_enter Try.func43, Try.ntmps43
  go_upto_region 1 with (fail)
  try rw [hW0]
  clear hW0
  refine wp_region_grow 8 87 (by kernel_rfl) (by kernel_rfl) rfl (fun w3 hl3 => ?_)
  simp only [List.take_succ_cons, List.take_zero, List.drop_succ_cons, List.drop_zero]
  generalize ha : Act.mk _ _ = a0
  have k0 : a0.eval (.tmp 0) = .func (.func f) #[] #[] := by subst ha; rfl
  have k2 : a0.eval (.tmp 2) = .string key := by subst ha; rfl
  have k8 : a0.eval (.tmp 8) = .pointer (some ⟨w.heap.size, 0, none⟩) := by subst ha; rfl
  have k9 : a0.eval (.tmp 9) = .pointer (some ⟨w.heap.size + 1, 0, none⟩) := by subst ha; rfl
  have ks : a0.tmps.size = 87 := by subst ha; rfl
  have ha0 := ha.symm
  clear ha
  refine wpG_move (fun a w hk => (hk 0 rfl : a.eval (.tmp 0) = a0.eval (.tmp 0)).trans k0) ?_
  refine wpG_move (fun a w hk => (hk 2 rfl : a.eval (.tmp 2) = a0.eval (.tmp 2)).trans k2) ?_
  refine wpG_loadW (hl3.whole hA) Try.underlying23 rfl (by first | kernel_rfl | assumption) (fun a w hk => (hk 8 rfl : a.eval (.tmp 8) = a0.eval (.tmp 8)).trans k8) ?_
  refine wpG_callF (SliceF (texts hf key ⟨tha, vaa, pra⟩)) (SliceF.later _) Try.func64 (by kernel_rfl) (by kernel_rfl) (fun a wx hlx hk => by have e15 : a.eval (.tmp 15) = _ := hk 15 rfl; have e16 : a.eval (.tmp 16) = _ := hk 16 rfl; have e17 : a.eval (.tmp 17) = _ := hk 17 rfl; simp only [List.map_toArray, List.map_cons, List.map_nil, e15, e16, e17]; exact Ca.out _) ?_
  refine wpG_move (fun a w hk => (hk 0 rfl : a.eval (.tmp 0) = a0.eval (.tmp 0)).trans k0) ?_
  refine wpG_move (fun a w hk => (hk 2 rfl : a.eval (.tmp 2) = a0.eval (.tmp 2)).trans k2) ?_
  refine wpG_loadW (hl3.whole hA2) Try.underlying23 rfl (by first | kernel_rfl | assumption) (fun a w hk => (hk 9 rfl : a.eval (.tmp 9) = a0.eval (.tmp 9)).trans k9) ?_
  refine wpG_callF (SliceF (texts hf key ⟨thb, vab, prb⟩)) (SliceF.later _) Try.func64 (by kernel_rfl) (by kernel_rfl) (fun a wx hlx hk => by have e19 : a.eval (.tmp 19) = _ := hk 19 rfl; have e20 : a.eval (.tmp 20) = _ := hk 20 rfl; have e21 : a.eval (.tmp 21) = _ := hk 21 rfl; simp only [List.map_toArray, List.map_cons, List.map_nil, e19, e20, e21]; exact Cb.out _) ?_
  refine wpG_nil (fun w3' hl3' => ?_)
  refine fin_is ?_
  refine fin_is ?_
  refine fin_is ?_
  refine fin_some (fun v18 hv18 => ?_)
  refine fin_is ?_
  refine fin_is ?_
  refine fin_is ?_
  refine fin_some (fun v22 hv22 => ?_)
  refine fin_nil ?_
  have hl := hl3.trans hl3'
  replace hA := hl.whole hA
  replace hA2 := hl.whole hA2
  replace hP := hl.whole hP
  replace hB := hB.trans hl
  subst ha0
  clear k0 k2 k8 k9 ks hl hl3 hl3' Ca Cb
  generalize w3' = W1 at *
  go_upto_region 2 with (fail)
  cases hta : texts hf key ⟨tha, vaa, pra⟩ with
  | none =>
    rw [hta] at hv18 hv'
    obtain rfl : v18 = _ := hv18
    obtain rfl : none = v := hv'
    clear hv22 la lb sa sb hta
    have p0 := hP.cell 0
    have p1 := hP.cell 1
    have q0 := hP.frozen 0
    have q1 := hP.frozen 1
    have hP2 := (hP.put' 0 (.string ⟨#[]⟩) rfl).put' 1 (.string ⟨#[]⟩) rfl
    have hB2 : Later w _ := (hB.setCell (p := ⟨w.heap.size + 1 + 1, 0, none⟩) (by simp; omega) (.string ⟨#[]⟩)).setCell (p := ⟨w.heap.size + 1 + 1, 1, none⟩) (by simp; omega) (.string ⟨#[]⟩)
    go_wp2_with (fail)
    refine bodyPost_ret (res_cell_tmp rfl _ _ _ _ _ _ rfl hP2 Try.underlying31 rfl (by kernel_rfl)) rfl ?_
    go_light
    exact ⟨rfl, hB2⟩
  | some x =>
    cases htb : texts hf key ⟨thb, vab, prb⟩ with
    | none =>
      rw [hta] at hv18
      rw [htb] at hv22
      rw [hta, htb] at hv'
      obtain ⟨g1, rfl, hX⟩ := hv18
      obtain rfl : v22 = _ := hv22
      obtain rfl : none = v := hv'
      clear la lb sa sb hta htb
      have p0 := hP.cell 0
      have p1 := hP.cell 1
      have q0 := hP.frozen 0
      have q1 := hP.frozen 1
      have hP2 := (hP.put' 0 (.string ⟨#[]⟩) rfl).put' 1 (.string ⟨#[]⟩) rfl
      have hB2 : Later w _ := (hB.setCell (p := ⟨w.heap.size + 1 + 1, 0, none⟩) (by simp; omega) (.string ⟨#[]⟩)).setCell (p := ⟨w.heap.size + 1 + 1, 1, none⟩) (by simp; omega) (.string ⟨#[]⟩)
      go_wp2_with (fail)
      refine bodyPost_ret (res_cell_tmp rfl _ _ _ _ _ _ rfl hP2 Try.underlying31 rfl (by kernel_rfl)) rfl ?_
      go_light
      exact ⟨rfl, hB2⟩
    | some y =>
      rw [hta] at hv18
      rw [htb] at hv22
      rw [hta, htb] at hv'
      obtain ⟨g1, rfl, hX⟩ := hv18
      obtain ⟨g2, rfl, hY⟩ := hv22
      have lx := la x hta
      have ly := lb y htb
      have sx := sa x hta
      have sy := sb y htb
      clear la lb sa sb hta htb
      have cx := sarr_cell hX (i := 0) (by rw [lx]; decide)
      have cy := sarr_cell hY (i := 0) (by rw [ly]; decide)
      have Hx := fun w => H.calls (x.getD 0 ByteArray.empty) w (by have := sx 0; omega)
      have Hy := fun w => H.calls (y.getD 0 ByteArray.empty) w (by have := sy 0; omega)
      have En := H.enters
      rw [lx, ly]
      simp only at hv'
      obtain ⟨x0, hx0⟩ : ∃ t, x.getD 0 ByteArray.empty = t := ⟨_, rfl⟩
      obtain ⟨y0, hy0⟩ : ∃ t, y.getD 0 ByteArray.empty = t := ⟨_, rfl⟩
      rw [hx0] at cx Hx hv'
      rw [hy0] at cy Hy hv'
      replace hx0 := Lib.hid hx0
      replace hy0 := Lib.hid hy0
      replace Hx := Lib.hid Hx
      replace Hy := Lib.hid Hy
      replace lx := Lib.hid lx
      replace ly := Lib.hid ly
      replace hv' := Lib.hid hv'
      clear H
      have c0 := hA.cell 0
      have c1 := hA.cell 1
      have d0 := hA2.cell 0
      have d1 := hA2.cell 1
      by_cases h1 : hf x0 = root
      · by_cases h2 : hf y0 = root
        · have h1' := beqT h1
          have h2' := beqT h2
          replace h1 := Lib.hid h1
          replace h2 := Lib.hid h2
          by_cases h3 : tha = thb ∧ vaa = vab
          · have hv2 := hv'.out
            rw [if_neg (fun q => q.2.2 h3)] at hv2
            obtain rfl : none = v := hv2
            clear hv'
            obtain ⟨rfl, rfl⟩ := h3
            go_wp2_with (first | ((with_reducible refine (Hx.out _).mono ?_); rintro e wH ⟨rfl, hlH⟩; replace c0 := hlH.cell c0; replace c1 := hlH.cell c1; replace d0 := hlH.cell d0; replace d1 := hlH.cell d1; replace cy := hlH.cell cy; replace hP := hlH.whole hP; replace hB := hB.trans hlH; have p0 := hP.cell 0; have p1 := hP.cell 1; have q0 := hP.frozen 0; have q1 := hP.frozen 1; have hP2 := (hP.put' 0 (.string ⟨#[]⟩) rfl).put' 1 (.string ⟨#[]⟩) rfl; have hB2 : Later w _ := (hB.setCell (p := ⟨w.heap.size + 1 + 1, 0, none⟩) (by simp; omega) (.string ⟨#[]⟩)).setCell (p := ⟨w.heap.size + 1 + 1, 1, none⟩) (by simp; omega) (.string ⟨#[]⟩)) | ((with_reducible refine (Hy.out _).mono ?_); rintro e wH2 ⟨rfl, hlH⟩; replace c0 := hlH.cell c0; replace c1 := hlH.cell c1; replace d0 := hlH.cell d0; replace d1 := hlH.cell d1; replace cy := hlH.cell cy; replace hP := hlH.whole hP; replace hB := hB.trans hlH; have p0 := hP.cell 0; have p1 := hP.cell 1; have q0 := hP.frozen 0; have q1 := hP.frozen 1; have hP2 := (hP.put' 0 (.string ⟨#[]⟩) rfl).put' 1 (.string ⟨#[]⟩) rfl; have hB2 : Later w _ := (hB.setCell (p := ⟨w.heap.size + 1 + 1, 0, none⟩) (by simp; omega) (.string ⟨#[]⟩)).setCell (p := ⟨w.heap.size + 1 + 1, 1, none⟩) (by simp; omega) (.string ⟨#[]⟩)))
            refine bodyPost_ret (res_cell_tmp rfl _ _ _ _ _ _ rfl hP2 Try.underlying31 rfl (by kernel_rfl)) rfl ?_
            go_light
            exact ⟨rfl, hB2⟩
          · have hv2 := hv'.out
            rw [if_pos ⟨h1.out, h2.out, h3⟩] at hv2
            clear hv'
            go_cut [60] (fun p wc => p = .bool false ∧ Later W1 wc)
            case first =>
              have hL := Later.refl W1
              by_cases ht : tha = thb
              · have hn : ¬ vaa = vab := fun q => h3 ⟨ht, q⟩
                have hn' := beqF hn
                subst ht
                clear h3
                replace hn := Lib.hid hn
                go_wp2_with (first | ((with_reducible refine (Hx.out _).mono ?_); rintro e wH ⟨rfl, hlH⟩; replace c0 := hlH.cell c0; replace c1 := hlH.cell c1; replace d0 := hlH.cell d0; replace d1 := hlH.cell d1; replace cy := hlH.cell cy; replace hL := hL.trans hlH) | ((with_reducible refine (Hy.out _).mono ?_); rintro e wH2 ⟨rfl, hlH⟩; replace c0 := hlH.cell c0; replace c1 := hlH.cell c1; replace d0 := hlH.cell d0; replace d1 := hlH.cell d1; replace cy := hlH.cell cy; replace hL := hL.trans hlH))
                go_meet
                exact ⟨rfl, hL⟩
              · have ht' : (tha == thb) = false := by simpa using ht
                clear h3
                go_wp2_with (first | ((with_reducible refine (Hx.out _).mono ?_); rintro e wH ⟨rfl, hlH⟩; replace c0 := hlH.cell c0; replace c1 := hlH.cell c1; replace d0 := hlH.cell d0; replace d1 := hlH.cell d1; replace cy := hlH.cell cy; replace hL := hL.trans hlH) | ((with_reducible refine (Hy.out _).mono ?_); rintro e wH2 ⟨rfl, hlH⟩; replace c0 := hlH.cell c0; replace c1 := hlH.cell c1; replace d0 := hlH.cell d0; replace d1 := hlH.cell d1; replace cy := hlH.cell cy; replace hL := hL.trans hlH))
                go_meet
                exact ⟨rfl, hL⟩
            case rest =>
              obtain ⟨rfl, hL⟩ := hcut
              clear cx cy c0 c1 d0 d1 Hx Hy h1' h2' hA hA2 h1 h2 h3 hx0 hy0 En hnil
              replace hX := hL.whole hX
              replace hY := hL.whole hY
              replace hP := hL.whole hP
              replace hB := hB.trans hL
              clear hL
              replace hv2 := Lib.hid hv2
              go_wp2_with (fail)
              go_loopg [64, 14] 258 (fun kg i dd wr => ∃ (j : Nat), j ≤ 257 ∧ kg = 258 - j ∧ i = .int .i64 j ∧ firstD x y (257 - j) j = v ∧ Whole wr g1 9 (sarr x) ∧ Whole wr g2 9 (sarr y) ∧ Whole wr (w.heap.size + 1 + 1) 31 #[.string ⟨#[]⟩, .string ⟨#[]⟩] ∧ Later w wr)
              case atStart => exact ⟨0, Nat.zero_le _, rfl, rfl, hv2.out, hX, hY, hP, hB⟩
              case round =>
                clear hX hY hP hB hv2
                obtain ⟨j, hj, hkg, rfl, hfd, hX, hY, hP, hB⟩ := hrel
                replace hkg := Lib.hid hkg
                by_cases hlt : j < 257
                · obtain ⟨q, hq⟩ : ∃ q, 257 - j = q + 1 := ⟨256 - j, by omega⟩
                  rw [hq] at hfd
                  simp only [firstD] at hfd
                  have cx := sarr_cell hX (i := j) (by rw [lx.out]; omega)
                  have cy := sarr_cell hY (i := j) (by rw [ly.out]; omega)
                  obtain ⟨X, hXj⟩ : ∃ t, x.getD j ByteArray.empty = t := ⟨_, rfl⟩
                  obtain ⟨Y, hYj⟩ : ∃ t, y.getD j ByteArray.empty = t := ⟨_, rfl⟩
                  rw [hXj] at cx hfd
                  rw [hYj] at cy hfd
                  replace hXj := Lib.hid hXj
                  replace hYj := Lib.hid hYj
                  have q1 : (0 : Int) ≤ (j : Int) := by omega
                  have q2 : (j : Int) < 257 := by omega
                  have hnext : 257 - (j + 1) = q := by omega
                  replace hq := Lib.hid hq
                  replace hnext := Lib.hid hnext
                  by_cases he : X = Y
                  · rw [if_pos he] at hfd
                    have he' := beqT he
                    replace he := Lib.hid he
                    replace hfd := Lib.hid hfd
                    go_upto_region 7 with (fail)
                    have cx' : wr.drew.cell? ⟨g1, j, none⟩ = some (.string X) := cx
                    have cy' : wr.drew.cell? ⟨g2, j, none⟩ = some (.string Y) := cy
                    refine wp_region_still_lit (by kernel_rfl) (by kernel_rfl) ?_
                    rw [show ({ wr with drawn := wr.drawn + 1 } : World) = wr.drew from rfl]
                    repeat still_step
                    refine wpStill_nil ?_
                    have hl := (Later.refl wr).drew
                    clear cx' cy'
                    replace hX := hl.whole hX
                    replace hY := hl.whole hY
                    replace hP := hl.whole hP
                    replace hB := hB.trans hl
                    clear hl cx cy
                    generalize wr.drew = W7 at *
                    go_wp2_with (fail)
                    go_roundg (257 - j)
                    case measure => go_light; rw [hkg.out]; omega
                    case rel => go_light; exact ⟨j + 1, by omega, by omega, by go_num, by rw [hnext.out]; exact hfd.out, hX, hY, hP, hB⟩
                  · rw [if_neg he] at hfd
                    obtain rfl : some (X, Y) = v := hfd
                    have he' := beqF he
                    replace he := Lib.hid he
                    go_upto_region 7 with (fail)
                    have cx' : wr.drew.cell? ⟨g1, j, none⟩ = some (.string X) := cx
                    have cy' : wr.drew.cell? ⟨g2, j, none⟩ = some (.string Y) := cy
                    refine wp_region_still_lit (by kernel_rfl) (by kernel_rfl) ?_
                    rw [show ({ wr with drawn := wr.drawn + 1 } : World) = wr.drew from rfl]
                    repeat still_step
                    refine wpStill_nil ?_
                    have hl := (Later.refl wr).drew
                    clear cx' cy'
                    replace cx := hl.cell cx
                    replace cy := hl.cell cy
                    replace hP := hl.whole hP
                    replace hB := hB.trans hl
                    clear hl hX hY
                    generalize wr.drew = W7 at *
                    go_upto_region 8 with (fail)
                    refine wp_region_grow 9 87 (by kernel_rfl) (by kernel_rfl) rfl (fun w6 hl6 => ?_)
                    simp only [List.take_succ_cons, List.take_zero, List.drop_succ_cons, List.drop_zero]
                    generalize ha : Act.mk _ _ = a0
                    have k12 : a0.eval (.tmp 12) = .slice (some ⟨g1, 0, none⟩) 257 257 := by subst ha; rfl
                    have k13 : a0.eval (.tmp 13) = .slice (some ⟨g2, 0, none⟩) 257 257 := by subst ha; rfl
                    have k14 : a0.eval (.tmp 14) = .int .i64 j := by subst ha; rfl
                    have ks : a0.tmps.size = 87 := by subst ha; rfl
                    have ha0 := ha.symm
                    clear ha
                    refine wpG_move (fun a w hk => (hk 12 rfl : a.eval (.tmp 12) = a0.eval (.tmp 12)).trans k12) ?_
                    refine wpG_move (fun a w hk => (hk 14 rfl : a.eval (.tmp 14) = a0.eval (.tmp 14)).trans k14) ?_
                    apply wpG_value'
                    · rfl
                    · (intro a wx hlx hk K hK; have e76 : a.eval (.tmp 76) = _ := hk 76 rfl; have e77 : a.eval (.tmp 77) = _ := hk 77 rfl; simp only [execOp, e76, e77]; clear e76 e77 hk; go_simp; exact hK)
                    refine wpG_load1 (hl6.cell cx) Try.underlying9 rfl (fun a w hk => hk 78 rfl) ?_
                    refine wpG_move (fun a w hk => (hk 13 rfl : a.eval (.tmp 13) = a0.eval (.tmp 13)).trans k13) ?_
                    refine wpG_move (fun a w hk => (hk 14 rfl : a.eval (.tmp 14) = a0.eval (.tmp 14)).trans k14) ?_
                    apply wpG_value'
                    · rfl
                    · (intro a wx hlx hk K hK; have e80 : a.eval (.tmp 80) = _ := hk 80 rfl; have e81 : a.eval (.tmp 81) = _ := hk 81 rfl; simp only [execOp, e80, e81]; clear e80 e81 hk; go_simp; exact hK)
                    refine wpG_load1 (hl6.cell cy) Try.underlying9 rfl (fun a w hk => hk 82 rfl) ?_
                    apply wpG_value'
                    · rfl
                    · (intro a wx hlx hk K hK; have e79 : a.eval (.tmp 79) = _ := hk 79 rfl; have e83 : a.eval (.tmp 83) = _ := hk 83 rfl; simp only [execOp, resolve, List.map_toArray, List.map_cons, List.map_nil, Option.map_some, Option.map_none, e79, e83]; clear e79 e83 hk; go_simp; exact hK)
                    refine wpG_nil (fun w6' hl6' => ?_)
                    refine fin_is ?_
                    refine fin_is ?_
                    refine fin_is ?_
                    refine fin_is ?_
                    refine fin_is ?_
                    refine fin_is ?_
                    refine fin_is ?_
                    refine fin_is ?_
                    refine fin_is ?_
                    refine fin_nil ?_
                    have hl := hl6.trans hl6'
                    replace hP := hl.whole hP
                    replace hB := hB.trans hl
                    subst ha0
                    clear k12 k13 k14 ks hl hl6 cx cy
                    have p0 := hP.cell 0
                    have p1 := hP.cell 1
                    have q0 := hP.frozen 0
                    have q1 := hP.frozen 1
                    have hP2 := (hP.put' 0 (.string X) rfl).put' 1 (.string Y) rfl
                    have hB2 : Later w _ := (hB.setCell (p := ⟨w.heap.size + 1 + 1, 0, none⟩) (by simp; omega) (.string X)).setCell (p := ⟨w.heap.size + 1 + 1, 1, none⟩) (by simp; omega) (.string Y)
                    go_wp2_with (fail)
                    refine bodyPost_ret (res_cell_tmp rfl _ _ _ _ _ _ rfl hP2 Try.underlying31 rfl (by kernel_rfl)) rfl ?_
                    go_light
                    exact ⟨rfl, hB2⟩
                · obtain rfl : j = 257 := by omega
                  obtain rfl : none = v := hfd
                  have p0 := hP.cell 0
                  have p1 := hP.cell 1
                  have q0 := hP.frozen 0
                  have q1 := hP.frozen 1
                  have hP2 := (hP.put' 0 (.string ⟨#[]⟩) rfl).put' 1 (.string ⟨#[]⟩) rfl
                  have hB2 : Later w _ := (hB.setCell (p := ⟨w.heap.size + 1 + 1, 0, none⟩) (by simp; omega) (.string ⟨#[]⟩)).setCell (p := ⟨w.heap.size + 1 + 1, 1, none⟩) (by simp; omega) (.string ⟨#[]⟩)
                  go_wp2_with (fail)
                  refine bodyPost_ret (res_cell_tmp rfl _ _ _ _ _ _ rfl hP2 Try.underlying31 rfl (by kernel_rfl)) rfl ?_
                  go_light
                  exact ⟨rfl, hB2⟩
        · have h1' := beqT h1
          have h2' := beqF h2
          have hv2 := hv'.out
          rw [if_neg (fun q => h2 q.2.1)] at hv2
          obtain rfl : none = v := hv2
          clear hv'
          replace h1 := Lib.hid h1
          replace h2 := Lib.hid h2
          go_wp2_with (first | ((with_reducible refine (Hx.out _).mono ?_); rintro e wH ⟨rfl, hlH⟩; replace cy := hlH.cell cy; replace hP := hlH.whole hP; replace hB := hB.trans hlH) | ((with_reducible refine (Hy.out _).mono ?_); rintro e wH2 ⟨rfl, hlH⟩; replace hP := hlH.whole hP; replace hB := hB.trans hlH; have p0 := hP.cell 0; have p1 := hP.cell 1; have q0 := hP.frozen 0; have q1 := hP.frozen 1; have hP2 := (hP.put' 0 (.string ⟨#[]⟩) rfl).put' 1 (.string ⟨#[]⟩) rfl; have hB2 : Later w _ := (hB.setCell (p := ⟨w.heap.size + 1 + 1, 0, none⟩) (by simp; omega) (.string ⟨#[]⟩)).setCell (p := ⟨w.heap.size + 1 + 1, 1, none⟩) (by simp; omega) (.string ⟨#[]⟩)))
          refine bodyPost_ret (res_cell_tmp rfl _ _ _ _ _ _ rfl hP2 Try.underlying31 rfl (by kernel_rfl)) rfl ?_
          go_light
          exact ⟨rfl, hB2⟩
      · have h1' := beqF h1
        have hv2 := hv'.out
        rw [if_neg (fun q => h1 q.1)] at hv2
        obtain rfl : none = v := hv2
        clear hv'
        replace h1 := Lib.hid h1
        go_wp2_with (((with_reducible refine (Hx.out _).mono ?_); rintro e wH ⟨rfl, hlH⟩; replace hP := hlH.whole hP; replace hB := hB.trans hlH; have p0 := hP.cell 0; have p1 := hP.cell 1; have q0 := hP.frozen 0; have q1 := hP.frozen 1; have hP2 := (hP.put' 0 (.string ⟨#[]⟩) rfl).put' 1 (.string ⟨#[]⟩) rfl; have hB2 : Later w _ := (hB.setCell (p := ⟨w.heap.size + 1 + 1, 0, none⟩) (by simp; omega) (.string ⟨#[]⟩)).setCell (p := ⟨w.heap.size + 1 + 1, 1, none⟩) (by simp; omega) (.string ⟨#[]⟩)))
        refine bodyPost_ret (res_cell_tmp rfl _ _ _ _ _ _ rfl hP2 Try.underlying31 rfl (by kernel_rfl)) rfl ?_
        go_light
        exact ⟨rfl, hB2⟩
end Go.Proofs.Ytadmpaeblbddgaa
