/- The law ClashValues, walked. No conditions. -/
import Derived.Test.YtadmpaeblbddgaaClash6
namespace Go.Proofs.Ytadmpaeblbddgaa
open Go.RowKit
set_option linter.unusedVariables false
set_option linter.unusedSimpArgs false
theorem firstD_size {x y : List ByteArray} (hx : ∀ j, (x.getD j ByteArray.empty).size ≤ 600) (hy : ∀ j, (y.getD j ByteArray.empty).size ≤ 600) : ∀ (n i : Nat) (p q : ByteArray), firstD x y n i = some (p, q) → p.size ≤ 600 ∧ q.size ≤ 600
  | 0, i, p, q, h => by cases h
  | n + 1, i, p, q, h => by
    rw [firstD] at h
    split at h
    · exact firstD_size hx hy n (i + 1) p q h
    · simp only [Option.some.injEq, Prod.mk.injEq] at h
      rw [← h.1, ← h.2]
      exact ⟨hx i, hy i⟩
theorem values_size {hf : ByteArray → ByteArray} (hh : ∀ s, (hf s).size = 32) {root key : ByteArray} {a b : An} {p q : ByteArray} (h : valuesC hf root key a b = some (p, q)) : p.size ≤ 600 ∧ q.size ≤ 600 := by
  unfold valuesC at h
  cases ha : texts hf key a with
  | none => rw [ha] at h; cases h
  | some x =>
    cases hb : texts hf key b with
    | none => rw [ha, hb] at h; cases h
    | some y =>
      rw [ha, hb] at h
      simp only at h
      split at h
      · exact firstD_size (texts_size hh ha) (texts_size hh hb) _ _ _ _ h
      · cases h
def wantB (oka okb : Bool) (ra rb : ByteArray) (tha thb : Bool) (vaa vab : ByteArray) : Bool := (oka && okb) && decide (ra = rb) && !(decide (tha = thb) && decide (vaa = vab))
set_option maxHeartbeats 2000000 in
set_option maxRecDepth 100000 in
theorem clashValues_big (k : Nat) (key : ByteArray) (a b : An) (hf : (fewC key a && fewC key b) = false) (w : World) :
    Calls Try.prog 4 #[.int .u8 k, .string key, .agg (a.A ++ b.A)] w fun e w' => e = .returned (.bool true) ∧ Later w w' := by
  have Aw := fun w => awake09_calls w
  have Fa := fun w => few09_calls key a w
  have Fb := fun w => few09_calls key b w
  obtain ⟨fa, hfa⟩ : ∃ f, fewC key a = f := ⟨_, rfl⟩
  obtain ⟨fb, hfb⟩ : ∃ f, fewC key b = f := ⟨_, rfl⟩
  rw [hfa] at Fa hf
  rw [hfb] at Fb hf
  clear hfa hfb
  obtain ⟨tha, vaa, pra⟩ := a
  obtain ⟨thb, vab, prb⟩ := b
  simp only [An.A] at *
  rw [show (#[Value.bool tha, .string vaa, .string pra] ++ #[Value.bool thb, .string vab, .string prb] : Array Value) = #[.bool tha, .string vaa, .string pra, .bool thb, .string vab, .string prb] from rfl]
  have hw := Whole.new w 29 #[.bool tha, .string vaa, .string pra, .bool thb, .string vab, .string prb]
  have hB : Later w (w.alloc (.cells #[.bool tha, .string vaa, .string pra, .bool thb, .string vab, .string prb] 29)) := (Later.refl w).alloc _
  replace Aw := Lib.hid Aw
  replace Fa := Lib.hid Fa
  replace Fb := Lib.hid Fb
  cases fa
  · go_enter Try.func4, Try.ntmps4
    go_upto_region 1 with (fail)
    generalize w.alloc (.cells #[.bool tha, .string vaa, .string pra, .bool thb, .string vab, .string prb] 29) = W0 at *
    have c0 : W0.cell? ⟨w.heap.size, 0, none⟩ = some (.bool tha) := hw.cell 0
    have c1 : W0.cell? ⟨w.heap.size, 1, none⟩ = some (.string vaa) := hw.cell 1
    have c2 : W0.cell? ⟨w.heap.size, 2, none⟩ = some (.string pra) := hw.cell 2
    have c3 : W0.cell? ⟨w.heap.size, 3, none⟩ = some (.bool thb) := hw.cell 3
    have c4 : W0.cell? ⟨w.heap.size, 4, none⟩ = some (.string vab) := hw.cell 4
    have c5 : W0.cell? ⟨w.heap.size, 5, none⟩ = some (.string prb) := hw.cell 5
    go_wp2_with (first | ((with_reducible refine (Aw.out _).mono ?_); rintro e wT ⟨rfl, hlT⟩; replace c0 := Later.cell hlT c0; replace c1 := Later.cell hlT c1; replace c2 := Later.cell hlT c2; replace c3 := Later.cell hlT c3; replace c4 := Later.cell hlT c4; replace c5 := Later.cell hlT c5; replace hB := hB.trans hlT) | ((with_reducible refine (Fa.out _).mono ?_); rintro e wT ⟨rfl, hlT⟩; replace c0 := Later.cell hlT c0; replace c1 := Later.cell hlT c1; replace c2 := Later.cell hlT c2; replace c3 := Later.cell hlT c3; replace c4 := Later.cell hlT c4; replace c5 := Later.cell hlT c5; replace hB := hB.trans hlT) | ((with_reducible refine (Fb.out _).mono ?_); rintro e wT ⟨rfl, hlT⟩; replace c0 := Later.cell hlT c0; replace c1 := Later.cell hlT c1; replace c2 := Later.cell hlT c2; replace c3 := Later.cell hlT c3; replace c4 := Later.cell hlT c4; replace c5 := Later.cell hlT c5; replace hB := hB.trans hlT))
    go_returns
    go_light
    exact ⟨rfl, hB⟩
  · obtain rfl : fb = false := by simpa using hf
    go_enter Try.func4, Try.ntmps4
    go_upto_region 1 with (fail)
    generalize w.alloc (.cells #[.bool tha, .string vaa, .string pra, .bool thb, .string vab, .string prb] 29) = W0 at *
    have c0 : W0.cell? ⟨w.heap.size, 0, none⟩ = some (.bool tha) := hw.cell 0
    have c1 : W0.cell? ⟨w.heap.size, 1, none⟩ = some (.string vaa) := hw.cell 1
    have c2 : W0.cell? ⟨w.heap.size, 2, none⟩ = some (.string pra) := hw.cell 2
    have c3 : W0.cell? ⟨w.heap.size, 3, none⟩ = some (.bool thb) := hw.cell 3
    have c4 : W0.cell? ⟨w.heap.size, 4, none⟩ = some (.string vab) := hw.cell 4
    have c5 : W0.cell? ⟨w.heap.size, 5, none⟩ = some (.string prb) := hw.cell 5
    go_wp2_with (first | ((with_reducible refine (Aw.out _).mono ?_); rintro e wT ⟨rfl, hlT⟩; replace c0 := Later.cell hlT c0; replace c1 := Later.cell hlT c1; replace c2 := Later.cell hlT c2; replace c3 := Later.cell hlT c3; replace c4 := Later.cell hlT c4; replace c5 := Later.cell hlT c5; replace hB := hB.trans hlT) | ((with_reducible refine (Fa.out _).mono ?_); rintro e wT ⟨rfl, hlT⟩; replace c0 := Later.cell hlT c0; replace c1 := Later.cell hlT c1; replace c2 := Later.cell hlT c2; replace c3 := Later.cell hlT c3; replace c4 := Later.cell hlT c4; replace c5 := Later.cell hlT c5; replace hB := hB.trans hlT) | ((with_reducible refine (Fb.out _).mono ?_); rintro e wT ⟨rfl, hlT⟩; replace c0 := Later.cell hlT c0; replace c1 := Later.cell hlT c1; replace c2 := Later.cell hlT c2; replace c3 := Later.cell hlT c3; replace c4 := Later.cell hlT c4; replace c5 := Later.cell hlT c5; replace hB := hB.trans hlT))
    go_returns
    go_light
    exact ⟨rfl, hB⟩
set_option maxHeartbeats 4000000 in
set_option maxRecDepth 100000 in
theorem clashValues_few (k : Nat) (hk : k < 256) (key : ByteArray) (a b : An) (ha : fewC key a = true) (hb : fewC key b = true) (w : World) :
    Calls Try.prog 4 #[.int .u8 k, .string key, .agg (a.A ++ b.A)] w fun e w' => e = .returned (.bool true) ∧ Later w w' := by
  have Aw := fun w => awake09_calls w
  have Fa := fun w => few09_calls key a w
  have Fb := fun w => few09_calls key b w
  rw [ha] at Fa
  rw [hb] at Fb
  simp only [fewC, Bool.and_eq_true, decide_eq_true_eq] at ha hb
  have Ra := fun w => root09_calls k hk key a (by omega) (by omega) (by omega) w
  have Rb := fun w => root09_calls k hk key b (by omega) (by omega) (by omega) w
  have V := fun w => lvalues_calls k hk (rootC (hfOf k) key a).1 key a b (by omega) (by omega) (by omega) (by omega) (by omega) w
  have hl := values_law (hfOf_size k) key a b
  have hwant : wantC (hfOf k) key a b = wantB (rootC (hfOf k) key a).2 (rootC (hfOf k) key b).2 (rootC (hfOf k) key a).1 (rootC (hfOf k) key b).1 a.there b.there a.value b.value := rfl
  rw [hwant] at hl
  clear hwant ha hb
  have hCC : ∀ p q, valuesC (hfOf k) (rootC (hfOf k) key a).1 key a b = some (p, q) → p ≠ q → hfOf k p = hfOf k q → ∀ w, Calls Try.prog 18 #[.int .u8 k, .agg #[.string p, .string q]] w (fun e w' => e = .returned (.bool true) ∧ Later w w') := fun p q h h1 h2 w => by
    obtain ⟨s1, s2⟩ := values_size (hfOf_size k) h
    exact collides_calls k hk p q (by omega) (by omega) h1 h2 w
  obtain ⟨v, hv⟩ : ∃ v, valuesC (hfOf k) (rootC (hfOf k) key a).1 key a b = v := ⟨_, rfl⟩
  rw [hv] at V hl
  simp only [hv] at hCC
  clear hv
  replace hl : (wantB (rootC (hfOf k) key a).2 (rootC (hfOf k) key b).2 (rootC (hfOf k) key a).1 (rootC (hfOf k) key b).1 a.there b.there a.value b.value = true ∧ ∃ p q, v = some (p, q) ∧ ∀ w, Calls Try.prog 18 #[.int .u8 k, .agg #[.string p, .string q]] w (fun e w' => e = .returned (.bool true) ∧ Later w w')) ∨ (wantB (rootC (hfOf k) key a).2 (rootC (hfOf k) key b).2 (rootC (hfOf k) key a).1 (rootC (hfOf k) key b).1 a.there b.there a.value b.value = false ∧ v = none) := by
    rcases hl with ⟨h1, p, q, h2, h3, h4⟩ | h
    · exact .inl ⟨h1, p, q, h2, hCC p q h2 h3 h4⟩
    · exact .inr h
  clear hCC
  obtain ⟨xa, hxa⟩ : ∃ x, rootC (hfOf k) key a = x := ⟨_, rfl⟩
  obtain ⟨xb, hxb⟩ : ∃ x, rootC (hfOf k) key b = x := ⟨_, rfl⟩
  rw [hxa] at hl V Ra
  rw [hxb] at hl Rb
  clear hxa hxb
  obtain ⟨ra, oka⟩ := xa
  obtain ⟨rb, okb⟩ := xb
  obtain ⟨tha, vaa, pra⟩ := a
  obtain ⟨thb, vab, prb⟩ := b
  simp only [An.A] at *
  rw [show (#[Value.bool tha, .string vaa, .string pra] ++ #[Value.bool thb, .string vab, .string prb] : Array Value) = #[.bool tha, .string vaa, .string pra, .bool thb, .string vab, .string prb] from rfl]
  have hw := Whole.new w 29 #[.bool tha, .string vaa, .string pra, .bool thb, .string vab, .string prb]
  have hB : Later w (w.alloc (.cells #[.bool tha, .string vaa, .string pra, .bool thb, .string vab, .string prb] 29)) := (Later.refl w).alloc _
  obtain ⟨P0, P1, hpa⟩ : ∃ P0 P1 : ByteArray, pairA v = #[.string P0, .string P1] := by cases v with | none => exact ⟨_, _, rfl⟩ | some x => exact ⟨_, _, rfl⟩
  rw [hpa] at V
  obtain ⟨vb, hvb⟩ : ∃ x, v.isSome = x := ⟨_, rfl⟩
  rw [hvb] at V
  replace hpa := Lib.hid hpa
  replace hvb := Lib.hid hvb
  replace Aw := Lib.hid Aw
  replace Fa := Lib.hid Fa
  replace Fb := Lib.hid Fb
  replace Ra := Lib.hid Ra
  replace Rb := Lib.hid Rb
  replace V := Lib.hid V
  replace hl := Lib.hid hl
  go_enter Try.func4, Try.ntmps4
  go_upto_region 1 with (fail)
  generalize w.alloc (.cells #[.bool tha, .string vaa, .string pra, .bool thb, .string vab, .string prb] 29) = W0 at *
  have c0 : W0.cell? ⟨w.heap.size, 0, none⟩ = some (.bool tha) := hw.cell 0
  have c1 : W0.cell? ⟨w.heap.size, 1, none⟩ = some (.string vaa) := hw.cell 1
  have c2 : W0.cell? ⟨w.heap.size, 2, none⟩ = some (.string pra) := hw.cell 2
  have c3 : W0.cell? ⟨w.heap.size, 3, none⟩ = some (.bool thb) := hw.cell 3
  have c4 : W0.cell? ⟨w.heap.size, 4, none⟩ = some (.string vab) := hw.cell 4
  have c5 : W0.cell? ⟨w.heap.size, 5, none⟩ = some (.string prb) := hw.cell 5
  clear hw
  go_upto_region 5 with (first | ((with_reducible refine (Aw.out _).mono ?_); rintro e wT ⟨rfl, hlT⟩; replace c0 := Later.cell hlT c0; replace c1 := Later.cell hlT c1; replace c2 := Later.cell hlT c2; replace c3 := Later.cell hlT c3; replace c4 := Later.cell hlT c4; replace c5 := Later.cell hlT c5; replace hB := hB.trans hlT) | ((with_reducible refine (Fa.out _).mono ?_); rintro e wT ⟨rfl, hlT⟩; replace c0 := Later.cell hlT c0; replace c1 := Later.cell hlT c1; replace c2 := Later.cell hlT c2; replace c3 := Later.cell hlT c3; replace c4 := Later.cell hlT c4; replace c5 := Later.cell hlT c5; replace hB := hB.trans hlT) | ((with_reducible refine (Fb.out _).mono ?_); rintro e wT ⟨rfl, hlT⟩; replace c0 := Later.cell hlT c0; replace c1 := Later.cell hlT c1; replace c2 := Later.cell hlT c2; replace c3 := Later.cell hlT c3; replace c4 := Later.cell hlT c4; replace c5 := Later.cell hlT c5; replace hB := hB.trans hlT) | ((with_reducible refine (Ra.out _).mono ?_); rintro e wT ⟨rfl, hlT⟩; replace c0 := Later.cell hlT c0; replace c1 := Later.cell hlT c1; replace c2 := Later.cell hlT c2; replace c3 := Later.cell hlT c3; replace c4 := Later.cell hlT c4; replace c5 := Later.cell hlT c5; replace hB := hB.trans hlT) | ((with_reducible refine (Rb.out _).mono ?_); rintro e wT ⟨rfl, hlT⟩; replace c0 := Later.cell hlT c0; replace c1 := Later.cell hlT c1; replace c2 := Later.cell hlT c2; replace c3 := Later.cell hlT c3; replace c4 := Later.cell hlT c4; replace c5 := Later.cell hlT c5; replace hB := hB.trans hlT))
  go_upto_region 6 with (((with_reducible refine (V.out _).mono ?_); rintro e wT ⟨rfl, hlT⟩; replace c0 := Later.cell hlT c0; replace c1 := Later.cell hlT c1; replace c2 := Later.cell hlT c2; replace c3 := Later.cell hlT c3; replace c4 := Later.cell hlT c4; replace c5 := Later.cell hlT c5; replace hB := hB.trans hlT))
  have hP := Whole.new wT 31 #[.string P0, .string P1]
  have hT := (Later.refl wT).alloc (.cells #[.string P0, .string P1] 31)
  replace c0 := Later.cell hT c0
  replace c1 := Later.cell hT c1
  replace c2 := Later.cell hT c2
  replace c3 := Later.cell hT c3
  replace c4 := Later.cell hT c4
  replace c5 := Later.cell hT c5
  replace hB := hB.trans hT
  clear hT
  generalize wT.alloc (.cells #[.string P0, .string P1] 31) = W5 at *
  go_cut [13] (fun p wc => p = .bool (wantB oka okb ra rb tha thb vaa vab) ∧ wc = W5)
  case first =>
    cases oka
    · go_wp2_with (fail)
      go_meet
      exact ⟨rfl, rfl⟩
    · cases okb
      · go_wp2_with (fail)
        go_meet
        exact ⟨rfl, rfl⟩
      · by_cases hr : ra = rb
        · have hr' := beqT hr
          by_cases ht : tha = thb
          · subst ht
            have ht' : (tha != tha) = false := by cases tha <;> rfl
            by_cases hv : vaa = vab
            · have hv' := beqT hv
              have hg : wantB true true ra rb tha tha vaa vab = false := by simp [wantB, hr, hv]
              replace hg := Lib.hid hg
              clear hr hv
              go_wp2_with (fail)
              go_meet
              exact ⟨by rw [hg.out], rfl⟩
            · have hv' := beqF hv
              have hg : wantB true true ra rb tha tha vaa vab = true := by simp [wantB, hr, hv]
              replace hg := Lib.hid hg
              replace hv := Lib.hid hv
              clear hr
              go_wp2_with (fail)
              go_meet
              exact ⟨by rw [hg.out], rfl⟩
          · cases tha <;> cases thb
            · exact absurd rfl ht
            · skip
              have hg : wantB true true ra rb false true vaa vab = true := by simp [wantB, hr]
              replace hg := Lib.hid hg
              clear hr ht
              go_wp2_with (fail)
              go_meet
              exact ⟨by rw [hg.out], rfl⟩
            · skip
              have hg : wantB true true ra rb true false vaa vab = true := by simp [wantB, hr]
              replace hg := Lib.hid hg
              clear hr ht
              go_wp2_with (fail)
              go_meet
              exact ⟨by rw [hg.out], rfl⟩
            · exact absurd rfl ht
        · have hr' := beqF hr
          have hg : wantB true true ra rb tha thb vaa vab = false := by simp [wantB, hr]
          replace hg := Lib.hid hg
          replace hr := Lib.hid hr
          go_wp2_with (fail)
          go_meet
          exact ⟨by rw [hg.out], rfl⟩
  case rest =>
    obtain ⟨rfl, rfl⟩ := hcut
    clear c0 c1 c2 c3 c4 c5
    rcases hl.out with ⟨hw1, p, q, rfl, CC⟩ | ⟨hw0, rfl⟩
    · rw [hw1]
      obtain rfl : true = vb := hvb.out
      have hpp := hpa.out
      simp only [pairA, Array.mk.injEq, List.cons.injEq, Value.string.injEq, and_true] at hpp
      obtain ⟨rfl, rfl⟩ := hpp
      clear hw1 hl hpa hvb
      replace CC := Lib.hid CC
      have p0 := hP.cell 0
      have p1 := hP.cell 1
      go_wp2_with (((with_reducible refine (CC.out _).mono ?_); rintro e wT2 ⟨rfl, hlT2⟩; replace hB := hB.trans hlT2))
      go_returns
      go_light
      exact ⟨rfl, hB⟩
    · rw [hw0]
      obtain rfl : false = vb := hvb.out
      have hpp := hpa.out
      simp only [pairA, Array.mk.injEq, List.cons.injEq, Value.string.injEq, and_true] at hpp
      obtain ⟨rfl, rfl⟩ := hpp
      clear hw0 hl hpa hvb
      have p0 := hP.cell 0
      have p1 := hP.cell 1
      go_wp2_with (fail)
      go_returns
      go_light
      exact ⟨ret_bool (by simp), hB⟩
theorem clashValues_calls (k : Nat) (hk : k < 256) (key : ByteArray) (a b : An) (w : World) :
    Calls Try.prog 4 #[.int .u8 k, .string key, .agg (a.A ++ b.A)] w fun e w' => e = .returned (.bool true) ∧ Later w w' := by
  cases ha : fewC key a
  · exact clashValues_big k key a b (by rw [ha]; rfl) w
  · cases hb : fewC key b
    · exact clashValues_big k key a b (by rw [ha, hb]; rfl) w
    · exact clashValues_few k hk key a b ha hb w
end Go.Proofs.Ytadmpaeblbddgaa
