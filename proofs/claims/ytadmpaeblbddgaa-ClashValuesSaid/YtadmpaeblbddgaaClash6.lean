/- Layer 9: a pair that collides; values, by the law's helper. Conditions: sizes as the law's. -/
import Derived.Test.YtadmpaeblbddgaaClash5
import Derived.Test.YtadmpaeblbddgaaClashPlain
namespace Go.Proofs.Ytadmpaeblbddgaa
open Go.RowKit
set_option linter.unusedVariables false
set_option linter.unusedSimpArgs false
set_option maxHeartbeats 2000000 in
set_option maxRecDepth 100000 in
theorem collides_calls (k : Nat) (hk : k < 256) (p q : ByteArray) (hp : p.size ≤ 1099511627776) (hq : q.size ≤ 1099511627776) (hne : p ≠ q) (he : hfOf k p = hfOf k q) (w : World) :
    Calls Try.prog 18 #[.int .u8 k, .agg #[.string p, .string q]] w fun e w' => e = .returned (.bool true) ∧ Later w w' := by
  have CA := fun w => hash_calls k hk p w hp
  have CB := fun w => hash_calls k hk q w hq
  rw [← he] at CB
  generalize hfOf k p = X at *
  have hw := Whole.new w 31 #[.string p, .string q]
  have hB : Later w (w.alloc (.cells #[.string p, .string q] 31)) := (Later.refl w).alloc _
  have hne' := beqF hne
  have hX := beqT (rfl : X = X)
  clear he
  replace hne := Lib.hid hne
  replace CA := Lib.hid CA
  replace CB := Lib.hid CB
  go_enter Try.func18, Try.ntmps18
  go_upto_region 1 with (fail)
  generalize w.alloc (.cells #[.string p, .string q] 31) = W0 at *
  have c0 : W0.drew.cell? ⟨w.heap.size, 0, none⟩ = some (.string p) := hw.cell 0
  have c1 : W0.drew.cell? ⟨w.heap.size, 1, none⟩ = some (.string q) := hw.cell 1
  replace hB : Later w W0.drew := hB.drew
  go_region_held3 (fun w' => w'.cell? ⟨w.heap.size, 0, none⟩ = some (.string p) ∧ w'.cell? ⟨w.heap.size, 1, none⟩ = some (.string q)) (first | (with_reducible exact ⟨c0, c1⟩) | go_keep) (first | ((with_reducible refine (CA.out _).mono ?_); rintro e wN ⟨rfl, hlN⟩; replace c0 := Later.cell hlN c0; replace c1 := Later.cell hlN c1; replace hB := hB.trans hlN) | ((with_reducible refine (CB.out _).mono ?_); rintro e wN2 ⟨rfl, hlN⟩; replace c0 := Later.cell hlN c0; replace c1 := Later.cell hlN c1; replace hB := hB.trans hlN))
  all_goals go_wp2_with (fail)
  all_goals go_returns
  all_goals go_light
  all_goals exact ⟨rfl, hB⟩
set_option maxHeartbeats 1000000 in
set_option maxRecDepth 100000 in
theorem lv_0 (k : Nat) (hm1 : (k : Int) % 3 = 0) (root key : ByteArray) (a b : An) (v : Option (ByteArray × ByteArray)) (w : World) (C : ∀ w, Calls Try.prog 43 #[.func (.func 37) #[] #[], .string root, .string key, .agg a.A, .agg b.A] w (fun e w' => e = .returned (.tuple #[.agg (pairA v), .bool v.isSome]) ∧ Later w w')) :
    Calls Try.prog 17 #[.int .u8 k, .string root, .string key, .agg a.A, .agg b.A] w fun e w' => e = .returned (.tuple #[.agg (pairA v), .bool v.isSome]) ∧ Later w w' := by
  have m2 : (k : Int).tmod 3 = 0 := by rw [Int.tmod_eq_emod_of_nonneg (Int.natCast_nonneg _)]; exact hm1
  obtain ⟨tha, vaa, pra⟩ := a
  obtain ⟨thb, vab, prb⟩ := b
  simp only [An.A] at *
  obtain ⟨W0, hW0⟩ : ∃ W0, ((w.alloc (.cells #[.bool tha, .string vaa, .string pra] 23)).alloc (.cells #[.bool thb, .string vab, .string prb] 23)).alloc (.cells #[.string ⟨#[]⟩, .string ⟨#[]⟩] 31) = W0 := ⟨_, rfl⟩
  have hA : Whole W0 w.heap.size 23 #[.bool tha, .string vaa, .string pra] := by rw [← hW0]; exact ((Whole.new w _ _).alloc _).alloc _
  have hA2 : Whole W0 (w.heap.size + 1) 23 #[.bool thb, .string vab, .string prb] := by rw [← hW0]; exact (Whole.new1 w _ _ _).alloc _
  have hP : Whole W0 (w.heap.size + 1 + 1) 31 #[.string ⟨#[]⟩, .string ⟨#[]⟩] := by rw [← hW0]; exact Whole.new2 w _ _ _ _
  have hB : Later w W0 := by rw [← hW0]; exact (((Later.refl w).alloc _).alloc _).alloc _
  obtain ⟨P0, P1, hpa⟩ : ∃ P0 P1 : ByteArray, pairA v = #[.string P0, .string P1] := by cases v with | none => exact ⟨_, _, rfl⟩ | some x => exact ⟨_, _, rfl⟩
  rw [hpa] at C ⊢
  replace hpa := Lib.hid hpa
  generalize v.isSome = vb at *
  replace C := Lib.hid C
  have c0 := hA.cell 0
  have c1 := hA.cell 1
  have c2 := hA.cell 2
  have d0 := hA2.cell 0
  have d1 := hA2.cell 1
  have d2 := hA2.cell 2
  go_enter Try.func17, Try.ntmps17
  go_upto_region 1 with (fail)
  try rw [hW0]
  clear hW0
  go_wp2_with (((with_reducible refine (C.out _).mono ?_); rintro e wT ⟨rfl, hlT⟩; replace hP := hlT.whole hP; replace hB := hB.trans hlT; have p0 := hP.cell 0; have p1 := hP.cell 1; have q0 := hP.frozen 0; have q1 := hP.frozen 1; have hP2 := (hP.put' 0 (.string P0) rfl).put' 1 (.string P1) rfl; have hB2 : Later w _ := (hB.setCell (p := ⟨w.heap.size + 1 + 1, 0, none⟩) (by simp; omega) (.string P0)).setCell (p := ⟨w.heap.size + 1 + 1, 1, none⟩) (by simp; omega) (.string P1)))
  refine bodyPost_ret (res_cell_tmp rfl _ _ _ _ _ _ rfl hP2 Try.underlying31 rfl (by kernel_rfl)) rfl ?_
  go_light
  exact ⟨rfl, hB2⟩
set_option maxHeartbeats 1000000 in
set_option maxRecDepth 100000 in
theorem lv_1 (k : Nat) (hm1 : (k : Int) % 3 = 1) (root key : ByteArray) (a b : An) (v : Option (ByteArray × ByteArray)) (w : World) (C : ∀ w, Calls Try.prog 43 #[.func (.func 39) #[] #[], .string root, .string key, .agg a.A, .agg b.A] w (fun e w' => e = .returned (.tuple #[.agg (pairA v), .bool v.isSome]) ∧ Later w w')) :
    Calls Try.prog 17 #[.int .u8 k, .string root, .string key, .agg a.A, .agg b.A] w fun e w' => e = .returned (.tuple #[.agg (pairA v), .bool v.isSome]) ∧ Later w w' := by
  have m2 : (k : Int).tmod 3 = 1 := by rw [Int.tmod_eq_emod_of_nonneg (Int.natCast_nonneg _)]; exact hm1
  obtain ⟨tha, vaa, pra⟩ := a
  obtain ⟨thb, vab, prb⟩ := b
  simp only [An.A] at *
  obtain ⟨W0, hW0⟩ : ∃ W0, ((w.alloc (.cells #[.bool tha, .string vaa, .string pra] 23)).alloc (.cells #[.bool thb, .string vab, .string prb] 23)).alloc (.cells #[.string ⟨#[]⟩, .string ⟨#[]⟩] 31) = W0 := ⟨_, rfl⟩
  have hA : Whole W0 w.heap.size 23 #[.bool tha, .string vaa, .string pra] := by rw [← hW0]; exact ((Whole.new w _ _).alloc _).alloc _
  have hA2 : Whole W0 (w.heap.size + 1) 23 #[.bool thb, .string vab, .string prb] := by rw [← hW0]; exact (Whole.new1 w _ _ _).alloc _
  have hP : Whole W0 (w.heap.size + 1 + 1) 31 #[.string ⟨#[]⟩, .string ⟨#[]⟩] := by rw [← hW0]; exact Whole.new2 w _ _ _ _
  have hB : Later w W0 := by rw [← hW0]; exact (((Later.refl w).alloc _).alloc _).alloc _
  obtain ⟨P0, P1, hpa⟩ : ∃ P0 P1 : ByteArray, pairA v = #[.string P0, .string P1] := by cases v with | none => exact ⟨_, _, rfl⟩ | some x => exact ⟨_, _, rfl⟩
  rw [hpa] at C ⊢
  replace hpa := Lib.hid hpa
  generalize v.isSome = vb at *
  replace C := Lib.hid C
  have c0 := hA.cell 0
  have c1 := hA.cell 1
  have c2 := hA.cell 2
  have d0 := hA2.cell 0
  have d1 := hA2.cell 1
  have d2 := hA2.cell 2
  go_enter Try.func17, Try.ntmps17
  go_upto_region 1 with (fail)
  try rw [hW0]
  clear hW0
  go_wp2_with (((with_reducible refine (C.out _).mono ?_); rintro e wT ⟨rfl, hlT⟩; replace hP := hlT.whole hP; replace hB := hB.trans hlT; have p0 := hP.cell 0; have p1 := hP.cell 1; have q0 := hP.frozen 0; have q1 := hP.frozen 1; have hP2 := (hP.put' 0 (.string P0) rfl).put' 1 (.string P1) rfl; have hB2 : Later w _ := (hB.setCell (p := ⟨w.heap.size + 1 + 1, 0, none⟩) (by simp; omega) (.string P0)).setCell (p := ⟨w.heap.size + 1 + 1, 1, none⟩) (by simp; omega) (.string P1)))
  refine bodyPost_ret (res_cell_tmp rfl _ _ _ _ _ _ rfl hP2 Try.underlying31 rfl (by kernel_rfl)) rfl ?_
  go_light
  exact ⟨rfl, hB2⟩
set_option maxHeartbeats 1000000 in
set_option maxRecDepth 100000 in
theorem lv_2 (k : Nat) (hm1 : (k : Int) % 3 = 2) (root key : ByteArray) (a b : An) (v : Option (ByteArray × ByteArray)) (w : World) (C : ∀ w, Calls Try.prog 43 #[.func (.func 40) #[] #[], .string root, .string key, .agg a.A, .agg b.A] w (fun e w' => e = .returned (.tuple #[.agg (pairA v), .bool v.isSome]) ∧ Later w w')) :
    Calls Try.prog 17 #[.int .u8 k, .string root, .string key, .agg a.A, .agg b.A] w fun e w' => e = .returned (.tuple #[.agg (pairA v), .bool v.isSome]) ∧ Later w w' := by
  have m2 : (k : Int).tmod 3 = 2 := by rw [Int.tmod_eq_emod_of_nonneg (Int.natCast_nonneg _)]; exact hm1
  obtain ⟨tha, vaa, pra⟩ := a
  obtain ⟨thb, vab, prb⟩ := b
  simp only [An.A] at *
  obtain ⟨W0, hW0⟩ : ∃ W0, ((w.alloc (.cells #[.bool tha, .string vaa, .string pra] 23)).alloc (.cells #[.bool thb, .string vab, .string prb] 23)).alloc (.cells #[.string ⟨#[]⟩, .string ⟨#[]⟩] 31) = W0 := ⟨_, rfl⟩
  have hA : Whole W0 w.heap.size 23 #[.bool tha, .string vaa, .string pra] := by rw [← hW0]; exact ((Whole.new w _ _).alloc _).alloc _
  have hA2 : Whole W0 (w.heap.size + 1) 23 #[.bool thb, .string vab, .string prb] := by rw [← hW0]; exact (Whole.new1 w _ _ _).alloc _
  have hP : Whole W0 (w.heap.size + 1 + 1) 31 #[.string ⟨#[]⟩, .string ⟨#[]⟩] := by rw [← hW0]; exact Whole.new2 w _ _ _ _
  have hB : Later w W0 := by rw [← hW0]; exact (((Later.refl w).alloc _).alloc _).alloc _
  obtain ⟨P0, P1, hpa⟩ : ∃ P0 P1 : ByteArray, pairA v = #[.string P0, .string P1] := by cases v with | none => exact ⟨_, _, rfl⟩ | some x => exact ⟨_, _, rfl⟩
  rw [hpa] at C ⊢
  replace hpa := Lib.hid hpa
  generalize v.isSome = vb at *
  replace C := Lib.hid C
  have c0 := hA.cell 0
  have c1 := hA.cell 1
  have c2 := hA.cell 2
  have d0 := hA2.cell 0
  have d1 := hA2.cell 1
  have d2 := hA2.cell 2
  go_enter Try.func17, Try.ntmps17
  go_upto_region 1 with (fail)
  try rw [hW0]
  clear hW0
  go_wp2_with (((with_reducible refine (C.out _).mono ?_); rintro e wT ⟨rfl, hlT⟩; replace hP := hlT.whole hP; replace hB := hB.trans hlT; have p0 := hP.cell 0; have p1 := hP.cell 1; have q0 := hP.frozen 0; have q1 := hP.frozen 1; have hP2 := (hP.put' 0 (.string P0) rfl).put' 1 (.string P1) rfl; have hB2 : Later w _ := (hB.setCell (p := ⟨w.heap.size + 1 + 1, 0, none⟩) (by simp; omega) (.string P0)).setCell (p := ⟨w.heap.size + 1 + 1, 1, none⟩) (by simp; omega) (.string P1)))
  refine bodyPost_ret (res_cell_tmp rfl _ _ _ _ _ _ rfl hP2 Try.underlying31 rfl (by kernel_rfl)) rfl ?_
  go_light
  exact ⟨rfl, hB2⟩
theorem lvalues_calls (k : Nat) (hk : k < 256) (root key : ByteArray) (a b : An) (hkey : key.size ≤ 1099511627770) (hva : a.value.size ≤ 1099511627770) (hpa : a.proof.size ≤ 1099511627770) (hvb : b.value.size ≤ 1099511627770) (hpb : b.proof.size ≤ 1099511627770) (w : World) :
    Calls Try.prog 17 #[.int .u8 k, .string root, .string key, .agg a.A, .agg b.A] w fun e w' => e = .returned (.tuple #[.agg (pairA (valuesC (hfOf k) root key a b)), .bool (valuesC (hfOf k) root key a b).isSome]) ∧ Later w w' := by
  have hr : hfOf k = if k % 3 = 0 then weakS 2 else if k % 3 = 1 then weakS 5 else shaN := rfl
  have h3 : k % 3 < 3 := Nat.mod_lt _ (by decide)
  rw [hr]
  by_cases h0 : k % 3 = 0
  · rw [if_pos h0]
    exact lv_0 k (by omega) root key a b _ w fun w => values_calls two_hasher root key a b hkey hva hpa hvb hpb w
  · rw [if_neg h0]
    by_cases h1 : k % 3 = 1
    · rw [if_pos h1]
      exact lv_1 k (by omega) root key a b _ w fun w => values_calls five_hasher root key a b hkey hva hpa hvb hpb w
    · rw [if_neg h1]
      exact lv_2 k (by omega) root key a b _ w fun w => values_calls full_hasher root key a b hkey hva hpa hvb hpb w
end Go.Proofs.Ytadmpaeblbddgaa
