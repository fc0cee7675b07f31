/- The law ShaTable, walked: every number of the table is the reference's. No conditions. -/
import Derived.Test.YtadmpaeblbddgaaPMake
import Derived.Test.YtadmpaeblbddgaaGrowL
import Derived.Test.YtadmpaeblbddgaaShaR2
namespace Go.Proofs.Ytadmpaeblbddgaa
open Go.RowKit
set_option linter.unusedVariables false
set_option linter.unusedSimpArgs false
theorem arr_app {W : World} {g : Nat} {T : TypeId} {k : IntKind} {l l' : List Nat} (h : Whole W g T (arr k (l ++ l'))) : (∀ i, i < l.length → W.cell? ⟨g, i, none⟩ = some (.int k ((l.getD i 0 : Nat) : Int))) ∧ ∀ i, i < l'.length → W.cell? ⟨g, l.length + i, none⟩ = some (.int k ((l'.getD i 0 : Nat) : Int)) := by
  refine ⟨fun i hi => ?_, fun i hi => ?_⟩
  · have := arr_cell h (i := i) (by simp; omega)
    rw [List.getD_eq_getElem?_getD, List.getElem?_append_left hi, ← List.getD_eq_getElem?_getD] at this
    exact this
  · have := arr_cell h (i := l.length + i) (by simp; omega)
    rw [List.getD_eq_getElem?_getD, List.getElem?_append_right (by omega), show l.length + i - l.length = i by omega, ← List.getD_eq_getElem?_getD] at this
    exact this
theorem arrOne (k : IntKind) (l : List Nat) : (arr k l).toList.all (·.oneCell') = true := by simp [arr, Value.oneCell']
set_option maxHeartbeats 1000000 in
set_option maxRecDepth 100000 in
theorem shaTable_calls (i k : Nat) (hi : i < 256) (hk : k < 256) (w : World) :
    Calls Try.prog 8 #[.int .u8 i, .int .u8 k] w fun e w' => e = .returned (.bool true) ∧ Below w.heap.size w w' := by
  have M := fun w => make_calls w
  have RK := fun w => K01_calls w
  have RH := fun w => H01_calls w
  have hl : (arr .u32 (K64 ++ H8.L)).size = Try.zeroCells51.size := by kernel_rfl
  have hlk : (arr .u64 K64).size = (#[.int .u64 0, .int .u64 0, .int .u64 0, .int .u64 0, .int .u64 0, .int .u64 0, .int .u64 0, .int .u64 0, .int .u64 0, .int .u64 0, .int .u64 0, .int .u64 0, .int .u64 0, .int .u64 0, .int .u64 0, .int .u64 0, .int .u64 0, .int .u64 0, .int .u64 0, .int .u64 0, .int .u64 0, .int .u64 0, .int .u64 0, .int .u64 0, .int .u64 0, .int .u64 0, .int .u64 0, .int .u64 0, .int .u64 0, .int .u64 0, .int .u64 0, .int .u64 0, .int .u64 0, .int .u64 0, .int .u64 0, .int .u64 0, .int .u64 0, .int .u64 0, .int .u64 0, .int .u64 0, .int .u64 0, .int .u64 0, .int .u64 0, .int .u64 0, .int .u64 0, .int .u64 0, .int .u64 0, .int .u64 0, .int .u64 0, .int .u64 0, .int .u64 0, .int .u64 0, .int .u64 0, .int .u64 0, .int .u64 0, .int .u64 0, .int .u64 0, .int .u64 0, .int .u64 0, .int .u64 0, .int .u64 0, .int .u64 0, .int .u64 0, .int .u64 0] : Array Value).size := by kernel_rfl
  have hlh : (arr .u64 H8.L).size = (#[.int .u64 0, .int .u64 0, .int .u64 0, .int .u64 0, .int .u64 0, .int .u64 0, .int .u64 0, .int .u64 0] : Array Value).size := by kernel_rfl
  have h1t := arrOne .u32 (K64 ++ H8.L)
  have h1k := arrOne .u64 K64
  have h1h := arrOne .u64 H8.L
  generalize et : arr .u32 (K64 ++ H8.L) = tb at *
  generalize ek : arr .u64 K64 = tk at *
  generalize eh : arr .u64 H8.L = th at *
  replace M := Lib.hid M
  replace RK := Lib.hid RK
  replace RH := Lib.hid RH
  go_enter Try.func8, Try.ntmps8
  go_upto_region 2 with (first | ((with_reducible refine (M.out _).mono ?_); rintro e w1 ⟨rfl, hB1⟩; have hn := Whole.new w1 51 Try.zeroCells51) | ((with_reducible apply wl_storeW (ty := 51) hn); rfl; rfl; rfl; kernel_rfl; exact hl; exact h1t; intro w2 hs2 hg2 hz2))
  have hB2 : Below w.heap.size w w2 := below_only' (hB1.alloc hB1.size _) hg2 hB1.size
  generalize w1.heap.size = b5 at *
  clear hn hg2 hz2 hB1
  go_upto_region 3 with (first | ((with_reducible refine (RK.out _).mono ?_); rintro e w3 ⟨rfl, hB3⟩; replace hs2 := Later.whole hB3 hs2; replace hB2 := below_next' hB2 hB3) | ((with_reducible refine (RH.out _).mono ?_); rintro e w4 ⟨rfl, hB4⟩; have hlt5 := (Later.whole hB4 hs2).lt; replace hs2 := ((Later.whole hB4 hs2).alloc (.cells #[.int .u64 0, .int .u64 0, .int .u64 0, .int .u64 0, .int .u64 0, .int .u64 0, .int .u64 0, .int .u64 0, .int .u64 0, .int .u64 0, .int .u64 0, .int .u64 0, .int .u64 0, .int .u64 0, .int .u64 0, .int .u64 0, .int .u64 0, .int .u64 0, .int .u64 0, .int .u64 0, .int .u64 0, .int .u64 0, .int .u64 0, .int .u64 0, .int .u64 0, .int .u64 0, .int .u64 0, .int .u64 0, .int .u64 0, .int .u64 0, .int .u64 0, .int .u64 0, .int .u64 0, .int .u64 0, .int .u64 0, .int .u64 0, .int .u64 0, .int .u64 0, .int .u64 0, .int .u64 0, .int .u64 0, .int .u64 0, .int .u64 0, .int .u64 0, .int .u64 0, .int .u64 0, .int .u64 0, .int .u64 0, .int .u64 0, .int .u64 0, .int .u64 0, .int .u64 0, .int .u64 0, .int .u64 0, .int .u64 0, .int .u64 0, .int .u64 0, .int .u64 0, .int .u64 0, .int .u64 0, .int .u64 0, .int .u64 0, .int .u64 0, .int .u64 0] 54)).alloc (.cells #[.int .u64 0, .int .u64 0, .int .u64 0, .int .u64 0, .int .u64 0, .int .u64 0, .int .u64 0, .int .u64 0] 56); replace hB2 := below_next' hB2 hB4; have hn6 := (Whole.new w4 54 #[.int .u64 0, .int .u64 0, .int .u64 0, .int .u64 0, .int .u64 0, .int .u64 0, .int .u64 0, .int .u64 0, .int .u64 0, .int .u64 0, .int .u64 0, .int .u64 0, .int .u64 0, .int .u64 0, .int .u64 0, .int .u64 0, .int .u64 0, .int .u64 0, .int .u64 0, .int .u64 0, .int .u64 0, .int .u64 0, .int .u64 0, .int .u64 0, .int .u64 0, .int .u64 0, .int .u64 0, .int .u64 0, .int .u64 0, .int .u64 0, .int .u64 0, .int .u64 0, .int .u64 0, .int .u64 0, .int .u64 0, .int .u64 0, .int .u64 0, .int .u64 0, .int .u64 0, .int .u64 0, .int .u64 0, .int .u64 0, .int .u64 0, .int .u64 0, .int .u64 0, .int .u64 0, .int .u64 0, .int .u64 0, .int .u64 0, .int .u64 0, .int .u64 0, .int .u64 0, .int .u64 0, .int .u64 0, .int .u64 0, .int .u64 0, .int .u64 0, .int .u64 0, .int .u64 0, .int .u64 0, .int .u64 0, .int .u64 0, .int .u64 0, .int .u64 0]).alloc (.cells #[.int .u64 0, .int .u64 0, .int .u64 0, .int .u64 0, .int .u64 0, .int .u64 0, .int .u64 0, .int .u64 0] 56); have hn7 := Whole.new1 w4 (.cells #[.int .u64 0, .int .u64 0, .int .u64 0, .int .u64 0, .int .u64 0, .int .u64 0, .int .u64 0, .int .u64 0, .int .u64 0, .int .u64 0, .int .u64 0, .int .u64 0, .int .u64 0, .int .u64 0, .int .u64 0, .int .u64 0, .int .u64 0, .int .u64 0, .int .u64 0, .int .u64 0, .int .u64 0, .int .u64 0, .int .u64 0, .int .u64 0, .int .u64 0, .int .u64 0, .int .u64 0, .int .u64 0, .int .u64 0, .int .u64 0, .int .u64 0, .int .u64 0, .int .u64 0, .int .u64 0, .int .u64 0, .int .u64 0, .int .u64 0, .int .u64 0, .int .u64 0, .int .u64 0, .int .u64 0, .int .u64 0, .int .u64 0, .int .u64 0, .int .u64 0, .int .u64 0, .int .u64 0, .int .u64 0, .int .u64 0, .int .u64 0, .int .u64 0, .int .u64 0, .int .u64 0, .int .u64 0, .int .u64 0, .int .u64 0, .int .u64 0, .int .u64 0, .int .u64 0, .int .u64 0, .int .u64 0, .int .u64 0, .int .u64 0, .int .u64 0] 54) 56 #[.int .u64 0, .int .u64 0, .int .u64 0, .int .u64 0, .int .u64 0, .int .u64 0, .int .u64 0, .int .u64 0]; have hBn := (hB2.alloc hB2.size (.cells #[.int .u64 0, .int .u64 0, .int .u64 0, .int .u64 0, .int .u64 0, .int .u64 0, .int .u64 0, .int .u64 0, .int .u64 0, .int .u64 0, .int .u64 0, .int .u64 0, .int .u64 0, .int .u64 0, .int .u64 0, .int .u64 0, .int .u64 0, .int .u64 0, .int .u64 0, .int .u64 0, .int .u64 0, .int .u64 0, .int .u64 0, .int .u64 0, .int .u64 0, .int .u64 0, .int .u64 0, .int .u64 0, .int .u64 0, .int .u64 0, .int .u64 0, .int .u64 0, .int .u64 0, .int .u64 0, .int .u64 0, .int .u64 0, .int .u64 0, .int .u64 0, .int .u64 0, .int .u64 0, .int .u64 0, .int .u64 0, .int .u64 0, .int .u64 0, .int .u64 0, .int .u64 0, .int .u64 0, .int .u64 0, .int .u64 0, .int .u64 0, .int .u64 0, .int .u64 0, .int .u64 0, .int .u64 0, .int .u64 0, .int .u64 0, .int .u64 0, .int .u64 0, .int .u64 0, .int .u64 0, .int .u64 0, .int .u64 0, .int .u64 0, .int .u64 0] 54)).alloc (by have := hB2.size; simp; omega) (.cells #[.int .u64 0, .int .u64 0, .int .u64 0, .int .u64 0, .int .u64 0, .int .u64 0, .int .u64 0, .int .u64 0] 56)) | ((with_reducible apply wl_storeW (ty := 54) hn6); rfl; rfl; rfl; kernel_rfl; exact hlk; exact h1k; intro w6 hs6 hg6 hz6; have hs26 := hs2.only hg6 (by simp; omega); have hn76 := hn7.only hg6 (by simp); have hB6 := below_only' hBn hg6 hB2.size) | ((with_reducible apply wl_storeW (ty := 56) hn76); rfl; rfl; rfl; kernel_rfl; exact hlh; exact h1h; intro w7 hs7 hg7 hz7; have hs27 := hs26.only hg7 (by simp; omega); have hs67 := hs6.only hg7 (by simp); have hB7 := below_only' hB6 hg7 (by have := hB2.size; omega)))
  subst et ek eh
  have lk : i % 64 < K64.length := by rw [K64_length]; omega
  have lh : k % 8 < H8.L.length := by show k % 8 < 8; omega
  obtain ⟨ca, cb⟩ := arr_app hs27
  replace ca := ca _ lk
  replace cb := cb _ lh
  rw [K64_length] at cb
  have cc := arr_cell hs67 lk
  have cd := arr_cell hs7 lh
  have qa : K64.getD (i % 64) 0 < 4294967296 := getD_lt (by decide) K64_lt _
  have qb : H8.L.getD (k % 8) 0 < 4294967296 := getD_lt (by decide) (V8.L_lt H8_ok) _
  generalize K64.getD (i % 64) 0 = x at *
  generalize H8.L.getD (k % 8) 0 = y at *
  clear hs27 hs67 hs7 hs26 hn76 hs2 hn6 hn7 hs6 hl hlk hlh h1t h1k h1h M RK RH hBn
  obtain ⟨i', hi'⟩ : ∃ i', i % 64 = i' := ⟨_, rfl⟩
  obtain ⟨k', hk'⟩ : ∃ k', k % 8 = k' := ⟨_, rfl⟩
  rw [hi'] at ca cc
  rw [hk'] at cb cd
  have r1 : (i : Int).tmod 64 = i' := by rw [Int.tmod_eq_emod_of_nonneg (Int.natCast_nonneg _)]; omega
  have r2 : (k : Int).tmod 8 = k' := by rw [Int.tmod_eq_emod_of_nonneg (Int.natCast_nonneg _)]; omega
  have r3 : (i : Int) % 64 = i' := by omega
  have r4 : (k : Int) % 8 = k' := by omega
  have l1 : ((i' : Int) < 64) = True := eq_true (by omega)
  have l2 : ((k' : Int) < 8) = True := eq_true (by omega)
  have v1 : IntKind.u64.wrap (x : Int) = x := by simp [IntKind.wrap, IntKind.signed, IntKind.bits]; omega
  have v2 : IntKind.u64.wrap (y : Int) = y := by simp [IntKind.wrap, IntKind.signed, IntKind.bits]; omega
  generalize w4.heap.size = b6 at *
  go_quiet (fail)
  go_wp2
  go_returns
  go_light
  exact ⟨rfl, by first | exact hB7 | exact hB7.drew | exact below_drewN' hB7 _⟩
end Go.Proofs.Ytadmpaeblbddgaa
