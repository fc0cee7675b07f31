/- A message's digits: the reference's. Conditions: numbers of a byte, texts of at most 2^30 bytes. -/
import Derived.Test.YteipcmbbonfklaaOts1
namespace Go.Proofs.Yteipcmbbonfklaa
open Go.RowKit
set_option linter.unusedVariables false
set_option linter.unusedSimpArgs false
set_option maxHeartbeats 1000000 in
set_option maxRecDepth 100000 in
theorem refH03_calls (s : ByteArray) (hs : s.size ≤ 1099511627776) (w : World) :
    Calls Try.prog 121 #[.string s] w fun e w' => e = .returned (.string (shaN s)) ∧ Below w.heap.size w w' := by
  have SS := fun w => sum01_calls s hs w
  generalize shaN s = H at *
  replace SS := Lib.hid SS
  go_enter Try.func121, Try.ntmps121
  go_wp2_with ((with_reducible refine (SS.out _).mono ?_); rintro e w2 ⟨rfl, hb2⟩)
  go_returns
  go_light
  exact ⟨rfl, hb2⟩
set_option maxHeartbeats 4000000 in
set_option maxRecDepth 100000 in
theorem refDigits_calls (q : Nat) (hq : q ≤ 255) (msg : ByteArray) (hm : msg.size ≤ 1073741824) (w : World) :
    Calls Try.prog 120 #[.int .i64 q, .string msg] w fun e w' => e = .returned (.agg (arr .i64 (dgsN q msg))) ∧ Below w.heap.size w w' := by
  have NC := fun w => rnum_calls (q : Int) w
  have TC := fun w => rtext_calls msg w (by omega)
  have n4 := numW_size (q : Int)
  have tz := textW_size msg
  have hs1 : ((⟨#[109]⟩ : ByteArray) ++ numW q).size = 1 + (numW q).size := ByteArray.size_append
  have hs2 : (((⟨#[109]⟩ : ByteArray) ++ numW q) ++ textW msg).size = 1 + (numW q).size + (textW msg).size := by rw [ByteArray.size_append, hs1]
  have SC := fun w => refH03_calls (((⟨#[109]⟩ : ByteArray) ++ numW q) ++ textW msg) (by omega) w
  have nolen1 : (9223372036854775807 < 1 + (numW q).size) = False := eq_false (by omega)
  have nolen2 : (9223372036854775807 < 1 + (numW q).size + (textW msg).size) = False := eq_false (by omega)
  have eS : shaN (((⟨#[109]⟩ : ByteArray) ++ numW q) ++ textW msg) = dgsH q msg := rfl
  rw [eS] at SC
  unfold dgsN
  have h32 : (dgsH q msg).size = 32 := by
    unfold dgsH
    simp only [shaN, outB_size, flat_size]
    rfl
  have hb := bytesN_lt (dgsH q msg)
  generalize dgsH q msg = S at *
  generalize numW (q : Int) = nq at *
  generalize textW msg = tq at *
  clear eS hs1 hs2 n4 tz
  obtain ⟨W0, hW0⟩ : ∃ W0, (w.alloc (.cells Try.zeroCells175 175)).alloc (.cells Try.zeroCells175 175) = W0 := ⟨_, rfl⟩
  have hR : Whole W0 w.heap.size 175 Try.zeroCells175 := by rw [← hW0]; exact (Whole.new w _ _).alloc _
  have h7 : Whole W0 (w.heap.size + 1) 175 Try.zeroCells175 := by rw [← hW0]; exact Whole.new1 w _ _ _
  have hB : Later w W0 := by rw [← hW0]; exact ((Later.refl w).alloc _).alloc _
  have hzz : Try.zeroCells175 = arr .i64 (List.replicate 67 0) := by kernel_rfl
  rw [hzz, ← fillL_none67 (dgsL_length (bytesN S))] at h7
  clear hzz
  replace NC := Lib.hid NC
  replace TC := Lib.hid TC
  replace SC := Lib.hid SC
  have hD := dgsL_length (bytesN S)
  have hnib := fun i => nibN_lt hb i
  have hsum := sumTo_le (bytesN S)
  have hget := fun i hi => dgs_get (bytesN S) (i := i) hi
  obtain ⟨g64, g65, g66⟩ := dgs_64 (bytesN S)
  have hc256 : ∀ k, (bytesN S).getD k 0 < 256 := fun k => by
    rw [List.getD_eq_getElem?_getD]
    cases hx : (bytesN S)[k]? with
    | none => decide
    | some x => exact hb x (List.mem_of_getElem? hx)
  have hidx : ∀ (j : Nat) (hj : j < S.size), S[j].toNat = (bytesN S).getD j 0 := fun j hj => by
    unfold bytesN
    rw [List.getD_eq_getElem?_getD, List.getElem?_map, List.getElem?_eq_getElem (by simpa using hj)]
    rfl
  have hss : ∀ k, sumTo (bytesN S) (k + 1) = sumTo (bytesN S) k + (15 - nibN (bytesN S) k) := fun k => rfl
  have hn0 : ∀ k, nibN (bytesN S) k = if k % 2 = 0 then (bytesN S).getD (k / 2) 0 / 16 else (bytesN S).getD (k / 2) 0 % 16 := fun k => rfl
  generalize hDe : dgsL (bytesN S) = D at *
  replace hDe := Lib.hid hDe
  generalize hbe : bytesN S = bb at *
  replace hbe := Lib.hid hbe
  clear hb
  replace hnib := Lib.hid hnib
  replace hsum := Lib.hid hsum
  replace hget := Lib.hid hget
  replace hn0 := Lib.hid hn0
  replace hss := Lib.hid hss
  replace hc256 := Lib.hid hc256
  replace hidx := Lib.hid hidx
  replace g64 := Lib.hid g64
  replace g65 := Lib.hid g65
  replace g66 := Lib.hid g66
  go_enter Try.func120, Try.ntmps120
  go_upto_region 2 with (fail)
  try rw [hW0]
  clear hW0
  generalize hG : w.heap.size = G at *
  go_wp2_with (first | ((with_reducible refine (NC.out _).mono ?_); rintro e w2 ⟨rfl, hb2⟩) | ((with_reducible refine (TC.out _).mono ?_); rintro e w3 ⟨rfl, hb3⟩) | ((with_reducible refine (SC.out _).mono ?_); rintro e w4 ⟨rfl, hb4⟩))
  have hl := Later.trans (Later.trans hb2 hb3) hb4
  replace hR := hl.whole hR
  replace h7 := hl.whole h7
  replace hB := hB.trans hl
  clear hb2 hb3 hb4 hl NC TC SC
  clear w2 w3
  generalize w4 = W at *
  have hg0 : W.grownBy W (some (G + 1)) := only_same _ _
  go_loopg [7, 8, 9] 65 (fun kg s i c wr => ∃ k : Nat, i = .int .i64 k ∧ k ≤ 64 ∧ kg = 65 - k ∧ s = .int .i64 (sumTo bb k : Nat) ∧ Whole wr (G + 1) 175 (arr .i64 (fillL D k)) ∧ W.grownBy wr (some (G + 1)))
  case atStart => exact ⟨0, rfl, by omega, rfl, rfl, h7, hg0⟩
  case round =>
    clear h7 hg0
    obtain ⟨k, rfl, hk, hkg, rfl, h7, hg⟩ := hrel
    replace hkg := Lib.hid hkg
    by_cases hlt : k < 64
    · have hc := hc256.out (k / 2)
      have m0 := hn0.out k
      have mss := hss.out k
      have d0 := hget.out k hlt
      have st0 := fillL_set D (k := k) (by omega)
      have hs := hsum.out k
      rw [d0] at st0
      obtain ⟨j, hj⟩ : ∃ j, k / 2 = j := ⟨_, rfl⟩
      rw [hj] at hc m0
      have hlj : j < S.size := by omega
      have hij := hidx.out j hlj
      have j2 : (k : Int).tdiv 2 = j := by rw [Int.tdiv_eq_ediv_of_nonneg (Int.natCast_nonneg _)]; omega
      have j1 : (k : Int) / 2 = j := by omega
      generalize bb.getD j 0 = c at *
      have e0 := arr_cell h7 (i := k) (by rw [fillL_length]; omega)
      have f0 := h7.frozen k
      have hkb := hnib.out k
      generalize nibN bb k = a at *
      have h7a := arr_put h7 k a
      rw [st0] at h7a
      have hga := only_put hg (p := ⟨G + 1, k, none⟩) (.inl rfl) (.int .i64 (a : Int))
      have z1 : IntKind.i64.wrap (15 - (a : Int)) = ((15 - a : Nat) : Int) := by simp [IntKind.wrap, IntKind.signed, IntKind.bits]; omega
      have z3 : IntKind.i64.wrap ((sumTo bb k : Nat) + ((15 - a : Nat) : Int)) = ((sumTo bb (k + 1) : Nat) : Int) := by rw [mss]; simp [IntKind.wrap, IntKind.signed, IntKind.bits]; omega
      have ku0 : k < 67 := by omega
      have qk0 : ((k : Int) < 67) = True := eq_true (by omega)
      have hj16 : ((j : Int) < 32) = True := eq_true (by omega)
      have wc : IntKind.i64.wrap (c : Int) = c := by simp [IntKind.wrap, IntKind.signed, IntKind.bits]; omega
      clear mss st0 d0 h7 hg
      generalize hs1 : sumTo bb (k + 1) = s1 at *
      generalize sumTo bb k = s0 at *
      replace hs1 := Lib.hid hs1
      by_cases hp : k % 2 = 0
      · rw [if_pos hp] at m0
        have p1 : (k : Int).tmod 2 = 0 := by rw [Int.tmod_eq_emod_of_nonneg (Int.natCast_nonneg _)]; omega
        have p2 : (k : Int) % 2 = 0 := by omega
        have y2 : (c : Int).tdiv 16 = (a : Int) := by rw [Int.tdiv_eq_ediv_of_nonneg (Int.natCast_nonneg _)]; omega
        have y1 : (c : Int) / 16 = (a : Int) := by omega
        clear m0 hp hj hs
        go_wp2_with (fail)
        go_roundg (64 - k)
        case measure => go_light; rw [hkg.out]; omega
        case rel => go_light; exact ⟨k + 1, by go_num, by omega, by omega, by rw [hs1.out], h7a, hga⟩
      · rw [if_neg hp] at m0
        have p1 : (k : Int).tmod 2 = 1 := by rw [Int.tmod_eq_emod_of_nonneg (Int.natCast_nonneg _)]; omega
        have p2 : (k : Int) % 2 = 1 := by omega
        have y2 : (c : Int).tmod 16 = (a : Int) := by rw [Int.tmod_eq_emod_of_nonneg (Int.natCast_nonneg _)]; omega
        have y1 : (c : Int) % 16 = (a : Int) := by omega
        clear m0 hp hj hs
        go_wp2_with (fail)
        go_roundg (64 - k)
        case measure => go_light; rw [hkg.out]; omega
        case rel => go_light; exact ⟨k + 1, by go_num, by omega, by omega, by rw [hs1.out], h7a, hga⟩
    · obtain rfl : k = 64 := by omega
      have hs := hsum.out 64
      have t64 := fillL_set D (k := 64) (by omega)
      have t65 := fillL_set D (k := 65) (by omega)
      have t66 := fillL_set D (k := 66) (by omega)
      rw [g64.out] at t64
      rw [g65.out] at t65
      rw [g66.out] at t66
      generalize sumTo bb 64 = sm at *
      obtain ⟨u, hu⟩ : ∃ u, sm / 16 = u := ⟨_, rfl⟩
      obtain ⟨v1, hv1⟩ : ∃ v, sm / 256 = v := ⟨_, rfl⟩
      obtain ⟨v2, hv2⟩ : ∃ v, u % 16 = v := ⟨_, rfl⟩
      obtain ⟨v3, hv3⟩ : ∃ v, sm % 16 = v := ⟨_, rfl⟩
      rw [hv1] at t64
      rw [hu, hv2] at t65
      rw [hv3] at t66
      have kus : sm < 1024 := by omega
      have kuu : u < 64 := by omega
      have y1 : (sm : Int) / 256 = (v1 : Int) := by omega
      have y2 : (sm : Int) / 16 = (u : Int) := by omega
      have y3 : (u : Int) % 16 = (v2 : Int) := by omega
      have y4 : (sm : Int) % 16 = (v3 : Int) := by omega
      have x1 : (sm : Int).tdiv 256 = (v1 : Int) := by rw [Int.tdiv_eq_ediv_of_nonneg (Int.natCast_nonneg _)]; omega
      have x2 : (sm : Int).tdiv 16 = (u : Int) := by rw [Int.tdiv_eq_ediv_of_nonneg (Int.natCast_nonneg _)]; omega
      have x3 : (u : Int).tmod 16 = (v2 : Int) := by rw [Int.tmod_eq_emod_of_nonneg (Int.natCast_nonneg _)]; omega
      have x4 : (sm : Int).tmod 16 = (v3 : Int) := by rw [Int.tmod_eq_emod_of_nonneg (Int.natCast_nonneg _)]; omega
      have c64 := arr_cell h7 (i := 64) (by rw [fillL_length]; omega)
      have f64 := h7.frozen 64
      have h7b := arr_put h7 64 v1
      rw [t64] at h7b
      have c65 := arr_cell h7b (i := 65) (by rw [fillL_length]; omega)
      have f65 := h7b.frozen 65
      have h7c := arr_put h7b 65 v2
      rw [t65] at h7c
      have c66 := arr_cell h7c (i := 66) (by rw [fillL_length]; omega)
      have f66 := h7c.frozen 66
      have h7d := arr_put h7c 66 v3
      rw [t66, show fillL D 67 = D by rw [← hD]; exact fillL_all D] at h7d
      have hgd := only_put (only_put (only_put hg (p := ⟨G + 1, 64, none⟩) (.inl rfl) (.int .i64 (v1 : Int))) (p := ⟨G + 1, 65, none⟩) (.inl rfl) (.int .i64 (v2 : Int))) (p := ⟨G + 1, 66, none⟩) (.inl rfl) (.int .i64 (v3 : Int))
      have hRd := Whole.only hR hgd (by simp)
      have hBd := below_only' hB hgd (by omega)
      have hsz54 : (Try.prog.info? 175).map (·.size) = some (arr .i64 D).size := by rw [arr_size, hD]; kernel_rfl
      have hz54 : (arr .i64 D).size = Try.zeroCells175.size := by rw [arr_size, hD]; kernel_rfl
      have ho54 : (arr .i64 D).toList.all (·.oneCell') = true := by unfold arr; simp [List.all_eq_true, Value.oneCell']
      clear h7 h7b h7c t64 t65 t66 hg hu hv1 hv2 hv3 hB hR
      go_wp2_with (first | ((with_reducible apply wl_loadW (ty := 175) h7d Try.underlying175); rfl; rfl; rfl; exact hsz54) | ((with_reducible apply wl_storeW (ty := 175) hRd); rfl; rfl; rfl; kernel_rfl; exact hz54; exact ho54; intro w9 hs9 hg9 hz9))
      refine bodyPost_ret (results_cell_row rfl _ _ _ _ _ _ _ (by rfl) hs9 Try.underlying175 rfl hsz54) rfl ?_
      go_light
      exact ⟨by first | rfl | rw [hbe.out, hDe.out], below_only' hBd hg9 (by omega)⟩
end Go.Proofs.Yteipcmbbonfklaa
