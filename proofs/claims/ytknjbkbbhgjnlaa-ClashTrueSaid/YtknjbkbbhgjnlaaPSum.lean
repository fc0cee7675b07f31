/- The program's digest: Sum. Conditions: at most 2^39 bytes were written. -/
import Derived.Test.YtknjbkbbhgjnlaaPDig
import Derived.Test.YtknjbkbbhgjnlaaRep2
namespace Go.Proofs.Ytknjbkbbhgjnlaa
open Go.RowKit
set_option linter.unusedVariables false
set_option linter.unusedSimpArgs false
def padS (n : Nat) : ByteArray := ((⟨#[128]⟩ : ByteArray) ++ ⟨(zs (padZ n)).toArray⟩) ++ outB (numB (8 * n) 8)
theorem padS_size (n : Nat) : (padS n).size = 9 + padZ n := by
  unfold padS
  rw [ByteArray.size_append, ByteArray.size_append, outB_size, numB_length]
  have : (⟨(zs (padZ n)).toArray⟩ : ByteArray).size = padZ n := by show ((zs (padZ n)).toArray).size = _; simp [zs]
  rw [this]
  show 1 + padZ n + 8 = _
  omega
theorem outB_bytes (l : List Nat) (h : ∀ x ∈ l, x < 256) : bytesN (outB l) = l := by
  unfold bytesN outB
  show (l.map UInt8.ofNat).map (·.toNat) = l
  rw [List.map_map]
  conv => rhs; rw [← List.map_id l]
  apply List.map_congr_left
  intro x hx
  have := h x hx
  simp [UInt8.toNat_ofNat]
  omega
theorem padS_bytes (n : Nat) : bytesN (padS n) = [128] ++ List.replicate (padZ n) 0 ++ lenB (n * 8) 8 := by
  unfold padS
  have h8 : ∀ x ∈ numB (8 * n) 8, x < 256 := by
    intro x hx
    simp only [numB, List.mem_map] at hx
    obtain ⟨k, _, rfl⟩ := hx
    exact Nat.mod_lt _ (by decide)
  rw [bytesN_append, bytesN_append, outB_bytes _ h8, Nat.mul_comm n 8, lenB_num]
  congr 2
  unfold bytesN zs
  simp
theorem full_bytes (m : ByteArray) : bytesN (m ++ padS m.size) = fullB m := by
  rw [bytesN_append, padS_bytes]
  unfold fullB padded
  simp [List.append_assoc]
theorem sumV (m : ByteArray) : foldB K64 (bytesN (m ++ padS m.size)) ((m ++ padS m.size).size / 64) = shaV K64 m := by
  have e : (m ++ padS m.size).size = (fullB m).length := by rw [← full_bytes, bytesN_length]
  unfold shaV
  rw [full_bytes, e]
theorem padZ_lt (n : Nat) : padZ n ≤ 63 := by unfold padZ; omega
set_option maxHeartbeats 2000000 in
set_option maxRecDepth 100000 in
theorem sumD_calls (m : ByteArray) (g : Nat) (w : World) (h : MsgAt w g m) (hs : m.size ≤ 549755813888) :
    Calls Try.prog 73 #[.pointer (some ⟨g, 0, none⟩)] w fun e w' => e = .returned (.string (shaN m)) ∧ Below w.heap.size w w' := by
  have hpz := padZ_lt m.size
  have hpad := padS_size m.size
  have hV := sumV m
  have htl := tailB_size m (m.size / 64)
  have hex : (119 - ((tailB m (m.size / 64)).size : Int)).tmod 64 = ((padZ m.size : Nat) : Int) := by
    rw [Int.tmod_eq_emod_of_nonneg (by omega)]
    unfold padZ
    omega
  have hW := fun W hW => write_calls m (padS m.size) w.heap.size W hW (by omega)
  have hnum := fun w => number_calls (8 * m.size) 8 (by omega) (by omega) w
  have hrep := fun w => repeat_calls (padZ m.size) w hpz
  unfold padS at hW hV hpad
  have c81 := DigAt.c81 h
  unfold MsgAt DigAt at h
  have hcs := digA_size (foldB K64 (bytesN m) (m.size / 64)) (tailB m (m.size / 64)) m.size
  have hn := Whole.new w 160 Try.zeroCells160
  have hBn : Below w.heap.size w (w.alloc (.cells Try.zeroCells160 160)) := by go_grown
  have hall : (digA (foldB K64 (bytesN m) (m.size / 64)) (tailB m (m.size / 64)) m.size).toList.all (·.oneCell') = true := by
    simp [digA, digL, tabV, vV, Value.oneCell']
  have hinf : (Try.prog.info? 160).map (·.size) = some (digA (foldB K64 (bytesN m) (m.size / 64)) (tailB m (m.size / 64)) m.size).size := by rw [hcs]; kernel_rfl
  have hz0 : (digA (foldB K64 (bytesN m) (m.size / 64)) (tailB m (m.size / 64)) m.size).size = Try.zeroCells160.size := by rw [hcs]; kernel_rfl
  have hinf0 : (Try.prog.info? 160).map (·.size) = some Try.zeroCells160.size := by kernel_rfl
  generalize hdA : digA (foldB K64 (bytesN m) (m.size / 64)) (tailB m (m.size / 64)) m.size = dA at *
  replace hdA := Lib.hid hdA
  have hlt := Whole.lt h
  replace hW := Lib.hid hW
  replace hV := Lib.hid hV
  replace hnum := Lib.hid hnum
  replace hrep := Lib.hid hrep
  go_enter Try.func73, Try.ntmps73
  go_upto_region 2 with (first | ((with_reducible apply wl_loadW (ty := 160) h Try.underlying160); rfl; rfl; rfl; exact hinf) | ((with_reducible apply wl_storeW (ty := 160) hn); rfl; rfl; rfl; exact hinf0; exact hz0; exact hall; intro w2 hs2 hg2 hz2))
  have hMX : MsgAt w2 w.heap.size m := by
    unfold MsgAt DigAt
    rw [hdA.out]
    exact hs2
  have hB2 : Below w.heap.size w w2 := below_only' hBn hg2 (Nat.le_refl _)
  have c81' : w2.cell? ⟨g, 81, none⟩ = some (.int .u64 (m.size : Int)) := cell_keep c81 hB2
  have c80X : w2.cell? ⟨w.heap.size, 80, none⟩ = some (.string (tailB m (m.size / 64))) := DigAt.c80 hMX
  have hx2 := Whole.lt hMX
  clear hs2 hg2 hz2 hn hBn h hall hinf hinf0 hz0 hcs hdA c81
  generalize tailB m (m.size / 64) = r0 at *
  have hex2 : (119 - (r0.size : Int)) % 64 = ((padZ m.size : Nat) : Int) := by
    unfold padZ
    omega
  have hw119 : IntKind.i64.wrap (119 - (r0.size : Int)) = 119 - (r0.size : Int) := by simp [IntKind.wrap, IntKind.signed, IntKind.bits]; omega
  have hw8 : IntKind.u64.wrap (8 * (m.size : Int)) = ((8 * m.size : Nat) : Int) := by simp [IntKind.wrap, IntKind.signed, IntKind.bits]; omega
  replace htl := Lib.hid htl
  generalize hc : padZ m.size = c at *
  replace hc := Lib.hid hc
  obtain ⟨X, hX⟩ : ∃ X, w.heap.size = X := ⟨_, rfl⟩
  rw [hX] at hMX hB2 c80X hx2 hlt hW ⊢
  go_upto_region 3 with (fail)
  generalize hZ : (⟨(zs c).toArray⟩ : ByteArray) = Z at *
  generalize hN : outB (numB (8 * m.size) 8) = N at *
  have hZs : Z.size = c := by rw [← hZ]; show ((zs c).toArray).size = _; simp [zs]
  have hNs : N.size = 8 := by rw [← hN, outB_size, numB_length]
  have ofl1 : (9223372036854775807 < 1 + c) = False := eq_false (by omega)
  have ofl2 : (9223372036854775807 < 1 + c + 8) = False := eq_false (by omega)
  have hS1 : ((⟨#[128]⟩ : ByteArray) ++ Z).size = 1 + c := by rw [ByteArray.size_append, hZs]; rfl
  refine wp_region_grow 10 39 (by kernel_rfl) (by kernel_rfl) rfl (fun w4 hl4 => ?_)
  simp only [List.take_succ_cons, List.take_zero, List.drop_succ_cons, List.drop_zero]
  generalize ha : Act.mk _ _ = a0
  have k0 : a0.eval (.tmp 0) = .pointer (some ⟨g, 0, none⟩) := by subst ha; rfl
  have k3 : a0.eval (.tmp 3) = .pointer (some ⟨X, 0, none⟩) := by subst ha; rfl
  have k4 : a0.eval (.tmp 4) = .int .i64 (c : Int) := by subst ha; rfl
  have ks : a0.tmps.size = 39 := by subst ha; rfl
  have ha0 := ha.symm
  clear ha
  refine wpG_move (fun a w hk => (hk 4 rfl : a.eval (.tmp 4) = a0.eval (.tmp 4)).trans k4) ?_
  refine wpG_call _ _ Try.func101 (by kernel_rfl) (by kernel_rfl) (fun W _ => hrep.out W) (fun a w hk => by have e16 : a.eval (.tmp 16) = _ := hk 16 rfl; simp [e16] <;> first | rfl | exact ⟨rfl, rfl⟩ | exact ⟨rfl, rfl, rfl⟩) ?_
  apply wpG_value'
  · rfl
  · (intro a wx hlx hk K hK; have e17 : a.eval (.tmp 17) = _ := hk 17 rfl; simp only [execOp, e17]; clear e17 hk; go_simp; exact hK)
  refine wpG_move (fun a w hk => (hk 0 rfl : a.eval (.tmp 0) = a0.eval (.tmp 0)).trans k0) ?_
  apply wpG_value'
  · rfl
  · (intro a wx hlx hk K hK; have e19 : a.eval (.tmp 19) = _ := hk 19 rfl; simp only [execOp, e19]; clear e19 hk; go_simp; exact hK)
  apply wpG_value'
  · rfl
  · (intro a wx hlx hk K hK; have e20 : a.eval (.tmp 20) = _ := hk 20 rfl; simp only [execOp, e20]; clear e20 hk; go_simp; exact hK)
  refine wpG_load1 (hl4.cell c81') Try.underlying105 rfl (fun a w hk => hk 21 rfl) ?_
  apply wpG_value'
  · rfl
  · (intro a wx hlx hk K hK; have e22 : a.eval (.tmp 22) = _ := hk 22 rfl; simp only [execOp, e22]; clear e22 hk; go_simp; exact hK)
  refine wpG_call _ _ Try.func102 (by kernel_rfl) (by kernel_rfl) (fun W _ => hnum.out W) (fun a w hk => by have e23 : a.eval (.tmp 23) = _ := hk 23 rfl; simp [e23] <;> first | rfl | exact ⟨rfl, rfl⟩ | exact ⟨rfl, rfl, rfl⟩) ?_
  apply wpG_value'
  · rfl
  · (intro a wx hlx hk K hK; have e18 : a.eval (.tmp 18) = _ := hk 18 rfl; have e24 : a.eval (.tmp 24) = _ := hk 24 rfl; simp only [execOp, e18, e24]; clear e18 e24 hk; go_simp; exact hK)
  refine wpG_nil (fun w4' hl4' => ?_)
  refine fin_is ?_
  refine fin_is ?_
  refine fin_is ?_
  refine fin_is ?_
  refine fin_is ?_
  refine fin_is ?_
  refine fin_is ?_
  refine fin_is ?_
  refine fin_is ?_
  refine fin_is ?_
  refine fin_nil ?_
  have hM4 : MsgAt w4' X m := (hl4.trans hl4').whole hMX
  have WC := hW.out w4' hM4
  have hB4 : Below X w w4' := by rw [← hX] at hB2 ⊢; exact below_next' hB2 (hl4.trans hl4')
  have hs4 := (hl4.trans hl4').size
  subst ha0
  clear k0 k3 k4 ks hW hrep hMX hM4 hl4 hl4' c81' c80X hB2
  obtain ⟨dZ, hdZ⟩ : ∃ d, digA (shaV K64 m) (tailB (m ++ ((⟨#[128]⟩ ++ Z) ++ N)) ((m ++ ((⟨#[128]⟩ ++ Z) ++ N)).size / 64)) (m ++ ((⟨#[128]⟩ ++ Z) ++ N)).size = d := ⟨_, rfl⟩
  have hpart := V8.L_dig (shaV K64 m) (tailB (m ++ ((⟨#[128]⟩ ++ Z) ++ N)) ((m ++ ((⟨#[128]⟩ ++ Z) ++ N)).size / 64)) (m ++ ((⟨#[128]⟩ ++ Z) ++ N)).size
  rw [hdZ] at hpart
  have hok : (shaV K64 m).ok := foldB_ok _ _ _
  obtain ⟨V, hVV⟩ : ∃ V, shaV K64 m = V := ⟨_, rfl⟩
  have hshaN : shaN m = outB (V.L.flatMap wordB) := by unfold shaN; rw [hVV]
  rw [hVV] at hpart hok
  replace hV := Lib.hid (hV.out.trans hVV)
  rw [hVV] at hdZ
  replace hdZ := Lib.hid hdZ
  clear hVV
  have h8i : (Try.prog.info? 27).map (·.size) = some (vV V).toArray.size := by rw [show (vV V).toArray.size = 8 from rfl]; kernel_rfl
  replace hpart := Lib.hid hpart
  go_wp2_with (first | ((with_reducible refine WC.mono ?_); rintro e w6 ⟨rfl, hM6, hg6⟩; unfold MsgAt DigAt at hM6; rw [hV.out, hdZ.out] at hM6) | ((with_reducible apply wl_loadIn (ty := 27) (vV V).toArray hM6 hpart.out Try.underlying27); rfl; rfl; rfl; exact h8i))
  have hB6 := below_only hB4 (by omega) hg6 (Nat.le_refl _)
  have hs6 := hg6.size
  clear hM6 hg6 hB4 WC hpart hdZ hV h8i
  have hVl : V.L.length = 8 := rfl
  have hV32 := V8.L_lt hok
  have hn4 : ∀ (x : Nat) (hx : x < 4294967296) (w : World), Calls Try.prog 102 #[.int .u64 x, .int .i64 4] w fun e w' => e = .returned (.string (outB (numB x 4))) ∧ Below w.heap.size w w' := fun x hx w => number_calls x 4 (by omega) (by omega) w
  obtain ⟨iu, hiu⟩ : ∃ i, Try.prog.info? 25 = some i ∧ i.size = 1 := by
    obtain ⟨i, h1, _, h3, _⟩ := info_parts (P := Try.prog) (e := 25) (z := .int .u32 0) (size := 1) (bytes := 4) (by kernel_rfl)
    exact ⟨i, h1, h3⟩
  have hidx : ∀ (k : Nat) (hk : k < 8) w, (Instr.index 27 (.agg (vV V).toArray) (.int .i64 (k : Int))).run Try.prog w = .ok (.int .u32 ((V.L.getD k 0 : Nat) : Int)) w := fun k hk w =>
    run_index_arr (n := 8) (e := 25) Try.underlying27 Try.underlying25 rfl hiu.1 hiu.2 _ _ k hk _ (by
      unfold vV
      rw [List.getElem?_toArray, List.getElem?_map, List.getD_eq_getElem?_getD, List.getElem?_eq_getElem (by omega)]
      rfl) w
  replace hn4 := Lib.hid hn4
  replace hidx := Lib.hid hidx
  replace hshaN := Lib.hid hshaN
  go_loopg [5, 29] 9 (fun kg o i wr => ∃ (k : Nat), k ≤ 8 ∧ kg = 9 - k ∧ i = .int .i64 k ∧ o = .string (outB ((V.L.take k).flatMap wordB)) ∧ Below X w wr ∧ X ≤ wr.heap.size)
  case atStart => exact ⟨0, by decide, rfl, rfl, rfl, hB6, by omega⟩
  case round =>
    clear hB6
    obtain ⟨k, hk, hkg, rfl, rfl, hB6, hXs⟩ := hrel
    replace hkg := Lib.hid hkg
    by_cases hlt : k < 8
    · have hst := outB_step V.L (k := k) (by omega)
      have hx : V.L.getD k 0 < 4294967296 := getD_lt (by decide) hV32 _
      have NC := hn4.out (V.L.getD k 0) hx
      rw [← wordB_num _ hx] at NC
      have IX := hidx.out k hlt
      have hos : (outB ((V.L.take k).flatMap wordB)).size = 4 * k := by rw [outB_size, flat_size, List.length_take]; omega
      have hws : (outB (wordB (V.L.getD k 0))).size = 4 := by rw [outB_size]; rfl
      generalize V.L.getD k 0 = x at *
      generalize outB ((V.L.take k).flatMap wordB) = O at *
      generalize outB (wordB x) = y at *
      have hwr : IntKind.u64.wrap (x : Int) = (x : Int) := by simp [IntKind.wrap, IntKind.signed, IntKind.bits]; omega
      have nolen : (9223372036854775807 < 4 * k + 4) = False := eq_false (by omega)
      have q9 : ((k : Int) < 8) = True := eq_true (by omega)
      replace NC := Lib.hid NC
      replace hst := Lib.hid hst
      go_wp2_with ((with_reducible refine (NC.out _).mono ?_); rintro e w7 ⟨rfl, hb7⟩)
      go_roundg (8 - k)
      case measure => go_light; rw [hkg.out]; omega
      case rel => go_light; exact ⟨k + 1, by omega, by omega, by go_num, by rw [hst.out], hB6.trans (hb7.mono hXs), by have := hb7.size; omega⟩
    · obtain rfl : k = 8 := by omega
      rw [show V.L.take 8 = V.L from rfl] at *
      go_wp2_with (fail)
      go_returns
      go_light
      rw [hshaN.out, hX]
      exact ⟨rfl, hB6⟩
end Go.Proofs.Ytknjbkbbhgjnlaa
