/- The reference of layer 5: Prove. Conditions: at most 2^20 pairs; keys of less than 256 bytes, values of at most 2^30. -/
import Derived.Test.YtknjbkbbhgjnlaaSmt8
namespace Go.Proofs.Ytknjbkbbhgjnlaa
open Go.RowKit
set_option linter.unusedVariables false
set_option linter.unusedSimpArgs false
theorem alongS_len (key : ByteArray) (l : List KV) : ∀ d, (alongS key d l).length ≤ l.length
  | 0 => Nat.le_refl _
  | d + 1 => Nat.le_trans (List.length_filter_le _ _) (alongS_len key l d)
theorem pvS_step (key : ByteArray) (l : List KV) (d : Nat) : pvS key l (d + 1) = if otherS key d l = [] then pvS key l d else ((pvS key l d).1.set (d / 8) ((pvS key l d).1.getD (d / 8) 0 + 128 / 2 ^ (d % 8)), (pvS key l d).2 ++ rootS (255 - d) (otherS key d l)) := rfl
theorem bitN_same {a b : ByteArray} {i j : Nat} (h : bitQ a i = bitQ b j) : bitN a i = bitN b j := by
  cases hb : bitQ b j
  · rw [hb] at h; rw [bitQ_no h, bitQ_no hb]
  · rw [hb] at h; rw [(bitQ_true _ _).1 h, (bitQ_true _ _).1 hb]
theorem bitN_not {a b : ByteArray} {i j : Nat} (h : ¬ bitQ a i = bitQ b j) : bitN a i ≠ bitN b j := by
  intro q
  apply h
  unfold bitQ
  rw [q]
theorem size_of_rest {key : ByteArray} {l : List KV} {d : Nat} (hd : d ≤ 256) : (pvS key l d).2.size ≤ 8192 := by
  obtain ⟨n, h1, h2⟩ := (pvOk key l d hd).rest
  omega
set_option maxHeartbeats 8000000 in
set_option maxRecDepth 100000 in
theorem prove05_calls (key : ByteArray) (l : List KV) (A : Option Addr) (cap : Nat) (w : World) (hk : key.size ≤ 1073741824) (hl : l.length ≤ 1048576) (hok : KVok l) (hcap : l.length ≤ cap) (hr : PK.Rows w A l) :
    Calls Try.prog 24 #[.agg (sarr (downL (emp shaN) 256)), .slice A l.length cap, .string key] w fun e w' => e = .returned (.string (proveS key l)) ∧ Later w w' := by
  have hE := Whole.new w 41 (sarr (downL (emp shaN) 256))
  have hB : Later w (w.alloc (.cells (sarr (downL (emp shaN) 256)) 41)) := (Later.refl w).alloc _
  have hi7 := ee_info
  have CK0 := fun w => h05_calls (⟨#[75]⟩ ++ key) (by rw [ByteArray.size_append]; show 1 + key.size ≤ _; omega) w
  have e1 : shaN (⟨#[75]⟩ ++ key) = pathN key := rfl
  rw [e1] at CK0
  have CPA := fun W h => paths05_calls A l cap W hcap hl (fun p hp => by have := (hok p hp).1; omega) h
  have hPs : (pathN key).size = 32 := shaN_len _
  have RT := fun (d : Nat) (hd : d < 256) (m : List KV) A P c pc W h1 h2 => root05_calls (255 - d) m A P c pc W (by omega) h1 h2
  have hstep := fun d b m k hk => sidesN_succ d b m k hk
  have hsl := fun d b m k => sidesN_len d b m k
  have hsz0 : ∀ d b m, sidesN d b m 0 = [] := fun d b m => rfl
  have hsN : ∀ d b (m : List KV), sidesN d b m m.length = m.filter (onB d b) := fun d b m => by unfold sidesN; rw [List.take_length]
  have hal := fun d => alongS_len key l d
  have hpv := pvS_step key l
  have hpok := pvOk key l
  have hpr0 : proveS key l = outB (pvS key l 256).1 ++ (pvS key l 256).2 := rfl
  have hp0 : pvS key l 0 = (List.replicate 32 0, ByteArray.empty) := rfl
  have hal0 : alongS key 0 l = l := rfl
  have hals : ∀ d, alongS key (d + 1) l = (alongS key d l).filter (onB d (bitQ (pathN key) d)) := fun d => rfl
  have hots : ∀ d, otherS key d l = (alongS key d l).filter (onB d (!bitQ (pathN key) d)) := fun d => rfl
  have hmem : ∀ d p, p ∈ alongS key d l → p ∈ l := fun d p hp => ((alongS_mem key l p d).1 hp).1
  obtain ⟨Z, hZ⟩ : ∃ Z, Z = List.replicate 32 (0 : Nat) := ⟨_, rfl⟩
  rw [← hZ] at hp0
  have hmk : ∀ w : World, (Instr.makeSlice 46 (.int .i64 32) (.int .i64 32)).run Try.prog w = .ok (.slice (some ⟨w.heap.size, 0, none⟩) 32 32) (w.alloc (.cells (arr .u8 Z) 5)) := fun w => by
    have : arr .u8 Z = Array.replicate 32 (.int .u8 0) := by rw [hZ]; unfold arr; rw [List.map_replicate, List.toArray_replicate]; rfl
    rw [this]
    exact run_make1 (b := 1) Try.underlying46 (by kernel_rfl) rfl 32 (by decide) (by decide) w
  have hconv : ∀ (W : World) (g : Nat) (L : List Nat), L.length = 32 → Whole W g 5 (arr .u8 L) → (convert 46 9 (.slice (some ⟨g, 0, none⟩) 32 32)).run Try.prog W = .ok (.string (outB L)) W := fun W g L hL hW => by
    have := run_convert_bytes_arg (P := Try.prog) W 46 5 Try.underlying46 Try.underlying5 g 0 32 32 (L.map fun (n : Nat) => (n : Int)) (by simpa using hL) (fun i hi => by
      rw [Nat.zero_add, arr_cell hW (by omega)]
      congr 2
      rw [List.getD_eq_getElem?_getD, List.getD_eq_getElem?_getD, List.getElem?_map]
      cases L[i]? <;> rfl) 9 Try.underlying9
    rw [outB_nums] at this
    exact this
  clear hZ
  obtain ⟨ib, q1, q2, q3, q4⟩ := info_parts (P := Try.prog) (e := 5) (z := .int .u8 0) (size := 1) (bytes := 1) (by kernel_rfl)
  generalize pathN key = PT at *
  generalize sarr (downL (emp shaN) 256) = EE at *
  generalize proveS key l = RES at *
  generalize hPV : pvS key l = PV at *
  generalize sidesN = SD at *
  replace CK0 := Lib.hid CK0
  replace CPA := Lib.hid CPA
  replace RT := Lib.hid RT
  replace hstep := Lib.hid hstep
  replace hsl := Lib.hid hsl
  replace hsz0 := Lib.hid hsz0
  replace hsN := Lib.hid hsN
  replace hal := Lib.hid hal
  replace hpv := Lib.hid hpv
  replace hpok := Lib.hid hpok
  replace hpr0 := Lib.hid hpr0
  replace hp0 := Lib.hid hp0
  replace hal0 := Lib.hid hal0
  replace hals := Lib.hid hals
  replace hots := Lib.hid hots
  replace hmem := Lib.hid hmem
  replace hok := Lib.hid hok
  replace hPV := Lib.hid hPV
  replace hconv := Lib.hid hconv
  replace hr := Lib.hid hr
  clear e1
  go_enter Try.func24, Try.ntmps24
  go_upto_region 1 with (fail)
  generalize w.alloc (.cells EE 41) = W1 at *
  go_upto_region 3 with (first | ((with_reducible refine (CK0.out _).mono ?_); rintro e w2 ⟨rfl, hl2⟩; replace hE := Later.whole hl2 hE; replace hB := hB.trans hl2) | ((with_reducible refine (CPA.out _ (hr.out.below hB)).mono ?_); rintro e w3 ⟨⟨v3, rfl, hv3⟩, hl3⟩; replace hE := Later.whole hl3 hE; replace hB := hB.trans hl3))
  obtain ⟨A3, c3, rfl, hc3, hR3⟩ := TextRow.rows hv3 (by rw [List.length_map]; omega)
  rw [List.length_map] at hc3
  simp only [List.length_map] at *
  have hgb := Whole.new w3 5 (arr .u8 Z)
  have hglt : w.heap.size < w3.heap.size := hE.lt
  replace hE := hE.alloc (.cells (arr .u8 Z) 5)
  replace hR3 := hR3.below ((Later.refl w3).alloc (.cells (arr .u8 Z) 5))
  have hB2 : Later w (w3.alloc (.cells (arr .u8 Z) 5)) := hB.alloc _
  clear hB hv3 hl2 hl3 CK0 CPA
  go_upto_region 6 with (fail)
  generalize w3.alloc (.cells (arr .u8 Z) 5) = W4 at *
  generalize w3.heap.size = gb at *
  clear hmk
  go_loopg [1, 8, 10, 11] 257 (fun kg lv pv rr i wr => ∃ (d : Nat) (A1 P1 : Option Addr) (c1 p1 : Nat), i = .int .i64 d ∧ d ≤ 256 ∧ kg = 257 - d ∧ lv = .slice A1 (alongS key d l).length c1 ∧ (alongS key d l).length ≤ c1 ∧ PK.Rows wr A1 (alongS key d l) ∧ pv = .slice P1 (alongS key d l).length p1 ∧ (alongS key d l).length ≤ p1 ∧ Kn.str.Rows wr P1 ((alongS key d l).map fun p => pathN p.1) ∧ rr = .string (PV d).2 ∧ Whole wr gb 5 (arr .u8 (PV d).1) ∧ Whole wr w.heap.size 41 EE ∧ Later w wr)
  case atStart => exact ⟨0, A, A3, cap, c3, rfl, Nat.zero_le _, rfl, by rw [hal0.out], by rw [hal0.out]; exact hcap, by rw [hal0.out]; exact hr.out.below hB2, by rw [hal0.out], by rw [hal0.out]; exact hc3, by rw [hal0.out]; exact hR3, by rw [hp0.out]; rfl, by rw [hp0.out]; exact hgb, hE, hB2⟩
  case round =>
    clear hR3 hgb hE hB2 hp0 hal0
    obtain ⟨d, A1, P1, cc1, pp1, rfl, hd, hkg, rfl, hc1, hr, rfl, hp1, hpr, rfl, hgb, hE, hB⟩ := hrel
    replace hkg := Lib.hid hkg
    have hML := hal.out d
    by_cases hlt : d < 256
    · have hpd := hpok.out d (by omega)
      have hnx := hpv.out d
      have hn1 := hals.out d
      have ho1 := hots.out d
      have hmm := hmem.out d
      have hM2s : ∀ p, p ∈ otherS key d l → p ∈ alongS key d l := fun p hp => by rw [hots.out d] at hp; exact (List.mem_filter.1 hp).1
      have hst0 := fun k hk => hstep.out d (bitQ PT d) (alongS key d l) k hk
      have hst1 := fun k hk => hstep.out d (!bitQ PT d) (alongS key d l) k hk
      have hsl0 := fun k => hsl.out d (bitQ PT d) (alongS key d l) k
      have hsl1 := fun k => hsl.out d (!bitQ PT d) (alongS key d l) k
      have z1 := hsz0.out d (bitQ PT d) (alongS key d l)
      have z2 := hsz0.out d (!bitQ PT d) (alongS key d l)
      have f1 := hsN.out d (bitQ PT d) (alongS key d l)
      have f2 := hsN.out d (!bitQ PT d) (alongS key d l)
      rw [← hn1] at f1
      rw [← ho1] at f2
      have hRd := RT.out d hlt
      have hrs : (PV d).2.size ≤ 8192 := by rw [← hPV.out]; exact size_of_rest (by omega)
      have hPB := fun (i : Nat) => hpd.byte i
      have hPL := hpd.len
      have hPZ : ∀ s, d % 8 ≤ s → s < 8 → (PV d).1.getD (d / 8) 0 / 2 ^ (7 - s) % 2 = 0 := by
        intro s hs1 hs2
        have := hpd.bit (d / 8 * 8 + s) (by omega)
        rw [if_neg (by omega)] at this
        unfold bitL at this
        rw [show (d / 8 * 8 + s) / 8 = d / 8 by omega, show (d / 8 * 8 + s) % 8 = s by omega, hPV.out] at this
        exact this
      rw [hPV.out] at hPL
      have hPB' := hPB (d / 8)
      rw [hPV.out] at hPB'
      generalize hM1 : alongS key (d + 1) l = M1 at *
      replace hM1 := Lib.hid hM1
      generalize otherS key d l = M2 at *
      generalize alongS key d l = M at *
      generalize hBT : bitQ PT d = bt at *
      generalize hSA : SD d bt M = SA at *
      generalize hSB : SD d (!bt) M = SB at *
      replace hBT := Lib.hid hBT
      clear hSA hSB hn1 ho1 hpd hPB
      replace f1 := Lib.hid f1
      replace f2 := Lib.hid f2
      replace hst0 := Lib.hid hst0
      replace hst1 := Lib.hid hst1
      replace hsl0 := Lib.hid hsl0
      replace hsl1 := Lib.hid hsl1
      replace hRd := Lib.hid hRd
      replace hnx := Lib.hid hnx
      replace hmm := Lib.hid hmm
      replace hr := Lib.hid hr
      replace hpr := Lib.hid hpr
      replace hPZ := Lib.hid hPZ
      replace hPB' := Lib.hid hPB'
      have s0 : SRow 33 2 wr.heap.size PairV ([] : List KV) (.slice none 0 0) wr := SRow.nil _ _ _ _ _
      have s1 : SRow 9 1 wr.heap.size TxtV ([] : List ByteArray) (.slice none 0 0) wr := SRow.nil _ _ _ _ _
      go_upto_region 11 with (fail)
      rw [show decide ((d : Int) < 256) = true from decide_eq_true (by omega)]
      go_loopg [12, 13, 14, 15, 16] (M.length + 1) (fun kg a b p q i w2 => ∃ (k : Nat), i = .int .i64 k ∧ k ≤ M.length ∧ kg = M.length + 1 - k ∧ SRow 33 2 wr.heap.size PairV (SA k) a w2 ∧ SRow 33 2 wr.heap.size PairV (SB k) b w2 ∧ SRow 9 1 wr.heap.size TxtV ((SA k).map fun p => pathN p.1) p w2 ∧ SRow 9 1 wr.heap.size TxtV ((SB k).map fun p => pathN p.1) q w2 ∧ Dis a b ∧ Dis p q ∧ Below wr.heap.size wr w2)
      case atStart => exact ⟨0, rfl, Nat.zero_le _, rfl, by rw [z1]; exact s0, by rw [z2]; exact s0, by rw [z1]; exact s1, by rw [z2]; exact s1, Dis.nil _, Dis.nil _, Below.refl _ _⟩
      case round =>
        clear s0 s1 z1 z2
        obtain ⟨k, rfl, hk, hkg2, ha, hb, hp, hq, hdab, hdpq, hC⟩ := hrel
        replace hkg2 := Lib.hid hkg2
        by_cases hlt2 : k < M.length
        · have hlm : k < (M.map fun p => pathN p.1).length := by rw [List.length_map]; exact hlt2
          obtain ⟨ad, rfl, -, c0, c1⟩ := PK.pair_ (hr.out.below hC) hlt2
          obtain ⟨ae, rfl, -, d0⟩ := Kn.Rows.one_ (hpr.out.below hC) hlm
          have hpx : (M.map fun p => pathN p.1)[k] = pathN M[k].1 := List.getElem_map _
          have hn0 := hst0.out k hlt2
          have hn1 := hst1.out k hlt2
          have hl0 : (SA k).length ≤ 1048576 := Nat.le_trans (hsl0.out k) (by omega)
          have hl1 : (SB k).length ≤ 1048576 := Nat.le_trans (hsl1.out k) (by omega)
          have hm0 : ((SA k).map fun p => pathN p.1).length ≤ 1048576 := by rw [List.length_map]; exact hl0
          have hm1 : ((SB k).map fun p => pathN p.1).length ≤ 1048576 := by rw [List.length_map]; exact hl1
          rw [hpx] at d0
          generalize M[k] = x at *
          have hXs : (pathN x.1).size = 32 := shaN_len _
          have CB := fun w => bit05_calls (pathN x.1) d (by omega) (by omega) w
          have CK := fun w => bit05_calls PT d (by omega) (by omega) w
          have hkk : (k : Int) < M.length := by omega
          have b3 : ((M.length : Int) ≤ cc1) = True := eq_true (by omega)
          have b4 : ((M.length : Int) ≤ pp1) = True := eq_true (by omega)
          generalize hXX : pathN x.1 = X at *
          replace hXX := Lib.hid hXX
          replace hpx := Lib.hid hpx
          by_cases hsame : bitQ X d = bt
          · have hbn := bitN_same (hsame.trans hBT.out.symm)
            rw [hbn] at CB
            generalize bitN PT d = bv at *
            rw [if_pos hsame] at hn0
            rw [if_neg (by rw [hsame]; cases bt <;> decide), List.append_nil] at hn1
            replace hn0 := Lib.hid hn0
            replace hn1 := Lib.hid hn1
            replace CB := Lib.hid CB
            replace CK := Lib.hid CK
            clear hsame hbn
            go_wp2_with (first | ((with_reducible refine (CB.out _).mono ?_); rintro e wB ⟨rfl, rfl⟩) | ((with_reducible refine (CK.out _).mono ?_); rintro e wB2 ⟨rfl, rfl⟩) | ((with_reducible apply wl_loadAt (ty := 33) #[.string x.1, .string x.2] (pair_load c0 c1) Try.underlying33); rfl; rfl; rfl; kernel_rfl) | (at_builtin; refine wl_appendRL (f := PairV) (s := x) Try.underlying22 (z := .agg #[.string ⟨#[]⟩, .string ⟨#[]⟩]) (by_ := 32) (by kernel_rfl) rfl (by decide) (by decide) (SRow.later _ _ _ ((Later.refl _).alloc _) ha) (Whole.new _ _ _) rfl (PairV_one x) hl0 (by have := hC.size; go_size) rfl rfl (fun v5 w5 ho5 hg5 hc5 => ?_); have hB5 := below_own (hC.alloc hC.size (.cells (PairV x).toArray 33)) (SRow.later _ _ _ ((Later.refl _).alloc (.cells (PairV x).toArray 33)) ha) (Nat.le_refl _) hg5; obtain ⟨ae5, he5, -, d5⟩ := Kn.Rows.one_ (hpr.out.below hB5) hlm; obtain rfl := Option.some.inj he5; rw [hpx.out] at d5) | (at_builtin; refine wl_appendRL (f := TxtV) (s := X) Try.underlying44 (z := .string ⟨#[]⟩) (by_ := 16) (by kernel_rfl) rfl (by decide) (by decide) (SRow.later _ _ _ ((Later.refl _).alloc _) (SRow.other (SRow.later _ _ _ ((Later.refl _).alloc _) hp) (SRow.later _ _ _ ((Later.refl _).alloc _) ha) (by decide) hg5)) (Whole.new _ _ _) rfl (TxtV_one X) hm0 (by have h8 := hB5.size; simp; omega) rfl rfl (fun v6 w6 ho6 hg6 hc6 => ?_)))
            have A1 := fun (o : Obj) => SRow.later _ _ _ ((Later.refl wB2).alloc o) ha
            have P5 := SRow.other (SRow.later _ _ _ ((Later.refl wB2).alloc (.cells (PairV x).toArray 33)) hp) (A1 _) (by decide) hg5
            have Q5 := SRow.other (SRow.later _ _ _ ((Later.refl wB2).alloc (.cells (PairV x).toArray 33)) hq) (A1 _) (by decide) hg5
            have B5 := SRow.dis (SRow.later _ _ _ ((Later.refl wB2).alloc (.cells (PairV x).toArray 33)) hb) hg5 (hdab.symm)
            have D5 := Dis.grown (hdab.symm) hb hc5 (by simp)
            have P6 := SRow.later _ _ _ ((Later.refl w5).alloc (.cells (TxtV X).toArray 9)) P5
            have Q6 := SRow.dis (SRow.later _ _ _ ((Later.refl w5).alloc (.cells (TxtV X).toArray 9)) Q5) hg6 (hdpq.symm)
            have B6 := SRow.other (SRow.later _ _ _ ((Later.refl w5).alloc (.cells (TxtV X).toArray 9)) B5) P6 (by decide) hg6
            have A6 := SRow.other (SRow.later _ _ _ ((Later.refl w5).alloc (.cells (TxtV X).toArray 9)) ho5) P6 (by decide) hg6
            have D6 := Dis.grown (hdpq.symm) Q5 hc6 (by simp)
            have hB6 := below_own (hB5.alloc hB5.size (.cells (TxtV X).toArray 9)) P6 (Nat.le_refl _) hg6
            go_wp2_with (fail)
            go_roundg (M.length - k)
            case measure => go_light; rw [hkg2.out]; omega
            case rel =>
              go_light
              refine ⟨k + 1, by go_num, by omega, by omega, ?_, ?_, ?_, ?_, ?_, ?_, hB6⟩
              · rw [hn0.out]; exact A6
              · rw [hn1.out]; exact B6
              · rw [hn0.out, List.map_append, List.map_singleton, hXX.out]; exact ho6
              · rw [hn1.out]; exact Q6
              · exact D5.symm
              · exact D6.symm
          · have hbn := bitN_not (fun q => hsame (q.trans hBT.out))
            generalize bitN PT d = bv at *
            generalize bitN X d = bx at *
            have hbe : ((bx : Int) == bv) = false := by rw [beq_eq_false_iff_ne]; omega
            rw [if_neg hsame, List.append_nil] at hn0
            rw [if_pos (by revert hsame; cases bitQ X d <;> cases bt <;> decide)] at hn1
            replace hn0 := Lib.hid hn0
            replace hn1 := Lib.hid hn1
            replace CB := Lib.hid CB
            replace CK := Lib.hid CK
            clear hsame hbn
            go_wp2_with (first | ((with_reducible refine (CB.out _).mono ?_); rintro e wB ⟨rfl, rfl⟩) | ((with_reducible refine (CK.out _).mono ?_); rintro e wB2 ⟨rfl, rfl⟩) | ((with_reducible apply wl_loadAt (ty := 33) #[.string x.1, .string x.2] (pair_load c0 c1) Try.underlying33); rfl; rfl; rfl; kernel_rfl) | (at_builtin; refine wl_appendRL (f := PairV) (s := x) Try.underlying22 (z := .agg #[.string ⟨#[]⟩, .string ⟨#[]⟩]) (by_ := 32) (by kernel_rfl) rfl (by decide) (by decide) (SRow.later _ _ _ ((Later.refl _).alloc _) hb) (Whole.new _ _ _) rfl (PairV_one x) hl1 (by have := hC.size; go_size) rfl rfl (fun v5 w5 ho5 hg5 hc5 => ?_); have hB5 := below_own (hC.alloc hC.size (.cells (PairV x).toArray 33)) (SRow.later _ _ _ ((Later.refl _).alloc (.cells (PairV x).toArray 33)) hb) (Nat.le_refl _) hg5; obtain ⟨ae5, he5, -, d5⟩ := Kn.Rows.one_ (hpr.out.below hB5) hlm; obtain rfl := Option.some.inj he5; rw [hpx.out] at d5) | (at_builtin; refine wl_appendRL (f := TxtV) (s := X) Try.underlying44 (z := .string ⟨#[]⟩) (by_ := 16) (by kernel_rfl) rfl (by decide) (by decide) (SRow.later _ _ _ ((Later.refl _).alloc _) (SRow.other (SRow.later _ _ _ ((Later.refl _).alloc _) hq) (SRow.later _ _ _ ((Later.refl _).alloc _) hb) (by decide) hg5)) (Whole.new _ _ _) rfl (TxtV_one X) hm1 (by have h8 := hB5.size; simp; omega) rfl rfl (fun v6 w6 ho6 hg6 hc6 => ?_)))
            have A1 := fun (o : Obj) => SRow.later _ _ _ ((Later.refl wB2).alloc o) hb
            have P5 := SRow.other (SRow.later _ _ _ ((Later.refl wB2).alloc (.cells (PairV x).toArray 33)) hq) (A1 _) (by decide) hg5
            have Q5 := SRow.other (SRow.later _ _ _ ((Later.refl wB2).alloc (.cells (PairV x).toArray 33)) hp) (A1 _) (by decide) hg5
            have B5 := SRow.dis (SRow.later _ _ _ ((Later.refl wB2).alloc (.cells (PairV x).toArray 33)) ha) hg5 (hdab)
            have D5 := Dis.grown (hdab) ha hc5 (by simp)
            have P6 := SRow.later _ _ _ ((Later.refl w5).alloc (.cells (TxtV X).toArray 9)) P5
            have Q6 := SRow.dis (SRow.later _ _ _ ((Later.refl w5).alloc (.cells (TxtV X).toArray 9)) Q5) hg6 (hdpq)
            have B6 := SRow.other (SRow.later _ _ _ ((Later.refl w5).alloc (.cells (TxtV X).toArray 9)) B5) P6 (by decide) hg6
            have A6 := SRow.other (SRow.later _ _ _ ((Later.refl w5).alloc (.cells (TxtV X).toArray 9)) ho5) P6 (by decide) hg6
            have D6 := Dis.grown (hdpq) Q5 hc6 (by simp)
            have hB6 := below_own (hB5.alloc hB5.size (.cells (TxtV X).toArray 9)) P6 (Nat.le_refl _) hg6
            go_wp2_with (fail)
            go_roundg (M.length - k)
            case measure => go_light; rw [hkg2.out]; omega
            case rel =>
              go_light
              refine ⟨k + 1, by go_num, by omega, by omega, ?_, ?_, ?_, ?_, ?_, ?_, hB6⟩
              · rw [hn0.out]; exact B6
              · rw [hn1.out]; exact A6
              · rw [hn0.out]; exact Q6
              · rw [hn1.out, List.map_append, List.map_singleton, hXX.out]; exact ho6
              · exact D5
              · exact D6
        · obtain rfl : k = M.length := by omega
          have hl0 : (SA M.length).length ≤ 1048576 := Nat.le_trans (hsl0.out _) (by omega)
          have hl1 : (SB M.length).length ≤ 1048576 := Nat.le_trans (hsl1.out _) (by omega)
          rw [f1.out] at ha hp hl0
          rw [f2.out] at hb hq hl1
          obtain ⟨A2, c2, rfl, hc2, hR2⟩ := ha.rows PK rfl (fun _ => rfl) PK.K_mk (by omega)
          obtain ⟨A4, c4, rfl, hc4, hR4⟩ := hb.rows PK rfl (fun _ => rfl) PK.K_mk (by omega)
          obtain ⟨P2, p2, rfl, hp2, hS2⟩ := hp.rows Kn.str rfl (fun _ => rfl) (fun _ _ => rfl) (by rw [List.length_map]; omega)
          obtain ⟨P4, p4, rfl, hp4, hS4⟩ := hq.rows Kn.str rfl (fun _ => rfl) (fun _ _ => rfl) (by rw [List.length_map]; omega)
          rw [List.length_map] at hp2 hp4
          simp only [List.length_map] at *
          have hE2 := Later.whole hC hE
          have hg2 := Later.whole hC hgb
          have hBC := Later.trans hB hC
          have hgw := hgb.lt
          have hrw := hE.lt
          clear hdab hdpq
          by_cases hM2 : M2 = []
          · subst hM2
            have hnx' := hnx.out
            rw [if_pos rfl] at hnx'
            replace hnx' := Lib.hid hnx'
            clear hb hq hR4 hS4 hc4 hp4
            simp only [List.length_nil] at *
            go_wp2_with (fail)
            go_roundg (256 - d)
            case measure => go_light; rw [hkg.out]; omega
            case rel =>
              go_light
              refine ⟨d + 1, A2, P2, c2, p2, by go_num, by omega, by omega, by rw [hM1.out], by rw [hM1.out]; exact hc2, by rw [hM1.out]; exact hR2, by rw [hM1.out], by rw [hM1.out]; exact hp2, by rw [hM1.out]; exact hS2, by rw [hnx'.out], by rw [hnx'.out]; exact hg2, hE2, hBC⟩
          · have hnx' := hnx.out
            rw [if_neg hM2] at hnx'
            have hM2l : 0 < M2.length := by
              cases M2 with
              | nil => exact absurd rfl hM2
              | cons x r => simp
            have hok2 : KVok M2 := fun p hp => hok.out p (hmm.out p (hM2s p hp))
            obtain ⟨j, hj⟩ : ∃ j, d / 8 = j := ⟨_, rfl⟩
            obtain ⟨r, hr8⟩ : ∃ r, d % 8 = r := ⟨_, rfl⟩
            have j1 : (d : Int) / 8 = j := by omega
            have j2 : (d : Int).tdiv 8 = j := by rw [Int.tdiv_eq_ediv_of_nonneg (Int.natCast_nonneg _)]; omega
            have r1 : (d : Int) % 8 = r := by omega
            have r2 : (d : Int).tmod 8 = r := by rw [Int.tmod_eq_emod_of_nonneg (Int.natCast_nonneg _)]; omega
            have hrlt : r < 8 := by omega
            have hjlt : j < 32 := by omega
            have hPZ' := hPZ.out
            have hPB2 := hPB'.out
            simp only [hj, hr8] at hPZ' hPB2 hnx'
            have hc0 := arr_cell hg2 (i := j) (by omega)
            obtain ⟨a1, -⟩ := addbit _ r hPB2 hrlt hPZ'
            generalize hxx : (PV d).1.getD j 0 = xx at *
            obtain ⟨T, hT⟩ : ∃ T : Nat, 2 ^ r = T := ⟨_, rfl⟩
            obtain ⟨Q, hQ⟩ : ∃ Q : Nat, 128 / 2 ^ r = Q := ⟨_, rfl⟩
            have w0 : r = 0 ∨ r = 1 ∨ r = 2 ∨ r = 3 ∨ r = 4 ∨ r = 5 ∨ r = 6 ∨ r = 7 := by omega
            have w1 : IntKind.u8.wrap ((2 : Int) ^ r) = (T : Int) := by rw [← hT]; rcases w0 with rfl | rfl | rfl | rfl | rfl | rfl | rfl | rfl <;> decide
            have w2 : (T = 0) = False := by rw [← hT]; rcases w0 with rfl | rfl | rfl | rfl | rfl | rfl | rfl | rfl <;> decide
            have w3 : Int.tdiv 128 (T : Int) = (Q : Int) := by rw [← hT, ← hQ]; rcases w0 with rfl | rfl | rfl | rfl | rfl | rfl | rfl | rfl <;> decide
            have w6 : (128 : Int) / (T : Int) = (Q : Int) := by rw [← hT, ← hQ]; rcases w0 with rfl | rfl | rfl | rfl | rfl | rfl | rfl | rfl <;> decide
            rw [hQ] at hnx' a1
            have w4 : IntKind.u8.wrap (Q : Int) = (Q : Int) := by simp [IntKind.wrap, IntKind.signed, IntKind.bits]; omega
            have w5 : IntKind.u8.wrap ((xx : Int) + (Q : Int)) = ((xx + Q : Nat) : Int) := by simp [IntKind.wrap, IntKind.signed, IntKind.bits]; omega
            have jw : IntKind.i64.wrap (j : Int) = (j : Int) := by simp [IntKind.wrap, IntKind.signed, IntKind.bits]; omega
            clear hT hQ w0
            have hjn : (j : Int) < 32 := by omega
            have hjp : (0 : Int) ≤ j := by omega
            clear hj hr8
            replace hnx' := Lib.hid hnx'
            replace hxx := Lib.hid hxx
            go_upto_region 19 with (fail)
            refine wp_region_grow 11 99 (by kernel_rfl) (by kernel_rfl) rfl (fun w8 hl8 => ?_)
            simp only [List.take_succ_cons, List.take_zero, List.drop_succ_cons, List.drop_zero]
            generalize ha : Act.mk _ _ = a0
            have k9 : a0.eval (.tmp 9) = .slice (some ⟨gb, 0, none⟩) 32 32 := by subst ha; rfl
            have k11 : a0.eval (.tmp 11) = .int .i64 d := by subst ha; rfl
            have ks : a0.tmps.size = 99 := by subst ha; rfl
            have ha0 := ha.symm
            clear ha
            refine wpG_move (fun a w hk => (hk 9 rfl : a.eval (.tmp 9) = a0.eval (.tmp 9)).trans k9) ?_
            refine wpG_move (fun a w hk => (hk 11 rfl : a.eval (.tmp 11) = a0.eval (.tmp 11)).trans k11) ?_
            apply wpG_value'
            · rfl
            · (intro a wx hlx hk K hK; have e75 : a.eval (.tmp 75) = _ := hk 75 rfl; simp only [execOp, e75]; clear e75 hk; go_simp; exact hK)
            apply wpG_value'
            · rfl
            · (intro a wx hlx hk K hK; have e74 : a.eval (.tmp 74) = _ := hk 74 rfl; have e76 : a.eval (.tmp 76) = _ := hk 76 rfl; simp only [execOp, e74, e76]; clear e74 e76 hk; go_simp; exact hK)
            refine wpG_load1 (hl8.cell hc0) Try.underlying5 rfl (fun a w hk => hk 77 rfl) ?_
            refine wpG_move (fun a w hk => (hk 11 rfl : a.eval (.tmp 11) = a0.eval (.tmp 11)).trans k11) ?_
            apply wpG_value'
            · rfl
            · (intro a wx hlx hk K hK; have e79 : a.eval (.tmp 79) = _ := hk 79 rfl; simp only [execOp, e79]; clear e79 hk; go_simp; exact hK)
            apply wpG_value'
            · rfl
            · (intro a wx hlx hk K hK; have e80 : a.eval (.tmp 80) = _ := hk 80 rfl; simp only [execOp, e80]; clear e80 hk; go_simp; exact hK)
            apply wpG_value'
            · rfl
            · (intro a wx hlx hk K hK; have e81 : a.eval (.tmp 81) = _ := hk 81 rfl; simp only [execOp, e81]; clear e81 hk; go_simp; exact hK)
            apply wpG_value'
            · rfl
            · (intro a wx hlx hk K hK; have e78 : a.eval (.tmp 78) = _ := hk 78 rfl; have e82 : a.eval (.tmp 82) = _ := hk 82 rfl; simp only [execOp, e78, e82]; clear e78 e82 hk; go_simp; exact hK)
            apply wpG_value'
            · rfl
            · (intro a wx hlx hk K hK; have e74 : a.eval (.tmp 74) = _ := hk 74 rfl; have e76 : a.eval (.tmp 76) = _ := hk 76 rfl; simp only [execOp, e74, e76]; clear e74 e76 hk; go_simp; exact hK)
            refine wpG_nil (fun w8' hl8' => ?_)
            refine fin_is ?_
            refine fin_is ?_
            refine fin_is ?_
            refine fin_is ?_
            refine fin_is ?_
            refine fin_is ?_
            refine fin_is ?_
            refine fin_is ?_
            refine fin_is ?_
            refine fin_is ?_
            refine fin_is ?_
            refine fin_nil ?_
            have hlq := hl8.trans hl8'
            refine wl_store1 (p := ⟨gb, j, none⟩) (v := .int .u8 ((xx + Q : Nat) : Int)) (Later.cell hlq hc0) ((Later.whole hlq hg2).frozen j) q1 q3 (by simp [eval_put, put_size, ks]) (by simp [eval_put, put_size, ks]) rfl rfl ?_
            have g3 := arr_put (Later.whole hlq hg2) j (xx + Q)
            have E3 := (Later.whole hlq hE2).far (p := ⟨gb, j, none⟩) (show w.heap.size ≠ gb by omega) (.int .u8 ((xx + Q : Nat) : Int))
            have B3 : Later w _ := (Later.trans hBC hlq).setCell (p := ⟨gb, j, none⟩) (show w.heap.size ≤ gb by omega) (.int .u8 ((xx + Q : Nat) : Int))
            have a3 : SRow _ _ _ _ _ _ _ := own_far (SRow.later _ _ _ hlq ha) hgw j (.int .u8 ((xx + Q : Nat) : Int))
            have b3 : SRow _ _ _ _ _ _ _ := own_far (SRow.later _ _ _ hlq hb) hgw j (.int .u8 ((xx + Q : Nat) : Int))
            have p3 : SRow _ _ _ _ _ _ _ := own_far (SRow.later _ _ _ hlq hp) hgw j (.int .u8 ((xx + Q : Nat) : Int))
            have q3' : SRow _ _ _ _ _ _ _ := own_far (SRow.later _ _ _ hlq hq) hgw j (.int .u8 ((xx + Q : Nat) : Int))
            clear ha hb hp hq hR2 hR4 hS2 hS4 hg2 hE2 hBC
            obtain ⟨A2', c2', e1, -, hR2⟩ := a3.rows PK rfl (fun _ => rfl) PK.K_mk (by omega)
            obtain ⟨rfl, rfl⟩ : A2 = A2' ∧ c2 = c2' := by simpa using e1
            obtain ⟨A4', c4', e2, -, hR4⟩ := b3.rows PK rfl (fun _ => rfl) PK.K_mk (by omega)
            obtain ⟨rfl, rfl⟩ : A4 = A4' ∧ c4 = c4' := by simpa using e2
            obtain ⟨P2', p2', e3, -, hS2⟩ := p3.rows Kn.str rfl (fun _ => rfl) (fun _ _ => rfl) (by rw [List.length_map]; omega)
            obtain ⟨rfl, rfl⟩ : P2 = P2' ∧ p2 = p2' := by simpa using e3
            obtain ⟨P4', p4', e4, -, hS4⟩ := q3'.rows Kn.str rfl (fun _ => rfl) (fun _ _ => rfl) (by rw [List.length_map]; omega)
            obtain ⟨rfl, rfl⟩ : P4 = P4' ∧ p4 = p4' := by simpa using e4
            have RT2 := fun W h h' => hRd.out M2 A4 P4 c4 p4 W hl1 hok2 hc4 hp4 h h'
            rw [show ((256 - (255 - d) : Nat) : Int) = (d : Int) + 1 by omega] at RT2
            have hXs := rootS_size (255 - d) M2
            subst ha0
            clear k9 k11 ks e1 e2 e3 e4 a3 b3 p3 q3' w1 w2 w3 w4 w5 w6 jw j1 j2 r1 r2 hc0 a1 hPZ' hPB2
            generalize (World.setCell _ ⟨gb, j, none⟩ (.int .u8 ((xx + Q : Nat) : Int))) = W9 at *
            generalize rootS (255 - d) M2 = X2 at *
            have y1 : IntKind.i64.wrap ((d : Int) + 1) = (d : Int) + 1 := by simp [IntKind.wrap, IntKind.signed, IntKind.bits]; omega
            replace RT2 := Lib.hid RT2
            simp only [Act.put, List.setIfInBounds_toArray, List.set_cons_succ, List.set_cons_zero]
            have hrs' : ((PV d).2.size : Int) + 32 ≤ 9223372036854775807 := by omega
            go_wp2_with (first | ((with_reducible apply wl_loadW (ty := 41) E3 Try.underlying41); rfl; rfl; rfl; exact hi7) | ((with_reducible refine (RT2.out _ hR4 hS4).mono ?_); rintro e w10 ⟨rfl, hl10⟩; replace E3 := Later.whole hl10 E3; replace g3 := Later.whole hl10 g3; replace B3 := Later.trans B3 hl10; replace hR2 := hR2.below hl10; replace hS2 := hS2.below hl10))
            go_roundg (256 - d)
            case measure => go_light; rw [hkg.out]; omega
            case rel =>
              go_light
              refine ⟨d + 1, A2, P2, c2, p2, by go_num, by omega, by omega, by rw [hM1.out], by rw [hM1.out]; exact hc2, by rw [hM1.out]; exact hR2, by rw [hM1.out], by rw [hM1.out]; exact hp2, by rw [hM1.out]; exact hS2, by rw [hnx'.out], by rw [hnx'.out]; exact g3, E3, B3⟩
    · obtain rfl : d = 256 := by omega
      have h32 := (hpok.out 256 (Nat.le_refl _)).len
      rw [hPV.out] at h32
      have hcv := hconv.out wr gb (PV 256).1 h32 hgb
      have hpr1 := hpr0.out
      have hrs : (PV 256).2.size ≤ 8192 := by rw [← hPV.out]; exact size_of_rest (Nat.le_refl _)
      have ho32 : (outB (PV 256).1).size = 32 := by rw [outB_size, h32]
      generalize outB (PV 256).1 = O at *
      replace hpr1 := Lib.hid hpr1
      clear hc1 hp1 hr hpr
      go_wp2_with (fail)
      go_returns
      go_light
      exact ⟨by rw [hpr1.out]; rfl, hB⟩
end Go.Proofs.Ytknjbkbbhgjnlaa
