/- Package smt: Prove. Conditions: at most 2^20 entries; keys of less than 256 bytes, values of at most 2^30; a key of at most 2^30 bytes. -/
import Derived.Test.YtknjbkbbhgjnlaaSmt17
import Derived.Test.YtknjbkbbhgjnlaaSmt9
namespace Go.Proofs.Ytknjbkbbhgjnlaa
open Go.RowKit
set_option linter.unusedVariables false
set_option linter.unusedSimpArgs false
theorem or8 (a b : Nat) (ha : a < 256) (hb : b < 256) : bits .or .u8 (a : Int) (b : Int) = ((a ||| b : Nat) : Int) := by
  have h : a ||| b < 2 ^ 8 := Nat.or_lt_two_pow ha hb
  have key : (BitVec.ofInt 8 (a : Int) ||| BitVec.ofInt 8 (b : Int)).toNat = a ||| b := by
    rw [BitVec.toNat_or, BitVec.toNat_ofInt, BitVec.toNat_ofInt]
    congr 1 <;> omega
  show IntKind.u8.wrap ((BitVec.ofInt 8 (a : Int) ||| BitVec.ofInt 8 (b : Int)).toNat : Nat) = _
  rw [key]
  simp only [IntKind.wrap, IntKind.signed, IntKind.bits]
  simp
  omega
theorem IK.far {w : World} {A : Option Addr} {l : List KV} {g j : Nat} {k : IntKind} {z : Int} (h : IK.Rows w A l) (hc : w.cell? ⟨g, j, none⟩ = some (.int k z)) (u : Value) : IK.Rows (w.setCell ⟨g, j, none⟩ u) A l := by
  refine ⟨h.1, fun hn => ?_⟩
  obtain ⟨ad, e, hlt, -⟩ := h.2 hn
  refine ⟨ad, e, by simpa using hlt, fun m x hm => ⟨ItemV x, IK.K_mk _ x, fun i v hv => ?_⟩⟩
  obtain ⟨hml, hx⟩ := List.getElem?_eq_some_iff.1 hm
  obtain ⟨ad', e', -, hcell⟩ := IK.item_ h hml
  obtain rfl : ad = ad' := Option.some.inj (e.symm.trans e')
  rw [hx] at hcell
  have h1 := hcell i v (by simpa using hv)
  have e3 : ad.add (m * IK.sz + i) = (ad.add (m * 3)).add i := (Go.Deep.add_add _ _ _).symm
  rw [e3]
  refine (World.cell?_setCell_other w _ _ u ?_).trans h1
  intro q
  rw [← q, hc] at h1
  have hs : ∃ s, v = .string s := by
    match i, hv with
    | 0, hv => exact ⟨_, (Option.some.inj hv).symm⟩
    | 1, hv => exact ⟨_, (Option.some.inj hv).symm⟩
    | 2, hv => exact ⟨_, (Option.some.inj hv).symm⟩
    | n + 3, hv => cases hv
  obtain ⟨s, rfl⟩ := hs
  cases h1
/-- Both parts as rows. -/
def PartOf (w w' : World) (e : Ending) (M1 M2 : List KV) : Prop := ∃ (A0 A1 : Option Addr) (c0 c1 : Nat), e = .returned (.agg #[.slice A0 M1.length c0, .slice A1 M2.length c1]) ∧ M1.length ≤ c0 ∧ M2.length ≤ c1 ∧ IK.Rows w' A0 M1 ∧ IK.Rows w' A1 M2 ∧ Later w w'
theorem partOf_calls (A : Option Addr) (l M1 M2 : List KV) (cap d : Nat) (hd : d < 256) (w : World) (hcap : l.length ≤ cap) (hl : l.length ≤ 1048576) (hr : IK.Rows w A l) (h1 : M1 = l.filter (onB d false)) (h2 : M2 = l.filter (onB d true)) :
    Calls Try.prog 67 #[.slice A l.length cap, .int .i64 d] w fun e w' => PartOf w w' e M1 M2 := by
  subst h1 h2
  exact part_calls A l cap d hd w hcap hl hr
set_option maxHeartbeats 8000000 in
set_option maxRecDepth 100000 in
theorem sProve_calls (key : ByteArray) (hk : key.size ≤ 1073741824) (b n : Nat) (f : ByteArray → Option ByteArray) (q0 : List KV) (hq0 : Listed f q0) (w : World) (hm : MapW w b n f) (hn : n ≤ 1048576) (hok : Fok f) :
    Calls Try.prog 28 #[.agg (arr .u32 (K64 ++ H8.L)), .map (some b), .string key] w fun e w' => e = .returned (.string (proveS key q0)) ∧ Later w w' := by
  have CE := fun w => sempties_calls w
  have CK := fun w => spath_calls key hk w
  have CI := fun W (h : MapW W b n f) => items_calls b n f W h hn (fun k v h => by have := (hok k v h).1; omega)
  have RT := fun (q : List KV) (hq : Listed f q) (hl : q.length ≤ n) (d : Nat) (m : List KV) (A : Option Addr) (c ge : Nat) (W : World) (hmq : ∀ p ∈ m, p ∈ q) (hml : m.length ≤ 1048576) h1 h2 h3 => sroot_calls ge (255 - d) m A c W (by omega) hml (fun p hp => hok.kv hq p (hmq p hp)) h1 h2 h3
  have hPs : (pathN key).size = 32 := shaN_len _
  have hPE := fun q (hq : Listed f q) => (proveS_perm key hq.1 (hq.perm hq0)).symm
  have hsz := tb_size
  generalize arr .u32 (K64 ++ H8.L) = tb at *
  have hEs : (sarr (downL (emp shaN) 256)).size = 257 := by rw [sarr_size, downL_length _ (by decide)]
  have hone := sarr_one (downL (emp shaN) 256)
  have hi9 : (Try.prog.info? 41).map (·.size) = some (sarr e257).size := by rw [sarr_size, e257_length]; kernel_rfl
  have hi8 : (sarr (downL (emp shaN) 256)).size = (sarr e257).size := by rw [hEs, sarr_size, e257_length]
  have hz := zero257s
  obtain ⟨Z, hZ⟩ : ∃ Z, Z = List.replicate 32 (0 : Nat) := ⟨_, rfl⟩
  have hmk : ∀ w : World, (Instr.makeSlice 46 (.int .i64 32) (.int .i64 32)).run Try.prog w = .ok (.slice (some ⟨w.heap.size, 0, none⟩) 32 32) (w.alloc (.cells (arr .u8 Z) 5)) := fun w => by
    have : arr .u8 Z = Array.replicate 32 (.int .u8 0) := by rw [hZ]; unfold arr; rw [List.map_replicate, List.toArray_replicate]; rfl
    rw [this]
    exact run_make1 (b := 1) Try.underlying46 (by kernel_rfl) rfl 32 (by decide) (by decide) w
  have hconv : ∀ (W : World) (g : Nat) (L : List Nat), L.length = 32 → Whole W g 5 (arr .u8 L) → (convert 46 9 (.slice (some ⟨g, 0, none⟩) 32 32)).run Try.prog W = .ok (.string (outB L)) W := fun W g L hL hW => by
    have := run_convert_bytes_arg (P := Try.prog) W 46 5 Try.underlying46 Try.underlying5 g 0 32 32 (L.map fun (n : Nat) => (n : Int)) (by simpa using hL) (fun i hi => by
      rw [Nat.zero_add, arr_cell hW (by omega)]
      congr 2
      rw [List.getD_eq_getElem?_getD, List.getD_eq_getElem?_getD, List.getElem?_map]
      cases L[i]? <;> rfl) 9 Try.underlying9
    rw [outB_nums] at this
    exact this
  have hZ0 : ∀ q, (pvS key q 0).1 = Z := fun q => by rw [hZ]; rfl
  have hZe : ∀ q, (pvS key q 0).2 = ByteArray.empty := fun q => rfl
  clear hZ
  obtain ⟨ib, q1, q2, q3, q4⟩ := info_parts (P := Try.prog) (e := 5) (z := .int .u8 0) (size := 1) (bytes := 1) (by kernel_rfl)
  have h1 := Whole.new w 29 tb
  have hB : Later w (w.alloc (.cells tb 29)) := (Later.refl w).alloc _
  replace CE := Lib.hid CE
  replace CK := Lib.hid CK
  replace CI := Lib.hid CI
  replace RT := Lib.hid RT
  replace hPs := Lib.hid hPs
  replace hPE := Lib.hid hPE
  replace hEs := Lib.hid hEs
  replace hconv := Lib.hid hconv
  replace hZ0 := Lib.hid hZ0
  replace hZe := Lib.hid hZe
  generalize sarr (downL (emp shaN) 256) = EE at *
  generalize proveS key q0 = RES at *
  clear hq0 hok
  go_enter Try.func28, Try.ntmps28
  go_upto_region 1 with (fail)
  generalize w.alloc (.cells tb 29) = W0 at *
  go_upto_region 2 with (first | ((with_reducible apply wl_loadW (ty := 29) h1 Try.underlying29); rfl; rfl; rfl; exact hsz) | ((with_reducible refine (CE.out _).mono ?_); rintro e wE ⟨rfl, hbE⟩; replace h1 := Later.whole hbE h1; replace hB := hB.trans hbE; have hgg : w.heap.size < wE.heap.size := h1.lt; have hE := Whole.new wE 41 (sarr e257); replace h1 := h1.alloc (.cells (sarr e257) 41); replace hB : Later w (wE.alloc (.cells (sarr e257) 41)) := hB.alloc _) | ((with_reducible apply wl_storeW (ty := 41) hE); rfl; rfl; rfl; exact hi9; exact hi8; exact hone; intro w7 hE7 hg7 hz7; replace h1 := Whole.only h1 hg7 (fun q => by have := Option.some.inj q; omega); replace hB : Later w w7 := below_only' hB hg7 (by omega)))
  clear hE hg7 hz7 hbE CE hz hone hi8 hi9
  generalize wE.heap.size = gE at *
  go_upto_region 4 with (first | ((with_reducible apply wl_loadW (ty := 29) h1 Try.underlying29); rfl; rfl; rfl; exact hsz) | ((with_reducible refine (CK.out _).mono ?_); rintro e wP ⟨rfl, hlP⟩; replace h1 := Later.whole hlP h1; replace hE7 := Later.whole hlP hE7; replace hB := Later.trans hB hlP) | ((with_reducible refine (CI.out _ (hm.later hB)).mono ?_); rintro e wI ⟨A, q, c, rfl, hcq, hqn, hlq, hR, hlI⟩; replace h1 := Later.whole hlI h1; replace hE7 := Later.whole hlI hE7; replace hB := Later.trans hB hlI))
  have hRES := hPE.out q hlq
  have hpr0 : proveS key q = outB (pvS key q 256).1 ++ (pvS key q 256).2 := rfl
  rw [hpr0] at hRES
  have RT' := RT.out q hlq hqn
  have hal := fun d => alongS_len key q d
  have hpv := pvS_step key q
  have hpok := pvOk key q
  have hal0 : alongS key 0 q = q := rfl
  have hals : ∀ d, alongS key (d + 1) q = (alongS key d q).filter (onB d (bitQ (pathN key) d)) := fun d => rfl
  have hots : ∀ d, otherS key d q = (alongS key d q).filter (onB d (!bitQ (pathN key) d)) := fun d => rfl
  have hmem : ∀ d p, p ∈ alongS key d q → p ∈ q := fun d p hp => ((alongS_mem key q p d).1 hp).1
  have hz1 := hZ0.out q
  have hz2 := hZe.out q
  generalize pathN key = PT at *
  generalize hPV : pvS key q = PV at *
  have hgb := Whole.new wI 5 (arr .u8 Z)
  have hgw : w.heap.size < wI.heap.size := h1.lt
  have hgE : gE < wI.heap.size := hE7.lt
  have hwE : w.heap.size < gE := hgg
  replace h1 := h1.alloc (.cells (arr .u8 Z) 5)
  replace hE7 := hE7.alloc (.cells (arr .u8 Z) 5)
  replace hR := hR.below ((Later.refl wI).alloc (.cells (arr .u8 Z) 5))
  replace hB : Later w (wI.alloc (.cells (arr .u8 Z) 5)) := hB.alloc _
  clear hlI hlP CK CI hm hPE RT hpr0 hZ0 hZe
  replace RT' := Lib.hid RT'
  replace hRES := Lib.hid hRES
  replace hal := Lib.hid hal
  replace hpv := Lib.hid hpv
  replace hpok := Lib.hid hpok
  replace hals := Lib.hid hals
  replace hots := Lib.hid hots
  replace hmem := Lib.hid hmem
  replace hPV := Lib.hid hPV
  replace hR := Lib.hid hR
  replace hlq := Lib.hid hlq
  replace hz1 := Lib.hid hz1
  replace hz2 := Lib.hid hz2
  go_upto_region 6 with (fail)
  generalize wI.alloc (.cells (arr .u8 Z) 5) = W4 at *
  generalize wI.heap.size = gb at *
  clear hmk
  go_wp2_with (fail)
  go_loopg [9, 11, 24] 257 (fun kg lv rr i wr => ∃ (d : Nat) (A1 : Option Addr) (c1 : Nat), i = .int .i64 d ∧ d ≤ 256 ∧ kg = 257 - d ∧ lv = .slice A1 (alongS key d q).length c1 ∧ (alongS key d q).length ≤ c1 ∧ IK.Rows wr A1 (alongS key d q) ∧ rr = .string (PV d).2 ∧ Whole wr gb 5 (arr .u8 (PV d).1) ∧ Whole wr w.heap.size 29 tb ∧ Whole wr gE 41 EE ∧ Later w wr)
  case atStart => exact ⟨0, A, c, rfl, Nat.zero_le _, rfl, by rw [hal0], by rw [hal0]; exact hcq, by rw [hal0]; exact hR.out, by rw [hz2.out]; rfl, by rw [hz1.out]; exact hgb, h1, hE7, hB⟩
  case round =>
    clear hR hgb h1 hE7 hB hal0 hz1 hz2
    obtain ⟨d, A1, cc1, rfl, hd, hkg, rfl, hc1, hr, rfl, hgb, h1, hE, hB⟩ := hrel
    replace hkg := Lib.hid hkg
    have hML := hal.out d
    by_cases hlt : d < 256
    · have hpd := hpok.out d (by omega)
      have hnx := hpv.out d
      have hn1 := hals.out d
      have ho1 := hots.out d
      have hmm := hmem.out d
      have hM2s : ∀ p, p ∈ otherS key d q → p ∈ q := fun p hp => by rw [hots.out d] at hp; exact hmem.out d p (List.mem_filter.1 hp).1
      have hM2l : (otherS key d q).length ≤ 1048576 := by rw [hots.out d]; have := List.length_filter_le (onB d (!bitQ PT d)) (alongS key d q); omega
      have hrs : (PV d).2.size ≤ 8192 := by rw [← hPV.out]; exact size_of_rest (by omega)
      have hPB := fun (i : Nat) => hpd.byte i
      have hPL := hpd.len
      have hPZ : ∀ s, d % 8 ≤ s → s < 8 → (PV d).1.getD (d / 8) 0 / 2 ^ (7 - s) % 2 = 0 := by
        intro s hs1 hs2
        have := hpd.bit (d / 8 * 8 + s) (by omega)
        rw [if_neg (by omega)] at this
        unfold bitL at this
        rw [show (d / 8 * 8 + s) / 8 = d / 8 by omega, show (d / 8 * 8 + s) % 8 = s by omega, hPV.out] at this
        exact this
      rw [hPV.out] at hPL
      have hPB' := hPB (d / 8)
      rw [hPV.out] at hPB'
      have CP0 := fun M1 M2 W h h1 h2 => partOf_calls A1 (alongS key d q) M1 M2 cc1 d hlt W hc1 (by omega) h h1 h2
      have CB := fun w => sbit_calls PT d (by rw [hPs.out]; omega) (by rw [hPs.out]; decide) w
      have RT2 := fun A c W h1 h2 h3 => RT'.out d (otherS key d q) A c gE W hM2s hM2l h1 h2 h3
      rw [show ((256 - (255 - d) : Nat) : Int) = (d : Int) + 1 by omega] at RT2
      have hXs := rootS_size (255 - d) (otherS key d q)
      have hM1L : (alongS key (d + 1) q).length ≤ 9223372036854775807 := by have := hal.out (d + 1); omega
      generalize hM1 : alongS key (d + 1) q = M1 at *
      replace hM1 := Lib.hid hM1
      generalize otherS key d q = M2 at *
      generalize rootS (255 - d) M2 = X2 at *
      generalize alongS key d q = M at *
      clear hpd hPB hmm
      replace hM2s := Lib.hid hM2s
      replace hnx := Lib.hid hnx
      replace hr := Lib.hid hr
      replace hPZ := Lib.hid hPZ
      replace hPB' := Lib.hid hPB'
      replace CP0 := Lib.hid CP0
      replace RT2 := Lib.hid RT2
      have hgbw : gb < wr.heap.size := hgb.lt
      have hzz : ∀ w : World, (zeroValue 117).run Try.prog w = .ok (.agg #[.slice none 0 0, .slice none 0 0]) w := fun w => by kernel_rfl
      cases hBT : bitQ PT d
      · rw [hBT] at hn1 ho1
        rw [bitQ_no hBT] at CB
        simp only [Bool.not_false] at ho1
        have CP := fun W h => CP0.out M1 M2 W h hn1 ho1
        replace CP := Lib.hid CP
        replace CB := Lib.hid CB
        clear hn1 ho1 CP0 hBT
        have hs1 : M1.length ≤ 9223372036854775807 := hM1L
        by_cases hM2 : M2 = []
        · subst hM2
          have hnx' := hnx.out
          rw [if_pos rfl] at hnx'
          replace hnx' := Lib.hid hnx'
          simp only [List.length_nil] at *
          go_wp2_with (first | ((with_reducible refine (CP.out _ hr.out).mono ?_); rintro e w2 ⟨A2, A3, c2, c3, rfl, hc2, hc3, hR2, hR3, hl2⟩; replace hgb := Later.whole hl2 hgb; replace h1 := Later.whole hl2 h1; replace hE := Later.whole hl2 hE; replace hB := Later.trans hB hl2; have hgw2 : wr.heap.size ≤ w2.heap.size := hl2.size; have hP := Whole.new w2 117 #[.slice A2 M1.length c2, .slice A3 0 c3]; have hlP : Later w2 (w2.alloc (.cells #[.slice A2 M1.length c2, .slice A3 0 c3] 117)) := (Later.refl w2).alloc _; replace hgb := Later.whole hlP hgb; replace h1 := Later.whole hlP h1; replace hE := Later.whole hlP hE; replace hB : Later w (w2.alloc (.cells #[.slice A2 M1.length c2, .slice A3 0 c3] 117)) := Later.trans hB hlP; have p0 := hP.cell 0; have p1 := hP.cell 1; replace hR2 := hR2.below hlP; replace hR3 := hR3.below hlP) | ((with_reducible refine (CB.out _).mono ?_); rintro e wB ⟨rfl, rfl⟩))
          go_roundg (256 - d)
          case measure => go_light; rw [hkg.out]; omega
          case rel =>
            go_light
            exact ⟨d + 1, A2, c2, by go_num, by omega, by omega, by rw [hM1.out], by rw [hM1.out]; exact hc2, by rw [hM1.out]; exact hR2, by rw [hnx'.out], by rw [hnx'.out]; exact hgb, h1, hE, hB⟩
        · have hnx' := hnx.out
          rw [if_neg hM2] at hnx'
          have hM2l0 : 0 < M2.length := by
            cases M2 with
            | nil => exact absurd rfl hM2
            | cons x r => simp
          obtain ⟨j, hj⟩ : ∃ j, d / 8 = j := ⟨_, rfl⟩
          obtain ⟨r, hr8⟩ : ∃ r, d % 8 = r := ⟨_, rfl⟩
          have j1 : (d : Int) / 8 = j := by omega
          have j2 : (d : Int).tdiv 8 = j := by rw [Int.tdiv_eq_ediv_of_nonneg (Int.natCast_nonneg _)]; omega
          have r1 : (d : Int) % 8 = r := by omega
          have r2 : (d : Int).tmod 8 = r := by rw [Int.tmod_eq_emod_of_nonneg (Int.natCast_nonneg _)]; omega
          have hrlt : r < 8 := by omega
          have hjlt : j < 32 := by omega
          have hPZ' := hPZ.out
          have hPB2 := hPB'.out
          simp only [hj, hr8] at hPZ' hPB2 hnx'
          obtain ⟨a1, -⟩ := addbit _ r hPB2 hrlt hPZ'
          have a2 := orbit _ r hPB2 hrlt hPZ'
          generalize hxx : (PV d).1.getD j 0 = xx at *
          obtain ⟨Q, hQ⟩ : ∃ Q : Nat, 128 / 2 ^ r = Q := ⟨_, rfl⟩
          have w0 : r = 0 ∨ r = 1 ∨ r = 2 ∨ r = 3 ∨ r = 4 ∨ r = 5 ∨ r = 6 ∨ r = 7 := by omega
          have w1 : (128 : Int) / 2 ^ r = (Q : Int) := by rw [← hQ]; rcases w0 with rfl | rfl | rfl | rfl | rfl | rfl | rfl | rfl <;> decide
          have w2' : Int.fdiv 128 (2 ^ r) = (Q : Int) := by rw [← hQ]; rcases w0 with rfl | rfl | rfl | rfl | rfl | rfl | rfl | rfl <;> decide
          rw [hQ] at hnx' a1 a2
          have w5 : bits .or .u8 (xx : Int) (Q : Int) = ((xx + Q : Nat) : Int) := by rw [or8 xx Q (by omega) (by omega), a2]
          have jw : IntKind.i64.wrap (j : Int) = (j : Int) := by simp [IntKind.wrap, IntKind.signed, IntKind.bits]; omega
          clear hQ w0 a2
          have hjn : (j : Int) < 32 := by omega
          have hjp : (0 : Int) ≤ j := by omega
          have hrp : (0 : Int) ≤ r := by omega
          clear hj hr8
          replace hnx' := Lib.hid hnx'
          replace hxx := Lib.hid hxx
          go_upto_region 12 with (first | ((with_reducible refine (CP.out _ hr.out).mono ?_); rintro e w2 ⟨A2, A3, c2, c3, rfl, hc2, hc3, hR2, hR3, hl2⟩; replace hgb := Later.whole hl2 hgb; replace h1 := Later.whole hl2 h1; replace hE := Later.whole hl2 hE; replace hB := Later.trans hB hl2; have hgw2 : wr.heap.size ≤ w2.heap.size := hl2.size; have hP := Whole.new w2 117 #[.slice A2 M1.length c2, .slice A3 M2.length c3]; have hlP : Later w2 (w2.alloc (.cells #[.slice A2 M1.length c2, .slice A3 M2.length c3] 117)) := (Later.refl w2).alloc _; replace hgb := Later.whole hlP hgb; replace h1 := Later.whole hlP h1; replace hE := Later.whole hlP hE; replace hB : Later w (w2.alloc (.cells #[.slice A2 M1.length c2, .slice A3 M2.length c3] 117)) := Later.trans hB hlP; have p0 := hP.cell 0; have p1 := hP.cell 1; replace hR2 := hR2.below hlP; replace hR3 := hR3.below hlP) | ((with_reducible refine (CB.out _).mono ?_); rintro e wB ⟨rfl, rfl⟩))
          have hc0 := arr_cell hgb (i := j) (by omega)
          rw [hxx.out] at hc0
          refine wp_region_grow 10 67 (by kernel_rfl) (by kernel_rfl) rfl (fun w8 hl8 => ?_)
          simp only [List.take_succ_cons, List.take_zero, List.drop_succ_cons, List.drop_zero]
          generalize ha : Act.mk _ _ = a0
          have k10 : a0.eval (.tmp 10) = .slice (some ⟨gb, 0, none⟩) 32 32 := by subst ha; rfl
          have k12 : a0.eval (.tmp 12) = .int .i64 d := by subst ha; rfl
          have ks : a0.tmps.size = 67 := by subst ha; rfl
          have ha0 := ha.symm
          clear ha
          refine wpG_move (fun a w hk => (hk 10 rfl : a.eval (.tmp 10) = a0.eval (.tmp 10)).trans k10) ?_
          refine wpG_move (fun a w hk => (hk 12 rfl : a.eval (.tmp 12) = a0.eval (.tmp 12)).trans k12) ?_
          apply wpG_value'
          · rfl
          · (intro a wx hlx hk K hK; have e40 : a.eval (.tmp 40) = _ := hk 40 rfl; simp only [execOp, e40]; clear e40 hk; go_simp; exact hK)
          apply wpG_value'
          · rfl
          · (intro a wx hlx hk K hK; have e39 : a.eval (.tmp 39) = _ := hk 39 rfl; have e41 : a.eval (.tmp 41) = _ := hk 41 rfl; simp only [execOp, e39, e41]; clear e39 e41 hk; go_simp; exact hK)
          refine wpG_load1 (hl8.cell hc0) Try.underlying5 rfl (fun a w hk => hk 42 rfl) ?_
          refine wpG_move (fun a w hk => (hk 12 rfl : a.eval (.tmp 12) = a0.eval (.tmp 12)).trans k12) ?_
          apply wpG_value'
          · rfl
          · (intro a wx hlx hk K hK; have e44 : a.eval (.tmp 44) = _ := hk 44 rfl; simp only [execOp, e44]; clear e44 hk; go_simp; exact hK)
          apply wpG_value'
          · rfl
          · (intro a wx hlx hk K hK; have e45 : a.eval (.tmp 45) = _ := hk 45 rfl; simp only [execOp, e45]; clear e45 hk; go_simp; exact hK)
          apply wpG_value'
          · rfl
          · (intro a wx hlx hk K hK; have e43 : a.eval (.tmp 43) = _ := hk 43 rfl; have e46 : a.eval (.tmp 46) = _ := hk 46 rfl; simp only [execOp, e43, e46]; clear e43 e46 hk; go_simp; exact hK)
          apply wpG_value'
          · rfl
          · (intro a wx hlx hk K hK; have e39 : a.eval (.tmp 39) = _ := hk 39 rfl; have e41 : a.eval (.tmp 41) = _ := hk 41 rfl; simp only [execOp, e39, e41]; clear e39 e41 hk; go_simp; exact hK)
          refine wpG_nil (fun w8' hl8' => ?_)
          refine fin_is ?_
          refine fin_is ?_
          refine fin_is ?_
          refine fin_is ?_
          refine fin_is ?_
          refine fin_is ?_
          refine fin_is ?_
          refine fin_is ?_
          refine fin_is ?_
          refine fin_is ?_
          refine fin_nil ?_
          have hlq8 := hl8.trans hl8'
          refine wl_store1 (p := ⟨gb, j, none⟩) (v := .int .u8 ((xx + Q : Nat) : Int)) (Later.cell hlq8 hc0) ((Later.whole hlq8 hgb).frozen j) q1 q3 (by simp [eval_put, put_size, ks]) (by simp [eval_put, put_size, ks]) rfl rfl ?_
          have g3 := arr_put (Later.whole hlq8 hgb) j (xx + Q)
          have E3 := (Later.whole hlq8 hE).far (p := ⟨gb, j, none⟩) (show gE ≠ gb by omega) (.int .u8 ((xx + Q : Nat) : Int))
          have T3 := (Later.whole hlq8 h1).far (p := ⟨gb, j, none⟩) (show w.heap.size ≠ gb by omega) (.int .u8 ((xx + Q : Nat) : Int))
          have P3 := (Later.whole hlq8 hP).far (p := ⟨gb, j, none⟩) (show w2.heap.size ≠ gb by omega) (.int .u8 ((xx + Q : Nat) : Int))
          have B3 : Later w _ := (Later.trans hB hlq8).setCell (p := ⟨gb, j, none⟩) (show w.heap.size ≤ gb by omega) (.int .u8 ((xx + Q : Nat) : Int))
          have S2 := IK.far (hR2.below hlq8) (Later.cell hlq8 hc0) (.int .u8 ((xx + Q : Nat) : Int))
          have S3 := IK.far (hR3.below hlq8) (Later.cell hlq8 hc0) (.int .u8 ((xx + Q : Nat) : Int))
          subst ha0
          clear k10 k12 ks w1 w2' w5 jw j1 j2 r1 r2 hc0 a1 hPZ' hPB2 hgb h1 hE hP hB hR2 hR3 p0 p1
          generalize (World.setCell _ ⟨gb, j, none⟩ (.int .u8 ((xx + Q : Nat) : Int))) = W9 at *
          have p0 := P3.cell 0
          have p1 := P3.cell 1
          have y1 : IntKind.i64.wrap ((d : Int) + 1) = (d : Int) + 1 := by simp [IntKind.wrap, IntKind.signed, IntKind.bits]; omega
          simp only [Act.put, List.setIfInBounds_toArray, List.set_cons_succ, List.set_cons_zero]
          have hrs2 : (9223372036854775807 < (PV d).2.size + 32) = False := eq_false (by omega)
          go_upto_region 13 with (fail)
          generalize w2.heap.size = gp at *
          refine wp_region_grow 10 67 (by kernel_rfl) (by kernel_rfl) rfl (fun w9 hl9 => ?_)
          simp only [List.take_succ_cons, List.take_zero, List.drop_succ_cons, List.drop_zero]
          generalize ha : Act.mk _ _ = a0
          have k3 : a0.eval (.tmp 3) = .pointer (some ⟨w.heap.size, 0, none⟩) := by subst ha; rfl
          have k7 : a0.eval (.tmp 7) = .pointer (some ⟨gE, 0, none⟩) := by subst ha; rfl
          have k11 : a0.eval (.tmp 11) = .string (PV d).2 := by subst ha; rfl
          have k12 : a0.eval (.tmp 12) = .int .i64 d := by subst ha; rfl
          have k13 : a0.eval (.tmp 13) = .pointer (some ⟨gp, 0, none⟩) := by subst ha; rfl
          have k14 : a0.eval (.tmp 14) = .int .i64 0 := by subst ha; rfl
          have ks : a0.tmps.size = 67 := by subst ha; rfl
          have ha0 := ha.symm
          clear ha
          refine wpG_move (fun a w hk => (hk 11 rfl : a.eval (.tmp 11) = a0.eval (.tmp 11)).trans k11) ?_
          refine wpG_loadW (hl9.whole T3) Try.underlying29 rfl (hsz) (fun a w hk => (hk 3 rfl : a.eval (.tmp 3) = a0.eval (.tmp 3)).trans k3) ?_
          refine wpG_move (fun a w hk => (hk 14 rfl : a.eval (.tmp 14) = a0.eval (.tmp 14)).trans k14) ?_
          apply wpG_value'
          · rfl
          · (intro a wx hlx hk K hK; have e51 : a.eval (.tmp 51) = _ := hk 51 rfl; simp only [execOp, e51]; clear e51 hk; go_simp; exact hK)
          apply wpG_value'
          · rfl
          · (intro a wx hlx hk K hK; have e13 : a.eval (.tmp 13) = _ := (hk 13 rfl : a.eval (.tmp 13) = a0.eval (.tmp 13)).trans k13; have e52 : a.eval (.tmp 52) = _ := hk 52 rfl; simp only [execOp, e13, e52]; clear e13 e52 hk; go_simp; exact hK)
          refine wpG_load1 (hl9.cell p1) Try.underlying110 rfl (fun a w hk => hk 53 rfl) ?_
          refine wpG_move (fun a w hk => (hk 12 rfl : a.eval (.tmp 12) = a0.eval (.tmp 12)).trans k12) ?_
          apply wpG_value'
          · rfl
          · (intro a wx hlx hk K hK; have e55 : a.eval (.tmp 55) = _ := hk 55 rfl; simp only [execOp, e55]; clear e55 hk; go_simp; exact hK)
          refine wpG_call _ _ Try.func56 (by kernel_rfl) (by kernel_rfl) (fun W hW => RT2.out A3 c3 W hc3 (Later.whole (hl9.trans hW) E3) (S3.below (hl9.trans hW))) (fun a w hk => by have e50 : a.eval (.tmp 50) = _ := hk 50 rfl; have e7 : a.eval (.tmp 7) = _ := (hk 7 rfl : a.eval (.tmp 7) = a0.eval (.tmp 7)).trans k7; have e54 : a.eval (.tmp 54) = _ := hk 54 rfl; have e56 : a.eval (.tmp 56) = _ := hk 56 rfl; simp [e50, e7, e54, e56]) ?_
          apply wpG_value'
          · rfl
          · (intro a wx hlx hk K hK; have e49 : a.eval (.tmp 49) = _ := hk 49 rfl; have e57 : a.eval (.tmp 57) = _ := hk 57 rfl; simp only [execOp, e49, e57]; clear e49 e57 hk; go_simp; exact hK)
          refine wpG_nil (fun w9' hl9' => ?_)
          refine fin_is ?_
          refine fin_is ?_
          refine fin_is ?_
          refine fin_is ?_
          refine fin_is ?_
          refine fin_is ?_
          refine fin_is ?_
          refine fin_is ?_
          refine fin_is ?_
          refine fin_is ?_
          refine fin_nil ?_
          subst ha0
          clear k3 k7 k11 k12 k13 k14 ks
          simp only [Act.put, List.setIfInBounds_toArray, List.set_cons_succ, List.set_cons_zero]
          have hlq9 := hl9.trans hl9'
          replace E3 := Later.whole hlq9 E3
          replace T3 := Later.whole hlq9 T3
          replace P3 := Later.whole hlq9 P3
          replace g3 := Later.whole hlq9 g3
          replace B3 := Later.trans B3 hlq9
          replace S2 := S2.below hlq9
          clear p0 p1
          have p0 := P3.cell 0
          have p1 := P3.cell 1
          generalize w9' = W10 at *
          clear hl9 hl9' hlq9 S3
          go_wp2_with (fail)
          go_roundg (256 - d)
          case measure => go_light; rw [hkg.out]; omega
          case rel =>
            go_light
            exact ⟨d + 1, A2, c2, by go_num, by omega, by omega, by rw [hM1.out], by rw [hM1.out]; exact hc2, by rw [hM1.out]; exact S2, by rw [hnx'.out], by rw [hnx'.out]; exact g3, T3, E3, B3⟩
      · rw [hBT] at hn1 ho1
        rw [(bitQ_true _ _).1 hBT] at CB
        simp only [Bool.not_true] at ho1
        have CP := fun W h => CP0.out M2 M1 W h ho1 hn1
        replace CP := Lib.hid CP
        replace CB := Lib.hid CB
        clear hn1 ho1 CP0 hBT
        have hs1 : M1.length ≤ 9223372036854775807 := hM1L
        by_cases hM2 : M2 = []
        · subst hM2
          have hnx' := hnx.out
          rw [if_pos rfl] at hnx'
          replace hnx' := Lib.hid hnx'
          simp only [List.length_nil] at *
          go_wp2_with (first | ((with_reducible refine (CP.out _ hr.out).mono ?_); rintro e w2 ⟨A2, A3, c2, c3, rfl, hc2, hc3, hR2, hR3, hl2⟩; replace hgb := Later.whole hl2 hgb; replace h1 := Later.whole hl2 h1; replace hE := Later.whole hl2 hE; replace hB := Later.trans hB hl2; have hgw2 : wr.heap.size ≤ w2.heap.size := hl2.size; have hP := Whole.new w2 117 #[.slice A2 0 c2, .slice A3 M1.length c3]; have hlP : Later w2 (w2.alloc (.cells #[.slice A2 0 c2, .slice A3 M1.length c3] 117)) := (Later.refl w2).alloc _; replace hgb := Later.whole hlP hgb; replace h1 := Later.whole hlP h1; replace hE := Later.whole hlP hE; replace hB : Later w (w2.alloc (.cells #[.slice A2 0 c2, .slice A3 M1.length c3] 117)) := Later.trans hB hlP; have p0 := hP.cell 0; have p1 := hP.cell 1; replace hR2 := hR2.below hlP; replace hR3 := hR3.below hlP) | ((with_reducible refine (CB.out _).mono ?_); rintro e wB ⟨rfl, rfl⟩))
          go_roundg (256 - d)
          case measure => go_light; rw [hkg.out]; omega
          case rel =>
            go_light
            exact ⟨d + 1, A3, c3, by go_num, by omega, by omega, by rw [hM1.out], by rw [hM1.out]; exact hc3, by rw [hM1.out]; exact hR3, by rw [hnx'.out], by rw [hnx'.out]; exact hgb, h1, hE, hB⟩
        · have hnx' := hnx.out
          rw [if_neg hM2] at hnx'
          have hM2l0 : 0 < M2.length := by
            cases M2 with
            | nil => exact absurd rfl hM2
            | cons x r => simp
          obtain ⟨j, hj⟩ : ∃ j, d / 8 = j := ⟨_, rfl⟩
          obtain ⟨r, hr8⟩ : ∃ r, d % 8 = r := ⟨_, rfl⟩
          have j1 : (d : Int) / 8 = j := by omega
          have j2 : (d : Int).tdiv 8 = j := by rw [Int.tdiv_eq_ediv_of_nonneg (Int.natCast_nonneg _)]; omega
          have r1 : (d : Int) % 8 = r := by omega
          have r2 : (d : Int).tmod 8 = r := by rw [Int.tmod_eq_emod_of_nonneg (Int.natCast_nonneg _)]; omega
          have hrlt : r < 8 := by omega
          have hjlt : j < 32 := by omega
          have hPZ' := hPZ.out
          have hPB2 := hPB'.out
          simp only [hj, hr8] at hPZ' hPB2 hnx'
          obtain ⟨a1, -⟩ := addbit _ r hPB2 hrlt hPZ'
          have a2 := orbit _ r hPB2 hrlt hPZ'
          generalize hxx : (PV d).1.getD j 0 = xx at *
          obtain ⟨Q, hQ⟩ : ∃ Q : Nat, 128 / 2 ^ r = Q := ⟨_, rfl⟩
          have w0 : r = 0 ∨ r = 1 ∨ r = 2 ∨ r = 3 ∨ r = 4 ∨ r = 5 ∨ r = 6 ∨ r = 7 := by omega
          have w1 : (128 : Int) / 2 ^ r = (Q : Int) := by rw [← hQ]; rcases w0 with rfl | rfl | rfl | rfl | rfl | rfl | rfl | rfl <;> decide
          have w2' : Int.fdiv 128 (2 ^ r) = (Q : Int) := by rw [← hQ]; rcases w0 with rfl | rfl | rfl | rfl | rfl | rfl | rfl | rfl <;> decide
          rw [hQ] at hnx' a1 a2
          have w5 : bits .or .u8 (xx : Int) (Q : Int) = ((xx + Q : Nat) : Int) := by rw [or8 xx Q (by omega) (by omega), a2]
          have jw : IntKind.i64.wrap (j : Int) = (j : Int) := by simp [IntKind.wrap, IntKind.signed, IntKind.bits]; omega
          clear hQ w0 a2
          have hjn : (j : Int) < 32 := by omega
          have hjp : (0 : Int) ≤ j := by omega
          have hrp : (0 : Int) ≤ r := by omega
          clear hj hr8
          replace hnx' := Lib.hid hnx'
          replace hxx := Lib.hid hxx
          go_upto_region 12 with (first | ((with_reducible refine (CP.out _ hr.out).mono ?_); rintro e w2 ⟨A2, A3, c2, c3, rfl, hc2, hc3, hR2, hR3, hl2⟩; replace hgb := Later.whole hl2 hgb; replace h1 := Later.whole hl2 h1; replace hE := Later.whole hl2 hE; replace hB := Later.trans hB hl2; have hgw2 : wr.heap.size ≤ w2.heap.size := hl2.size; have hP := Whole.new w2 117 #[.slice A2 M2.length c2, .slice A3 M1.length c3]; have hlP : Later w2 (w2.alloc (.cells #[.slice A2 M2.length c2, .slice A3 M1.length c3] 117)) := (Later.refl w2).alloc _; replace hgb := Later.whole hlP hgb; replace h1 := Later.whole hlP h1; replace hE := Later.whole hlP hE; replace hB : Later w (w2.alloc (.cells #[.slice A2 M2.length c2, .slice A3 M1.length c3] 117)) := Later.trans hB hlP; have p0 := hP.cell 0; have p1 := hP.cell 1; replace hR2 := hR2.below hlP; replace hR3 := hR3.below hlP) | ((with_reducible refine (CB.out _).mono ?_); rintro e wB ⟨rfl, rfl⟩))
          have hc0 := arr_cell hgb (i := j) (by omega)
          rw [hxx.out] at hc0
          refine wp_region_grow 10 67 (by kernel_rfl) (by kernel_rfl) rfl (fun w8 hl8 => ?_)
          simp only [List.take_succ_cons, List.take_zero, List.drop_succ_cons, List.drop_zero]
          generalize ha : Act.mk _ _ = a0
          have k10 : a0.eval (.tmp 10) = .slice (some ⟨gb, 0, none⟩) 32 32 := by subst ha; rfl
          have k12 : a0.eval (.tmp 12) = .int .i64 d := by subst ha; rfl
          have ks : a0.tmps.size = 67 := by subst ha; rfl
          have ha0 := ha.symm
          clear ha
          refine wpG_move (fun a w hk => (hk 10 rfl : a.eval (.tmp 10) = a0.eval (.tmp 10)).trans k10) ?_
          refine wpG_move (fun a w hk => (hk 12 rfl : a.eval (.tmp 12) = a0.eval (.tmp 12)).trans k12) ?_
          apply wpG_value'
          · rfl
          · (intro a wx hlx hk K hK; have e40 : a.eval (.tmp 40) = _ := hk 40 rfl; simp only [execOp, e40]; clear e40 hk; go_simp; exact hK)
          apply wpG_value'
          · rfl
          · (intro a wx hlx hk K hK; have e39 : a.eval (.tmp 39) = _ := hk 39 rfl; have e41 : a.eval (.tmp 41) = _ := hk 41 rfl; simp only [execOp, e39, e41]; clear e39 e41 hk; go_simp; exact hK)
          refine wpG_load1 (hl8.cell hc0) Try.underlying5 rfl (fun a w hk => hk 42 rfl) ?_
          refine wpG_move (fun a w hk => (hk 12 rfl : a.eval (.tmp 12) = a0.eval (.tmp 12)).trans k12) ?_
          apply wpG_value'
          · rfl
          · (intro a wx hlx hk K hK; have e44 : a.eval (.tmp 44) = _ := hk 44 rfl; simp only [execOp, e44]; clear e44 hk; go_simp; exact hK)
          apply wpG_value'
          · rfl
          · (intro a wx hlx hk K hK; have e45 : a.eval (.tmp 45) = _ := hk 45 rfl; simp only [execOp, e45]; clear e45 hk; go_simp; exact hK)
          apply wpG_value'
          · rfl
          · (intro a wx hlx hk K hK; have e43 : a.eval (.tmp 43) = _ := hk 43 rfl; have e46 : a.eval (.tmp 46) = _ := hk 46 rfl; simp only [execOp, e43, e46]; clear e43 e46 hk; go_simp; exact hK)
          apply wpG_value'
          · rfl
          · (intro a wx hlx hk K hK; have e39 : a.eval (.tmp 39) = _ := hk 39 rfl; have e41 : a.eval (.tmp 41) = _ := hk 41 rfl; simp only [execOp, e39, e41]; clear e39 e41 hk; go_simp; exact hK)
          refine wpG_nil (fun w8' hl8' => ?_)
          refine fin_is ?_
          refine fin_is ?_
          refine fin_is ?_
          refine fin_is ?_
          refine fin_is ?_
          refine fin_is ?_
          refine fin_is ?_
          refine fin_is ?_
          refine fin_is ?_
          refine fin_is ?_
          refine fin_nil ?_
          have hlq8 := hl8.trans hl8'
          refine wl_store1 (p := ⟨gb, j, none⟩) (v := .int .u8 ((xx + Q : Nat) : Int)) (Later.cell hlq8 hc0) ((Later.whole hlq8 hgb).frozen j) q1 q3 (by simp [eval_put, put_size, ks]) (by simp [eval_put, put_size, ks]) rfl rfl ?_
          have g3 := arr_put (Later.whole hlq8 hgb) j (xx + Q)
          have E3 := (Later.whole hlq8 hE).far (p := ⟨gb, j, none⟩) (show gE ≠ gb by omega) (.int .u8 ((xx + Q : Nat) : Int))
          have T3 := (Later.whole hlq8 h1).far (p := ⟨gb, j, none⟩) (show w.heap.size ≠ gb by omega) (.int .u8 ((xx + Q : Nat) : Int))
          have P3 := (Later.whole hlq8 hP).far (p := ⟨gb, j, none⟩) (show w2.heap.size ≠ gb by omega) (.int .u8 ((xx + Q : Nat) : Int))
          have B3 : Later w _ := (Later.trans hB hlq8).setCell (p := ⟨gb, j, none⟩) (show w.heap.size ≤ gb by omega) (.int .u8 ((xx + Q : Nat) : Int))
          have S2 := IK.far (hR2.below hlq8) (Later.cell hlq8 hc0) (.int .u8 ((xx + Q : Nat) : Int))
          have S3 := IK.far (hR3.below hlq8) (Later.cell hlq8 hc0) (.int .u8 ((xx + Q : Nat) : Int))
          subst ha0
          clear k10 k12 ks w1 w2' w5 jw j1 j2 r1 r2 hc0 a1 hPZ' hPB2 hgb h1 hE hP hB hR2 hR3 p0 p1
          generalize (World.setCell _ ⟨gb, j, none⟩ (.int .u8 ((xx + Q : Nat) : Int))) = W9 at *
          have p0 := P3.cell 0
          have p1 := P3.cell 1
          have y1 : IntKind.i64.wrap ((d : Int) + 1) = (d : Int) + 1 := by simp [IntKind.wrap, IntKind.signed, IntKind.bits]; omega
          simp only [Act.put, List.setIfInBounds_toArray, List.set_cons_succ, List.set_cons_zero]
          have hrs2 : (9223372036854775807 < (PV d).2.size + 32) = False := eq_false (by omega)
          go_upto_region 13 with (fail)
          generalize w2.heap.size = gp at *
          refine wp_region_grow 10 67 (by kernel_rfl) (by kernel_rfl) rfl (fun w9 hl9 => ?_)
          simp only [List.take_succ_cons, List.take_zero, List.drop_succ_cons, List.drop_zero]
          generalize ha : Act.mk _ _ = a0
          have k3 : a0.eval (.tmp 3) = .pointer (some ⟨w.heap.size, 0, none⟩) := by subst ha; rfl
          have k7 : a0.eval (.tmp 7) = .pointer (some ⟨gE, 0, none⟩) := by subst ha; rfl
          have k11 : a0.eval (.tmp 11) = .string (PV d).2 := by subst ha; rfl
          have k12 : a0.eval (.tmp 12) = .int .i64 d := by subst ha; rfl
          have k13 : a0.eval (.tmp 13) = .pointer (some ⟨gp, 0, none⟩) := by subst ha; rfl
          have k14 : a0.eval (.tmp 14) = .int .i64 1 := by subst ha; rfl
          have ks : a0.tmps.size = 67 := by subst ha; rfl
          have ha0 := ha.symm
          clear ha
          refine wpG_move (fun a w hk => (hk 11 rfl : a.eval (.tmp 11) = a0.eval (.tmp 11)).trans k11) ?_
          refine wpG_loadW (hl9.whole T3) Try.underlying29 rfl (hsz) (fun a w hk => (hk 3 rfl : a.eval (.tmp 3) = a0.eval (.tmp 3)).trans k3) ?_
          refine wpG_move (fun a w hk => (hk 14 rfl : a.eval (.tmp 14) = a0.eval (.tmp 14)).trans k14) ?_
          apply wpG_value'
          · rfl
          · (intro a wx hlx hk K hK; have e51 : a.eval (.tmp 51) = _ := hk 51 rfl; simp only [execOp, e51]; clear e51 hk; go_simp; exact hK)
          apply wpG_value'
          · rfl
          · (intro a wx hlx hk K hK; have e13 : a.eval (.tmp 13) = _ := (hk 13 rfl : a.eval (.tmp 13) = a0.eval (.tmp 13)).trans k13; have e52 : a.eval (.tmp 52) = _ := hk 52 rfl; simp only [execOp, e13, e52]; clear e13 e52 hk; go_simp; exact hK)
          refine wpG_load1 (hl9.cell p0) Try.underlying110 rfl (fun a w hk => hk 53 rfl) ?_
          refine wpG_move (fun a w hk => (hk 12 rfl : a.eval (.tmp 12) = a0.eval (.tmp 12)).trans k12) ?_
          apply wpG_value'
          · rfl
          · (intro a wx hlx hk K hK; have e55 : a.eval (.tmp 55) = _ := hk 55 rfl; simp only [execOp, e55]; clear e55 hk; go_simp; exact hK)
          refine wpG_call _ _ Try.func56 (by kernel_rfl) (by kernel_rfl) (fun W hW => RT2.out A2 c2 W hc2 (Later.whole (hl9.trans hW) E3) (S2.below (hl9.trans hW))) (fun a w hk => by have e50 : a.eval (.tmp 50) = _ := hk 50 rfl; have e7 : a.eval (.tmp 7) = _ := (hk 7 rfl : a.eval (.tmp 7) = a0.eval (.tmp 7)).trans k7; have e54 : a.eval (.tmp 54) = _ := hk 54 rfl; have e56 : a.eval (.tmp 56) = _ := hk 56 rfl; simp [e50, e7, e54, e56]) ?_
          apply wpG_value'
          · rfl
          · (intro a wx hlx hk K hK; have e49 : a.eval (.tmp 49) = _ := hk 49 rfl; have e57 : a.eval (.tmp 57) = _ := hk 57 rfl; simp only [execOp, e49, e57]; clear e49 e57 hk; go_simp; exact hK)
          refine wpG_nil (fun w9' hl9' => ?_)
          refine fin_is ?_
          refine fin_is ?_
          refine fin_is ?_
          refine fin_is ?_
          refine fin_is ?_
          refine fin_is ?_
          refine fin_is ?_
          refine fin_is ?_
          refine fin_is ?_
          refine fin_is ?_
          refine fin_nil ?_
          subst ha0
          clear k3 k7 k11 k12 k13 k14 ks
          simp only [Act.put, List.setIfInBounds_toArray, List.set_cons_succ, List.set_cons_zero]
          have hlq9 := hl9.trans hl9'
          replace E3 := Later.whole hlq9 E3
          replace T3 := Later.whole hlq9 T3
          replace P3 := Later.whole hlq9 P3
          replace g3 := Later.whole hlq9 g3
          replace B3 := Later.trans B3 hlq9
          replace S3 := S3.below hlq9
          clear p0 p1
          have p0 := P3.cell 0
          have p1 := P3.cell 1
          generalize w9' = W10 at *
          clear hl9 hl9' hlq9 S2
          go_wp2_with (fail)
          go_roundg (256 - d)
          case measure => go_light; rw [hkg.out]; omega
          case rel =>
            go_light
            exact ⟨d + 1, A3, c3, by go_num, by omega, by omega, by rw [hM1.out], by rw [hM1.out]; exact hc3, by rw [hM1.out]; exact S3, by rw [hnx'.out], by rw [hnx'.out]; exact g3, T3, E3, B3⟩
    · obtain rfl : d = 256 := by omega
      have h32 := (hpok.out 256 (Nat.le_refl _)).len
      rw [hPV.out] at h32
      have hcv := hconv.out wr gb (PV 256).1 h32 hgb
      have hrs : (PV 256).2.size ≤ 8192 := by rw [← hPV.out]; exact size_of_rest (Nat.le_refl _)
      have ho32 : (outB (PV 256).1).size = 32 := by rw [outB_size, h32]
      generalize outB (PV 256).1 = O at *
      clear hc1 hr
      go_wp2_with (fail)
      go_returns
      go_light
      exact ⟨by rw [hRES.out]; rfl, hB⟩
end Go.Proofs.Ytknjbkbbhgjnlaa
