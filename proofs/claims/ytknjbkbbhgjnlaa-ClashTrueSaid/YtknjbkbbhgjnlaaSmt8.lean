/- The reference of layer 5: Root whole. Conditions: at most 2^20 pairs; keys of less than 256 bytes, values of at most 2^30. -/
import Derived.Test.YtknjbkbbhgjnlaaSmt7
namespace Go.Proofs.Ytknjbkbbhgjnlaa
open Go.RowKit
set_option linter.unusedVariables false
set_option linter.unusedSimpArgs false
def sidesN (d : Nat) (b : Bool) (l : List KV) (k : Nat) : List KV := (l.take k).filter (onB d b)
theorem sidesN_succ (d : Nat) (b : Bool) (l : List KV) (k : Nat) (hk : k < l.length) : sidesN d b l (k + 1) = sidesN d b l k ++ (if bitQ (pathN l[k].1) d = b then [l[k]] else []) := by
  unfold sidesN
  rw [List.take_succ_eq_append_getElem hk, List.filter_append]
  congr 1
  by_cases h : bitQ (pathN l[k].1) d = b
  · rw [if_pos h]; simp [List.filter, onB, h]
  · rw [if_neg h]
    have hb : (bitQ (pathN l[k].1) d == b) = false := beq_eq_false_iff_ne.2 h
    simp [List.filter, onB, hb]
theorem sidesN_len (d : Nat) (b : Bool) (l : List KV) (k : Nat) : (sidesN d b l k).length ≤ l.length := by
  unfold sidesN
  refine Nat.le_trans (List.length_filter_le _ _) ?_
  rw [List.length_take]
  exact Nat.min_le_right _ _
set_option maxHeartbeats 4000000 in
set_option maxRecDepth 100000 in
theorem root05_more (K : Nat) (hK : K < 256) (l : List KV) (h2 : 2 ≤ l.length) (hl : l.length ≤ 1048576) (A P : Option Addr) (c pc : Nat) (hc : l.length ≤ c) (hpc : l.length ≤ pc) (w : World) (hr : PK.Rows w A l) (hpr : Kn.str.Rows w P (l.map fun p => pathN p.1))
    (ih : ∀ (m : List KV) (A P : Option Addr) (c pc : Nat) (w : World), m.length ≤ l.length → (∀ p ∈ m, p ∈ l) → m.length ≤ c → m.length ≤ pc → PK.Rows w A m → Kn.str.Rows w P (m.map fun p => pathN p.1) →
      Calls Try.prog 22 #[.agg (sarr (downL (emp shaN) 256)), .slice A m.length c, .slice P m.length pc, .int .i64 ((255 - K + 1 : Nat) : Int)] w fun e w' => e = .returned (.string (rootS K m)) ∧ Later w w') :
    Calls Try.prog 22 #[.agg (sarr (downL (emp shaN) 256)), .slice A l.length c, .slice P l.length pc, .int .i64 ((255 - K : Nat) : Int)] w fun e w' => e = .returned (.string (rootS (K + 1) l)) ∧ Later w w' := by
  have hE := Whole.new w 41 (sarr (downL (emp shaN) 256))
  have hB : Later w (w.alloc (.cells (sarr (downL (emp shaN) 256)) 41)) := (Later.refl w).alloc _
  have hi7 := ee_info
  have hsp := rootS_split K l
  have hrs := rootS_size K
  have hh := fun s h w => h05_calls s h w
  obtain ⟨d, hd⟩ : ∃ d, 255 - K = d := ⟨_, rfl⟩
  rw [hd] at ih hsp ⊢
  rw [show ((d + 1 : Nat) : Int) = (d : Int) + 1 by omega] at ih
  have hd1 : d < 256 := by omega
  replace hsp : Hid (rootS (K + 1) l = _) := Lib.hid hsp
  generalize rootS (K + 1) l = RES at *
  have f1 : (sidesN d false l l.length) = l.filter (onB d false) := by unfold sidesN; rw [List.take_length]
  have f2 : (sidesN d true l l.length) = l.filter (onB d true) := by unfold sidesN; rw [List.take_length]
  generalize sarr (downL (emp shaN) 256) = EE at *
  have hstep := fun b k hk => sidesN_succ d b l k hk
  have hsl := fun b k => sidesN_len d b l k
  have z1 : sidesN d false l 0 = [] := rfl
  have z2 : sidesN d true l 0 = [] := rfl
  have hsm : ∀ b p, p ∈ sidesN d b l l.length → p ∈ l := by
    intro b p hp
    unfold sidesN at hp
    rw [List.take_length] at hp
    exact (List.mem_filter.1 hp).1
  generalize sidesN d = SD at *
  have s0 : SRow 33 2 (w.heap.size + 1) PairV ([] : List KV) (.slice none 0 0) (w.alloc (.cells EE 41)) := SRow.nil _ _ _ _ _
  have s1 : SRow 9 1 (w.heap.size + 1) TxtV ([] : List ByteArray) (.slice none 0 0) (w.alloc (.cells EE 41)) := SRow.nil _ _ _ _ _
  have x1 : ((l.length : Int) == 0) = false := by rw [beq_eq_false_iff_ne]; omega
  have x2 : ((d : Int) == 256) = false := by rw [beq_eq_false_iff_ne]; omega
  have x3 : ((l.length : Int) == 1) = false := by rw [beq_eq_false_iff_ne]; omega
  have b3 : ((l.length : Int) ≤ c) = True := eq_true (by omega)
  have b4 : ((l.length : Int) ≤ pc) = True := eq_true (by omega)
  replace ih := Lib.hid ih
  replace hh := Lib.hid hh
  replace hrs := Lib.hid hrs
  replace f1 := Lib.hid f1
  replace f2 := Lib.hid f2
  replace hstep := Lib.hid hstep
  replace hsl := Lib.hid hsl
  replace hsm := Lib.hid hsm
  replace hr := Lib.hid hr
  replace hpr := Lib.hid hpr
  replace hd := Lib.hid hd
  go_enter Try.func22, Try.ntmps22
  go_upto_region 7 with (fail)
  generalize w.alloc (.cells EE 41) = W1 at *
  go_upto_region 10 with (fail)
  go_loopg [9, 10, 11, 12, 13] (l.length + 1) (fun kg a b p q i wr => ∃ (k : Nat), i = .int .i64 k ∧ k ≤ l.length ∧ kg = l.length + 1 - k ∧ SRow 33 2 (w.heap.size + 1) PairV (SD false l k) a wr ∧ SRow 33 2 (w.heap.size + 1) PairV (SD true l k) b wr ∧ SRow 9 1 (w.heap.size + 1) TxtV ((SD false l k).map fun p => pathN p.1) p wr ∧ SRow 9 1 (w.heap.size + 1) TxtV ((SD true l k).map fun p => pathN p.1) q wr ∧ Dis a b ∧ Dis p q ∧ Below w.heap.size w wr ∧ Whole wr w.heap.size 41 EE)
  case atStart => exact ⟨0, rfl, Nat.zero_le _, rfl, by rw [z1]; exact s0, by rw [z2]; exact s0, by rw [z1]; exact s1, by rw [z2]; exact s1, Dis.nil _, Dis.nil _, hB, hE⟩
  case round =>
    clear s0 s1 hB hE
    obtain ⟨k, rfl, hk, hkg, ha, hb, hp, hq, hdab, hdpq, hB, hE⟩ := hrel
    replace hkg := Lib.hid hkg
    by_cases hlt : k < l.length
    · have hlm : k < (l.map fun p => pathN p.1).length := by rw [List.length_map]; exact hlt
      obtain ⟨ad, rfl, -, c0, c1⟩ := PK.pair_ (hr.out.below hB) hlt
      obtain ⟨ae, rfl, -, d0⟩ := Kn.Rows.one_ (hpr.out.below hB) hlm
      have hpx : (l.map fun p => pathN p.1)[k] = pathN l[k].1 := List.getElem_map _
      have hn0 := hstep.out false k hlt
      have hn1 := hstep.out true k hlt
      have hl0 : (SD false l k).length ≤ 1048576 := Nat.le_trans (hsl.out _ _) hl
      have hl1 : (SD true l k).length ≤ 1048576 := Nat.le_trans (hsl.out _ _) hl
      have hm0 : ((SD false l k).map fun p => pathN p.1).length ≤ 1048576 := by rw [List.length_map]; exact hl0
      have hm1 : ((SD true l k).map fun p => pathN p.1).length ≤ 1048576 := by rw [List.length_map]; exact hl1
      rw [hpx] at d0
      generalize l[k] = x at *
      have hXs : (pathN x.1).size = 32 := shaN_len _
      have CB := fun w => bit05_calls (pathN x.1) d (by omega) (by omega) w
      have hkk : (k : Int) < l.length := by omega
      generalize hXX : pathN x.1 = X at *
      replace hXX := Lib.hid hXX
      replace hpx := Lib.hid hpx
      cases hbit : bitQ X d
      · rw [hbit, if_pos rfl] at hn0
        rw [hbit, if_neg (by decide), List.append_nil] at hn1
        replace hn0 := Lib.hid hn0
        replace hn1 := Lib.hid hn1
        rw [bitQ_no hbit] at CB
        replace CB := Lib.hid CB
        go_wp2_with (first | ((with_reducible refine (CB.out _).mono ?_); rintro e wB ⟨rfl, rfl⟩) | ((with_reducible apply wl_loadAt (ty := 33) #[.string x.1, .string x.2] (pair_load c0 c1) Try.underlying33); rfl; rfl; rfl; kernel_rfl) | (at_builtin; refine wl_appendRL (f := PairV) (s := x) Try.underlying22 (z := .agg #[.string ⟨#[]⟩, .string ⟨#[]⟩]) (by_ := 32) (by kernel_rfl) rfl (by decide) (by decide) (SRow.later _ _ _ ((Later.refl _).alloc _) ha) (Whole.new _ _ _) rfl (PairV_one x) hl0 (by have := hE.lt; go_size) rfl rfl (fun v5 w5 ho5 hg5 hc5 => ?_); have hB5 := below_own (hB.alloc hB.size (.cells (PairV x).toArray 33)) (SRow.later _ _ _ ((Later.refl _).alloc (.cells (PairV x).toArray 33)) ha) (Nat.le_succ _) hg5; obtain ⟨ae5, he5, -, d5⟩ := Kn.Rows.one_ (hpr.out.below hB5) hlm; obtain rfl := Option.some.inj he5; rw [hpx.out] at d5) | (at_builtin; refine wl_appendRL (f := TxtV) (s := X) Try.underlying44 (z := .string ⟨#[]⟩) (by_ := 16) (by kernel_rfl) rfl (by decide) (by decide) (SRow.later _ _ _ ((Later.refl _).alloc _) (SRow.other (SRow.later _ _ _ ((Later.refl _).alloc _) hp) (SRow.later _ _ _ ((Later.refl _).alloc _) ha) (by decide) hg5)) (Whole.new _ _ _) rfl (TxtV_one X) hm0 (by have h7 := hE.lt; have h8 := hg5.size; simp at h8 ⊢; omega) rfl rfl (fun v6 w6 ho6 hg6 hc6 => ?_)))
        have A1 := fun (o : Obj) => SRow.later _ _ _ ((Later.refl wB).alloc o) ha
        have P5 := SRow.other (SRow.later _ _ _ ((Later.refl wB).alloc (.cells (PairV x).toArray 33)) hp) (A1 _) (by decide) hg5
        have Q5 := SRow.other (SRow.later _ _ _ ((Later.refl wB).alloc (.cells (PairV x).toArray 33)) hq) (A1 _) (by decide) hg5
        have B5 := SRow.dis (SRow.later _ _ _ ((Later.refl wB).alloc (.cells (PairV x).toArray 33)) hb) hg5 (hdab.symm)
        have D5 := Dis.grown (hdab.symm) hb hc5 (by simp)
        have P6 := SRow.later _ _ _ ((Later.refl w5).alloc (.cells (TxtV X).toArray 9)) P5
        have Q6 := SRow.dis (SRow.later _ _ _ ((Later.refl w5).alloc (.cells (TxtV X).toArray 9)) Q5) hg6 (hdpq.symm)
        have B6 := SRow.other (SRow.later _ _ _ ((Later.refl w5).alloc (.cells (TxtV X).toArray 9)) B5) P6 (by decide) hg6
        have A6 := SRow.other (SRow.later _ _ _ ((Later.refl w5).alloc (.cells (TxtV X).toArray 9)) ho5) P6 (by decide) hg6
        have D6 := Dis.grown (hdpq.symm) Q5 hc6 (by simp)
        have hB6 := below_own (hB5.alloc hB5.size (.cells (TxtV X).toArray 9)) P6 (Nat.le_succ _) hg6
        have hE5 := Whole.only (hE.alloc (.cells (PairV x).toArray 33)) hg5 (fun q => by have := (World.ownsRow.lt (A1 (.cells (PairV x).toArray 33)) _ q.symm).1; omega)
        have hE6 := Whole.only (hE5.alloc (.cells (TxtV X).toArray 9)) hg6 (fun q => by have := (World.ownsRow.lt P6 _ q.symm).1; omega)
        go_wp2_with (fail)
        go_roundg (l.length - k)
        case measure => go_light; rw [hkg.out]; omega
        case rel =>
          go_light
          refine ⟨k + 1, by go_num, by omega, by omega, ?_, ?_, ?_, ?_, ?_, ?_, hB6, hE6⟩
          · rw [hn0.out]; exact A6
          · rw [hn1.out]; exact B6
          · rw [hn0.out, List.map_append, List.map_singleton, hXX.out]; exact ho6
          · rw [hn1.out]; exact Q6
          · exact D5.symm
          · exact D6.symm
      · rw [hbit, if_neg (by decide), List.append_nil] at hn0
        rw [hbit, if_pos rfl] at hn1
        replace hn0 := Lib.hid hn0
        replace hn1 := Lib.hid hn1
        rw [(bitQ_true _ _).1 hbit] at CB
        replace CB := Lib.hid CB
        go_wp2_with (first | ((with_reducible refine (CB.out _).mono ?_); rintro e wB ⟨rfl, rfl⟩) | ((with_reducible apply wl_loadAt (ty := 33) #[.string x.1, .string x.2] (pair_load c0 c1) Try.underlying33); rfl; rfl; rfl; kernel_rfl) | (at_builtin; refine wl_appendRL (f := PairV) (s := x) Try.underlying22 (z := .agg #[.string ⟨#[]⟩, .string ⟨#[]⟩]) (by_ := 32) (by kernel_rfl) rfl (by decide) (by decide) (SRow.later _ _ _ ((Later.refl _).alloc _) hb) (Whole.new _ _ _) rfl (PairV_one x) hl1 (by have := hE.lt; go_size) rfl rfl (fun v5 w5 ho5 hg5 hc5 => ?_); have hB5 := below_own (hB.alloc hB.size (.cells (PairV x).toArray 33)) (SRow.later _ _ _ ((Later.refl _).alloc (.cells (PairV x).toArray 33)) hb) (Nat.le_succ _) hg5; obtain ⟨ae5, he5, -, d5⟩ := Kn.Rows.one_ (hpr.out.below hB5) hlm; obtain rfl := Option.some.inj he5; rw [hpx.out] at d5) | (at_builtin; refine wl_appendRL (f := TxtV) (s := X) Try.underlying44 (z := .string ⟨#[]⟩) (by_ := 16) (by kernel_rfl) rfl (by decide) (by decide) (SRow.later _ _ _ ((Later.refl _).alloc _) (SRow.other (SRow.later _ _ _ ((Later.refl _).alloc _) hq) (SRow.later _ _ _ ((Later.refl _).alloc _) hb) (by decide) hg5)) (Whole.new _ _ _) rfl (TxtV_one X) hm1 (by have h7 := hE.lt; have h8 := hg5.size; simp at h8 ⊢; omega) rfl rfl (fun v6 w6 ho6 hg6 hc6 => ?_)))
        have A1 := fun (o : Obj) => SRow.later _ _ _ ((Later.refl wB).alloc o) hb
        have P5 := SRow.other (SRow.later _ _ _ ((Later.refl wB).alloc (.cells (PairV x).toArray 33)) hq) (A1 _) (by decide) hg5
        have Q5 := SRow.other (SRow.later _ _ _ ((Later.refl wB).alloc (.cells (PairV x).toArray 33)) hp) (A1 _) (by decide) hg5
        have B5 := SRow.dis (SRow.later _ _ _ ((Later.refl wB).alloc (.cells (PairV x).toArray 33)) ha) hg5 (hdab)
        have D5 := Dis.grown (hdab) ha hc5 (by simp)
        have P6 := SRow.later _ _ _ ((Later.refl w5).alloc (.cells (TxtV X).toArray 9)) P5
        have Q6 := SRow.dis (SRow.later _ _ _ ((Later.refl w5).alloc (.cells (TxtV X).toArray 9)) Q5) hg6 (hdpq)
        have B6 := SRow.other (SRow.later _ _ _ ((Later.refl w5).alloc (.cells (TxtV X).toArray 9)) B5) P6 (by decide) hg6
        have A6 := SRow.other (SRow.later _ _ _ ((Later.refl w5).alloc (.cells (TxtV X).toArray 9)) ho5) P6 (by decide) hg6
        have D6 := Dis.grown (hdpq) Q5 hc6 (by simp)
        have hB6 := below_own (hB5.alloc hB5.size (.cells (TxtV X).toArray 9)) P6 (Nat.le_succ _) hg6
        have hE5 := Whole.only (hE.alloc (.cells (PairV x).toArray 33)) hg5 (fun q => by have := (World.ownsRow.lt (A1 (.cells (PairV x).toArray 33)) _ q.symm).1; omega)
        have hE6 := Whole.only (hE5.alloc (.cells (TxtV X).toArray 9)) hg6 (fun q => by have := (World.ownsRow.lt P6 _ q.symm).1; omega)
        go_wp2_with (fail)
        go_roundg (l.length - k)
        case measure => go_light; rw [hkg.out]; omega
        case rel =>
          go_light
          refine ⟨k + 1, by go_num, by omega, by omega, ?_, ?_, ?_, ?_, ?_, ?_, hB6, hE6⟩
          · rw [hn0.out]; exact B6
          · rw [hn1.out]; exact A6
          · rw [hn0.out]; exact Q6
          · rw [hn1.out, List.map_append, List.map_singleton, hXX.out]; exact ho6
          · exact D5
          · exact D6
    · obtain rfl : k = l.length := by omega
      have hl0 : (SD false l l.length).length ≤ l.length := hsl.out _ _
      have hl1 : (SD true l l.length).length ≤ l.length := hsl.out _ _
      obtain ⟨A1, c1, rfl, hc1, hR1⟩ := ha.rows PK rfl (fun _ => rfl) PK.K_mk (by omega)
      obtain ⟨A2, c2, rfl, hc2, hR2⟩ := hb.rows PK rfl (fun _ => rfl) PK.K_mk (by omega)
      obtain ⟨A3, c3, rfl, hc3, hR3⟩ := hp.rows Kn.str rfl (fun _ => rfl) (fun _ _ => rfl) (by rw [List.length_map]; omega)
      obtain ⟨A4, c4, rfl, hc4, hR4⟩ := hq.rows Kn.str rfl (fun _ => rfl) (fun _ _ => rfl) (by rw [List.length_map]; omega)
      clear ha hb hp hq hdab hdpq
      rw [List.length_map] at hc3 hc4
      simp only [List.length_map] at *
      have I1 := fun W h h' => ih.out (SD false l l.length) A1 A3 c1 c3 W hl0 (hsm.out false) hc1 hc3 h h'
      have I2 := fun W h h' => ih.out (SD true l l.length) A2 A4 c2 c4 W hl1 (hsm.out true) hc2 hc4 h h'
      have e1 := hrs.out (SD false l l.length)
      have e2 := hrs.out (SD true l l.length)
      have hsp' := hsp.out
      rw [← f1.out, ← f2.out] at hsp'
      generalize rootS K (SD false l l.length) = X1 at *
      generalize rootS K (SD true l l.length) = X2 at *
      have CH := fun w => hh.out ((⟨#[78]⟩ ++ X1) ++ X2) (by rw [ByteArray.size_append, ByteArray.size_append, e1, e2]; decide) w
      have e3 : shaN ((⟨#[78]⟩ ++ X1) ++ X2) = RES := hsp'.symm
      rw [e3] at CH
      generalize SD false l l.length = M1 at *
      generalize SD true l l.length = M2 at *
      have y1 : IntKind.i64.wrap ((d : Int) + 1) = (d : Int) + 1 := by simp [IntKind.wrap, IntKind.signed, IntKind.bits]; omega
      replace I1 := Lib.hid I1
      replace I2 := Lib.hid I2
      replace CH := Lib.hid CH
      clear hsp' e3 f1 f2 hsp hstep hsl hsm hh hrs ih
      go_upto_region 17 with (fail)

      refine wp_region_grow 15 94 (by kernel_rfl) (by kernel_rfl) rfl (fun w9 hl9 => ?_)
      simp only [List.take_succ_cons, List.take_zero, List.drop_succ_cons, List.drop_zero]
      generalize ha : Act.mk _ _ = a0
      have k3 : a0.eval (.tmp 3) = .int .i64 d := by subst ha; rfl
      have k4 : a0.eval (.tmp 4) = .pointer (some ⟨w.heap.size, 0, none⟩) := by subst ha; rfl
      have k9 : a0.eval (.tmp 9) = .slice A1 M1.length c1 := by subst ha; rfl
      have k10 : a0.eval (.tmp 10) = .slice A2 M2.length c2 := by subst ha; rfl
      have k11 : a0.eval (.tmp 11) = .slice A3 M1.length c3 := by subst ha; rfl
      have k12 : a0.eval (.tmp 12) = .slice A4 M2.length c4 := by subst ha; rfl
      have ks : a0.tmps.size = 94 := by subst ha; rfl
      have ha0 := ha.symm
      clear ha
      refine wpG_loadW (hl9.whole hE) Try.underlying41 rfl (hi7) (fun a w hk => (hk 4 rfl : a.eval (.tmp 4) = a0.eval (.tmp 4)).trans k4) ?_
      refine wpG_move (fun a w hk => (hk 9 rfl : a.eval (.tmp 9) = a0.eval (.tmp 9)).trans k9) ?_
      refine wpG_move (fun a w hk => (hk 11 rfl : a.eval (.tmp 11) = a0.eval (.tmp 11)).trans k11) ?_
      refine wpG_move (fun a w hk => (hk 3 rfl : a.eval (.tmp 3) = a0.eval (.tmp 3)).trans k3) ?_
      apply wpG_value'
      · rfl
      · (intro a wx hlx hk K hK; have e82 : a.eval (.tmp 82) = _ := hk 82 rfl; simp only [execOp, e82]; clear e82 hk; go_simp; exact hK)
      refine wpG_call _ _ Try.func22 (by kernel_rfl) (by kernel_rfl) (fun W hW => I1.out W (hR1.below (hl9.trans hW)) (hR3.below (hl9.trans hW))) (fun a w hk => by have e79 : a.eval (.tmp 79) = _ := hk 79 rfl; have e80 : a.eval (.tmp 80) = _ := hk 80 rfl; have e81 : a.eval (.tmp 81) = _ := hk 81 rfl; have e83 : a.eval (.tmp 83) = _ := hk 83 rfl; simp [e79, e80, e81, e83]) ?_
      apply wpG_value'
      · rfl
      · (intro a wx hlx hk K hK; have e84 : a.eval (.tmp 84) = _ := hk 84 rfl; simp only [execOp, e84]; clear e84 hk; go_simp; exact hK)
      refine wpG_loadW (hl9.whole hE) Try.underlying41 rfl (hi7) (fun a w hk => (hk 4 rfl : a.eval (.tmp 4) = a0.eval (.tmp 4)).trans k4) ?_
      refine wpG_move (fun a w hk => (hk 10 rfl : a.eval (.tmp 10) = a0.eval (.tmp 10)).trans k10) ?_
      refine wpG_move (fun a w hk => (hk 12 rfl : a.eval (.tmp 12) = a0.eval (.tmp 12)).trans k12) ?_
      refine wpG_move (fun a w hk => (hk 3 rfl : a.eval (.tmp 3) = a0.eval (.tmp 3)).trans k3) ?_
      apply wpG_value'
      · rfl
      · (intro a wx hlx hk K hK; have e89 : a.eval (.tmp 89) = _ := hk 89 rfl; simp only [execOp, e89]; clear e89 hk; go_simp; exact hK)
      refine wpG_call _ _ Try.func22 (by kernel_rfl) (by kernel_rfl) (fun W hW => I2.out W (hR2.below (hl9.trans hW)) (hR4.below (hl9.trans hW))) (fun a w hk => by have e86 : a.eval (.tmp 86) = _ := hk 86 rfl; have e87 : a.eval (.tmp 87) = _ := hk 87 rfl; have e88 : a.eval (.tmp 88) = _ := hk 88 rfl; have e90 : a.eval (.tmp 90) = _ := hk 90 rfl; simp [e86, e87, e88, e90]) ?_
      apply wpG_value'
      · rfl
      · (intro a wx hlx hk K hK; have e85 : a.eval (.tmp 85) = _ := hk 85 rfl; have e91 : a.eval (.tmp 91) = _ := hk 91 rfl; simp only [execOp, e85, e91]; clear e85 e91 hk; go_simp; exact hK)
      refine wpG_call _ _ Try.func58 (by kernel_rfl) (by kernel_rfl) (fun W _ => CH.out W) (fun a w hk => by have e92 : a.eval (.tmp 92) = _ := hk 92 rfl; simp [e92]) ?_
      refine wpG_nil (fun w9' hl9' => ?_)
      refine fin_is ?_
      refine fin_is ?_
      refine fin_is ?_
      refine fin_is ?_
      refine fin_is ?_
      refine fin_is ?_
      refine fin_is ?_
      refine fin_is ?_
      refine fin_is ?_
      refine fin_is ?_
      refine fin_is ?_
      refine fin_is ?_
      refine fin_is ?_
      refine fin_is ?_
      refine fin_is ?_
      refine fin_nil ?_
      subst ha0
      clear k3 k4 k9 k10 k11 k12 ks
      simp only [Act.put, List.setIfInBounds_toArray, List.set_cons_succ, List.set_cons_zero]
      go_wp2_with (fail)
      go_returns
      go_light
      exact ⟨rfl, below_next' hB (hl9.trans hl9')⟩
theorem root05_calls : ∀ (K : Nat) (l : List KV) (A P : Option Addr) (c pc : Nat) (w : World), K ≤ 256 → l.length ≤ 1048576 → KVok l → l.length ≤ c → l.length ≤ pc → PK.Rows w A l → Kn.str.Rows w P (l.map fun p => pathN p.1) →
    Calls Try.prog 22 #[.agg (sarr (downL (emp shaN) 256)), .slice A l.length c, .slice P l.length pc, .int .i64 ((256 - K : Nat) : Int)] w fun e w' => e = .returned (.string (rootS K l)) ∧ Later w w' := by
  intro K
  induction K with
  | zero =>
    intro l A P c pc w _ hl hok hc hpc hr hp
    cases l with
    | nil => rw [rootS_nil]; exact root05_nil 256 (Nat.le_refl _) A P c pc w
    | cons x l => rw [rootS_zero]; exact root05_end x l (by simp at hl; omega) hok A P c pc hc w hr
  | succ K ih =>
    intro l A P c pc w hK hl hok hc hpc hr hp
    match l, hl, hok, hc, hpc, hr, hp with
    | [], _, _, _, _, _, _ =>
      rw [rootS_nil]
      have := root05_nil (256 - (K + 1)) (by omega) A P c pc w
      rw [show 256 - (256 - (K + 1)) = K + 1 by omega] at this
      exact this
    | [p], _, hok, hc, hpc, hr, hp =>
      rw [rootS_one]
      have := root05_one p (256 - (K + 1)) (by omega) hok A P c pc hc hpc w hr hp
      rw [show 256 - (256 - (K + 1)) = K + 1 by omega] at this
      exact this
    | x :: y :: l, hl, hok, hc, hpc, hr, hp =>
      rw [show 256 - (K + 1) = 255 - K by omega]
      refine root05_more K (by omega) (x :: y :: l) (by simp) hl A P c pc hc hpc w hr hp ?_
      intro m A P c pc w h1 h2 h3 h4 h5 h6
      rw [show 255 - K + 1 = 256 - K by omega]
      exact ih m A P c pc w (by omega) (by omega) (fun p hp => hok p (h2 p hp)) h3 h4 h5 h6
end Go.Proofs.Ytknjbkbbhgjnlaa
