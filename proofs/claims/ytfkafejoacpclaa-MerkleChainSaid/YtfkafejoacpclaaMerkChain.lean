/- The law MerkleChain, walked. No conditions. -/
import Derived.Test.YtfkafejoacpclaaMerkOwn
namespace Go.Proofs.Ytfkafejoacpclaa
open Go.RowKit
set_option linter.unusedVariables false
set_option linter.unusedSimpArgs false
theorem three_at {W : World} {g : Nat} {T : TypeId} {x0 x1 x2 : Nat} (h : Whole W g T #[.int .u8 x0, .int .u8 x1, .int .u8 x2]) (h0 : x0 < 256) (h1 : x1 < 256) (h2 : x2 < 256) {c : Nat} (hc : c < 3) : ∃ x : Nat, x < 256 ∧ W.cell? ⟨g, c, none⟩ = some (.int .u8 x) := by
  match c, hc with
  | 0, _ => exact ⟨x0, h0, h.cell 0⟩
  | 1, _ => exact ⟨x1, h1, h.cell 1⟩
  | 2, _ => exact ⟨x2, h2, h.cell 2⟩
set_option maxHeartbeats 8000000 in
set_option maxRecDepth 100000 in
theorem mChain_calls (l : List ByteArray) (A : Option Addr) (cap : Nat) (x0 x1 x2 : Nat) (h0 : x0 < 256) (h1 : x1 < 256) (h2 : x2 < 256) (w : World) (hcap : l.length ≤ cap) (hr : Kn.str.Rows w A l) :
    Calls Try.prog 6 #[.slice A l.length cap, .agg #[.int .u8 x0, .int .u8 x1, .int .u8 x2]] w fun e w' => e = .returned (.bool true) ∧ Below w.heap.size w w' := by
  have AW := fun w => awake04_calls w
  have M := fun w => make_calls w
  have hsz : (Try.prog.info? 29).map (·.size) = some (arr .u32 (K64 ++ H8.L)).size := by kernel_rfl
  have htz : (arr .u32 (K64 ++ H8.L)).size = Try.zeroCells29.size := by kernel_rfl
  have ho1 : (arr .u32 (K64 ++ H8.L)).toList.all (·.oneCell') = true := by kernel_rfl
  replace AW := Lib.hid AW
  obtain ⟨W0, hW0⟩ : ∃ W0, w.alloc (.cells #[.int .u8 x0, .int .u8 x1, .int .u8 x2] 47) = W0 := ⟨_, rfl⟩
  have hA0 : Whole W0 w.heap.size 47 #[.int .u8 x0, .int .u8 x1, .int .u8 x2] := by rw [← hW0]; exact Whole.new w _ _
  have hB : Later w W0 := by rw [← hW0]; exact (Later.refl w).alloc _
  have hA1 := fun (W : World) (hb : Later W0 W) (c : Nat) (hc : c < 3) => three_at (hb.whole hA0) h0 h1 h2 hc
  replace hA1 := Lib.hid hA1
  clear hA0 h0 h1 h2
  have hr' := hr.below hB
  clear hr
  by_cases hfew : l.length ≤ 64 ∧ ∀ x ∈ l, x.size ≤ 40
  · have FW := fun w hr => few04_true l A cap 64 40 64 40 rfl rfl (by decide) (by decide) w hr hfew
    have LV := fun w hr => leaves_calls l A cap w (by omega) (fun x hx => Nat.le_trans (hfew.2 x hx) (by decide)) hr
    have hz : ∀ x ∈ l.map leafN, x.size ≤ 1000 := fun x hx => by obtain ⟨y, -, rfl⟩ := List.mem_map.1 hx; exact leafN_le y
    have hn40 : l.length ≤ 64 := hfew.1
    have hll : (l.map leafN).length = l.length := List.length_map _
    generalize hLe : l.map leafN = L at *
    clear hLe hfew
    generalize hn : l.length = n at *
    have tl : ∀ m, m ≤ n → (L.take m).length = m := fun m hm => by rw [List.length_take]; omega
    have tz : ∀ m, ∀ x ∈ L.take m, x.size ≤ 1000 := fun m x hx => hz x (List.mem_of_mem_take hx)
    have RT := fun (m : Nat) (hm : m ≤ n) (A' : Option Addr) (c' : Nat) (w' : World) h3 (h5 : Kn.str.Rows w' A' L) => root_calls m (L.take m) A' c' w' (tl m hm) (by omega) h3 (tz m) (rows_take h5 m)
    have CO := fun (m m' : Nat) (h1 : 1 ≤ m) (hm : m ≤ m') (hm' : m' ≤ n) (A' : Option Addr) (c' : Nat) (w' : World) (h3 : m' ≤ c') (h5 : Kn.str.Rows w' A' L) => (tl m' hm') ▸ cons_ok (L.take m') A' c' m w' h1 (by rw [tl m' hm']; exact hm) (by rw [tl m' hm']; omega) (by rw [tl m' hm']; exact h3) (tz m') (rows_take h5 m')
    have HO : ∀ (m m' : Nat) (h1 : 1 ≤ m) (hm : m ≤ m') (hm' : m' ≤ n) (A' : Option Addr) (c' : Nat) (w' : World) (h3 : (consN (L.take m') m true).length ≤ c') (h5 : Kn.str.Rows w' A' (consN (L.take m') m true)), Calls Try.prog 24 #[.agg (arr .u32 (K64 ++ H8.L)), .int .i64 m, .int .i64 m', .string (rootN (L.take m)), .string (rootN (L.take m')), .slice A' (consN (L.take m') m true).length c'] w' fun e w'' => e = .returned (.bool true) ∧ Below w'.heap.size w' w'' := by
      intro m m' h1 hm hm' A' c' w' h3 h5
      have := consistent_ok (rootN (L.take m)) (rootN (L.take m')) m m' (consN (L.take m') m true) A' c' w' h1 hm (by omega) (rootN_size (tz m)) h3 (consN_sizes _ _ _ _ rfl (tz m')) h5
      have ho := consT_own (L.take m') m h1 (by rw [tl m' hm']; exact hm)
      rw [tl m' hm', List.take_take, Nat.min_eq_left hm] at ho
      rw [ho] at this
      exact this
    have hlen := fun (m m' : Nat) (h1 : 1 ≤ m') (hm' : m' ≤ n) => consN_len m' (L.take m') m true (tl m' hm') h1
    generalize arr .u32 (K64 ++ H8.L) = tb at *
    have hmax := hr'.1
    replace FW := Lib.hid FW
    replace M := Lib.hid M
    replace LV := Lib.hid LV
    replace RT := Lib.hid RT
    replace CO := Lib.hid CO
    replace HO := Lib.hid HO
    replace hlen := Lib.hid hlen
    replace hz := Lib.hid hz
    replace hll := Lib.hid hll
    clear tl tz
    by_cases hn0 : n = 0
    · obtain hr := Lib.hid hr'
      have hB0 := hB
      replace hB : Later W0 W0 := Later.refl W0
      subst hn0
      go_enter Try.func6, Try.ntmps6
      go_upto_region 1 with (fail)
      try rw [hW0]
      clear hW0
      go_wp2_with (first | ((with_reducible refine (AW.out _).mono ?_); rintro e w4 ⟨rfl, hb4⟩; replace hB := Later.trans hB hb4) | ((with_reducible refine (FW.out _ (hr.out.below hB)).mono ?_); rintro e w5 ⟨rfl, hw5⟩; obtain rfl := hw5.symm))
      go_returns
      go_light
      exact ⟨rfl, hB0.trans hB⟩
    · have qn0 : ((n : Int) == 0) = false := by rw [beq_eq_false_iff_ne]; omega
      obtain hr := Lib.hid hr'
      have hB0 := hB
      replace hB : Later W0 W0 := Later.refl W0
      go_enter Try.func6, Try.ntmps6
      go_upto_region 1 with (fail)
      try rw [hW0]
      clear hW0
      go_wp2_with (first | ((with_reducible refine (AW.out _).mono ?_); rintro e w4 ⟨rfl, hb4⟩; replace hB := Later.trans hB hb4) | ((with_reducible refine (FW.out _ (hr.out.below hB)).mono ?_); rintro e w5 ⟨rfl, hw5⟩; obtain rfl := hw5.symm) | ((with_reducible refine (M.out _).mono ?_); rintro e w6 ⟨rfl, hb6⟩; replace hB := Later.trans hB hb6; have hZ := Whole.new w6 29 Try.zeroCells29; have hG6 := hB.size; replace hB := hB.alloc (.cells Try.zeroCells29 29)) | ((with_reducible apply wl_storeW (ty := 29) hZ); rfl; rfl; rfl; kernel_rfl; exact htz; exact ho1; intro wS hT hgS hzS; replace hB := below_only' hB hgS hG6; clear hgS hzS hZ) | ((with_reducible refine (LV.out _ (hr.out.below hB)).mono ?_); rintro e w7 ⟨⟨v, rfl, hv⟩, hb7⟩; replace hB := Later.trans hB hb7; replace hT := Later.whole hb7 hT; obtain ⟨A2, c2, hv2, hc2, hL⟩ := hv.rows (by have := hll.out; omega); replace hL := Lib.hid hL; rw [hll.out] at hc2 hv2; clear hv; subst hv2))
      generalize hG : w6.heap.size = G at *
      generalize hG0 : w.heap.size = G0 at *
      have hbase : Later w7 w7 := Later.refl w7
      go_loopg [7, 8, 9, 10, 11, 12] 4 (fun kg i k m n p e wr => ∃ c : Nat, i = .int .i64 c ∧ c ≤ 3 ∧ kg = 4 - c ∧ Later w7 wr)
      case atStart => exact ⟨0, rfl, by omega, rfl, hbase⟩
      case round =>
        clear hbase
        obtain ⟨c, rfl, hc, hkg, hl⟩ := hrel
        replace hkg := Lib.hid hkg
        by_cases hlt : c < 3
        · go_wp2_with (fail)
          go_loopg [8, 9, 10, 11, 12] 4 (fun kg2 k m n p e wr2 => ∃ d : Nat, k = .int .i64 d ∧ d ≤ 3 ∧ kg2 = 4 - d ∧ Later w7 wr2)
          case atStart => exact ⟨0, rfl, by omega, rfl, hl⟩
          case round =>
            clear hl
            obtain ⟨d, rfl, hd, hkg2, hl⟩ := hrel
            replace hkg2 := Lib.hid hkg2
            by_cases hld : d < 3
            · obtain ⟨x, hx, ec⟩ := hA1.out _ (hB.trans hl) c hlt
              obtain ⟨y, hy, ed⟩ := hA1.out _ (hB.trans hl) d hld
              have wx : IntKind.i64.wrap (x : Int) = x := by simp [IntKind.wrap, IntKind.signed, IntKind.bits]; omega
              have wy : IntKind.i64.wrap (y : Int) = y := by simp [IntKind.wrap, IntKind.signed, IntKind.bits]; omega
              have hp : 0 < n := by omega
              have tx : (x : Int).tmod n = ((x % n : Nat) : Int) := by rw [Int.tmod_eq_emod_of_nonneg (Int.natCast_nonneg _)]; omega
              have ty : (y : Int).tmod n = ((y % n : Nat) : Int) := by rw [Int.tmod_eq_emod_of_nonneg (Int.natCast_nonneg _)]; omega
              have lx := Nat.mod_lt x hp
              have ly := Nat.mod_lt y hp
              generalize x % n = r at *
              generalize y % n = s at *
              obtain ⟨m, hm⟩ : ∃ m, 1 + r = m := ⟨_, rfl⟩
              obtain ⟨m', hm'⟩ : ∃ m', 1 + s = m' := ⟨_, rfl⟩
              have wr1 : IntKind.i64.wrap (1 + (r : Int)) = (m : Int) := by simp [IntKind.wrap, IntKind.signed, IntKind.bits]; omega
              have ws1 : IntKind.i64.wrap (1 + (s : Int)) = (m' : Int) := by simp [IntKind.wrap, IntKind.signed, IntKind.bits]; omega
              have hm1 : 1 ≤ m := by omega
              have hmn1 : m ≤ n := by omega
              have hm1' : 1 ≤ m' := by omega
              have hmn1' : m' ≤ n := by omega
              clear hm hm'
              have wr0 : IntKind.i64.wrap (r : Int) = r := by simp [IntKind.wrap, IntKind.signed, IntKind.bits]; omega
              have ws0 : IntKind.i64.wrap (s : Int) = s := by simp [IntKind.wrap, IntKind.signed, IntKind.bits]; omega
              have nz : ((n : Int) = 0) = False := eq_false (by omega)
              go_upto_region 11 with (fail)
              refine wp_region_grow 18 81 (by kernel_rfl) (by kernel_rfl) rfl (fun w9 hl9 => ?_)
              simp only [List.take_succ_cons, List.take_zero, List.drop_succ_cons, List.drop_zero]
              generalize ha : Act.mk _ _ = a0
              have k3 : a0.eval (.tmp 3) = .pointer (some ⟨G0, 0, none⟩) := by subst ha; rfl
              have k6 : a0.eval (.tmp 6) = .slice A2 n c2 := by subst ha; rfl
              have k7 : a0.eval (.tmp 7) = .int .i64 c := by subst ha; rfl
              have k8 : a0.eval (.tmp 8) = .int .i64 d := by subst ha; rfl
              have ks : a0.tmps.size = 81 := by subst ha; rfl
              have ha0 := ha.symm
              clear ha
              refine wpG_move (fun a w hk => (hk 7 rfl : a.eval (.tmp 7) = a0.eval (.tmp 7)).trans k7) ?_
              apply wpG_value'
              · rfl
              · (intro a wx hlx hk K hK; have e3 : a.eval (.tmp 3) = _ := (hk 3 rfl : a.eval (.tmp 3) = a0.eval (.tmp 3)).trans k3; have e37 : a.eval (.tmp 37) = _ := hk 37 rfl; simp only [execOp, e3, e37]; clear e3 e37 hk; go_simp; exact hK)
              refine wpG_load1 (hl9.cell ec) Try.underlying5 rfl (fun a w hk => hk 38 rfl) ?_
              apply wpG_value'
              · rfl
              · (intro a wx hlx hk K hK; have e39 : a.eval (.tmp 39) = _ := hk 39 rfl; simp only [execOp, e39]; clear e39 hk; go_simp; exact hK)
              refine wpG_move (fun a w hk => (hk 6 rfl : a.eval (.tmp 6) = a0.eval (.tmp 6)).trans k6) ?_
              apply wpG_value'
              · rfl
              · (intro a wx hlx hk K hK; have e41 : a.eval (.tmp 41) = _ := hk 41 rfl; simp only [execOp, resolve, List.map_toArray, List.map_cons, List.map_nil, Option.map_some, Option.map_none, e41]; clear e41 hk; go_simp; exact hK)
              apply wpG_value'
              · rfl
              · (intro a wx hlx hk K hK; have e40 : a.eval (.tmp 40) = _ := hk 40 rfl; have e42 : a.eval (.tmp 42) = _ := hk 42 rfl; simp only [execOp, e40, e42]; clear e40 e42 hk; go_simp; exact hK)
              apply wpG_value'
              · rfl
              · (intro a wx hlx hk K hK; have e43 : a.eval (.tmp 43) = _ := hk 43 rfl; simp only [execOp, e43]; clear e43 hk; go_simp; exact hK)
              refine wpG_move (fun a w hk => (hk 8 rfl : a.eval (.tmp 8) = a0.eval (.tmp 8)).trans k8) ?_
              apply wpG_value'
              · rfl
              · (intro a wx hlx hk K hK; have e3 : a.eval (.tmp 3) = _ := (hk 3 rfl : a.eval (.tmp 3) = a0.eval (.tmp 3)).trans k3; have e45 : a.eval (.tmp 45) = _ := hk 45 rfl; simp only [execOp, e3, e45]; clear e3 e45 hk; go_simp; exact hK)
              refine wpG_load1 (hl9.cell ed) Try.underlying5 rfl (fun a w hk => hk 46 rfl) ?_
              apply wpG_value'
              · rfl
              · (intro a wx hlx hk K hK; have e47 : a.eval (.tmp 47) = _ := hk 47 rfl; simp only [execOp, e47]; clear e47 hk; go_simp; exact hK)
              refine wpG_move (fun a w hk => (hk 6 rfl : a.eval (.tmp 6) = a0.eval (.tmp 6)).trans k6) ?_
              apply wpG_value'
              · rfl
              · (intro a wx hlx hk K hK; have e49 : a.eval (.tmp 49) = _ := hk 49 rfl; simp only [execOp, resolve, List.map_toArray, List.map_cons, List.map_nil, Option.map_some, Option.map_none, e49]; clear e49 hk; go_simp; exact hK)
              apply wpG_value'
              · rfl
              · (intro a wx hlx hk K hK; have e48 : a.eval (.tmp 48) = _ := hk 48 rfl; have e50 : a.eval (.tmp 50) = _ := hk 50 rfl; simp only [execOp, e48, e50]; clear e48 e50 hk; go_simp; exact hK)
              apply wpG_value'
              · rfl
              · (intro a wx hlx hk K hK; have e51 : a.eval (.tmp 51) = _ := hk 51 rfl; simp only [execOp, e51]; clear e51 hk; go_simp; exact hK)
              refine wpG_assign (fun a w hk => hk 44 rfl) ?_
              refine wpG_assign (fun a w hk => hk 52 rfl) ?_
              refine wpG_nil (fun w9' hl9' => ?_)
              refine fin_is ?_
              refine fin_is ?_
              refine fin_is ?_
              refine fin_is ?_
              refine fin_is ?_
              refine fin_is ?_
              refine fin_is ?_
              refine fin_is ?_
              refine fin_is ?_
              refine fin_is ?_
              refine fin_is ?_
              refine fin_is ?_
              refine fin_is ?_
              refine fin_is ?_
              refine fin_is ?_
              refine fin_is ?_
              refine fin_is ?_
              refine fin_is ?_
              refine fin_nil ?_
              subst ha0
              clear k7 k8 k3 k6 ks wx wy tx ty wr1 ws1 wr0 ws0 nz lx ly hx hy
              simp only [Act.put, List.setIfInBounds_toArray, List.set_cons_succ, List.set_cons_zero]
              have hl9a := hl.trans (hl9.trans hl9')
              clear hl9 hl9' ec ed hl
              by_cases hmm : m ≤ m'
              · have qm : ((m' : Int) < (m : Int)) = False := eq_false (by omega)
                obtain ⟨ad, rfl, -, -⟩ := Kn.Rows.one_ hL.out (k := 0) (by have := hll.out; omega)
                have CC := fun W (hW : Later w7 W) => CO.out m m' hm1 hmm hmn1' (some ad) c2 W (by omega) (hL.out.below hW)
                have R1 := fun W (hW : Later w7 W) => RT.out m hmn1 (some ad) c2 W (by omega) (hL.out.below hW)
                have R2 := fun W (hW : Later w7 W) => RT.out m' hmn1' (some ad) c2 W (by omega) (hL.out.below hW)
                have HH := fun A' c' W h3 h5 => HO.out m m' hm1 hmm hmn1' A' c' W h3 h5
                have hq := hlen.out m m' hm1' hmn1'
                generalize rootN (L.take m) = ra at *
                generalize rootN (L.take m') = rb at *
                generalize consN (L.take m') m true = q at *
                replace CC := Lib.hid CC
                replace R1 := Lib.hid R1
                replace R2 := Lib.hid R2
                replace HH := Lib.hid HH
                replace hT := Lib.hid hT
                have b1 : ((m : Int) ≤ c2) = True := eq_true (by omega)
                have b2 : ((m' : Int) ≤ c2) = True := eq_true (by omega)
                have b3 : ((n : Int) ≤ c2) = True := eq_true (by omega)
                go_upto_region 13 with (fail)
                refine wp_region_grow 11 81 (by kernel_rfl) (by kernel_rfl) rfl (fun w10 hl10 => ?_)
                simp only [List.take_succ_cons, List.take_zero, List.drop_succ_cons, List.drop_zero]
                generalize ha : Act.mk _ _ = a0
                have k5 : a0.eval (.tmp 5) = .pointer (some ⟨G, 0, none⟩) := by subst ha; rfl
                have k6 : a0.eval (.tmp 6) = .slice (some ad) n c2 := by subst ha; rfl
                have k9 : a0.eval (.tmp 9) = .int .i64 m := by subst ha; rfl
                have k10 : a0.eval (.tmp 10) = .int .i64 m' := by subst ha; rfl
                have ks : a0.tmps.size = 81 := by subst ha; rfl
                have ha0 := ha.symm
                clear ha
                refine wpG_loadW ((hl9a.trans hl10).whole hT.out) Try.underlying29 rfl (hsz) (fun a w hk => (hk 5 rfl : a.eval (.tmp 5) = a0.eval (.tmp 5)).trans k5) ?_
                refine wpG_move (fun a w hk => (hk 6 rfl : a.eval (.tmp 6) = a0.eval (.tmp 6)).trans k6) ?_
                refine wpG_move (fun a w hk => (hk 10 rfl : a.eval (.tmp 10) = a0.eval (.tmp 10)).trans k10) ?_
                apply wpG_value'
                · rfl
                · (intro a wx hlx hk K hK; have e58 : a.eval (.tmp 58) = _ := hk 58 rfl; have e59 : a.eval (.tmp 59) = _ := hk 59 rfl; simp only [execOp, resolve, List.map_toArray, List.map_cons, List.map_nil, Option.map_some, Option.map_none, e58, e59]; clear e58 e59 hk; go_simp; exact hK)
                refine wpG_move (fun a w hk => (hk 9 rfl : a.eval (.tmp 9) = a0.eval (.tmp 9)).trans k9) ?_
                refine wpG_callF (RowAndF 9 w10.heap.size q (.int .i64 0)) (RowAndF.later) Try.func27 (by kernel_rfl) (by kernel_rfl) (fun a wx hlx hk => by have e57 : a.eval (.tmp 57) = _ := hk 57 rfl; have e60 : a.eval (.tmp 60) = _ := hk 60 rfl; have e61 : a.eval (.tmp 61) = _ := hk 61 rfl; simp only [List.map_toArray, List.map_cons, List.map_nil, e57, e60, e61]; exact ((CC.out wx (hl9a.trans (hl10.trans hlx))).mono fun e w' hh => by obtain ⟨⟨v, he, hv⟩, hb⟩ := hh; exact ⟨_, he, ⟨v, rfl, TextRow.base hv hlx.size⟩, hb⟩)) ?_
                refine wpG_moveF (RowAndF 9 w10.heap.size q (.int .i64 0)) RowAndF.later (fun a w hl hk => hk 62 rfl) ?_
                refine wpG_extractF (TextRow 9 w10.heap.size q) TextRow.later (fun a w hl hk => RowAndF.fst (hk 56 rfl)) ?_
                refine wpG_extractF (Is (.int .i64 0)) (fun _ _ _ _ h => h) (fun a w hl hk => RowAndF.snd (hk 56 rfl)) ?_
                refine wpG_assignF (TextRow 9 w10.heap.size q) TextRow.later (fun a w hl hk => hk 63 rfl) ?_
                refine wpG_assign (fun a w hk => hk 64 rfl) ?_
                refine wpG_nil (fun w10' hl10' => ?_)
                refine fin_is ?_
                refine fin_is ?_
                refine fin_is ?_
                refine fin_is ?_
                refine fin_is ?_
                refine fin_some (fun v62 hv62 => ?_)
                refine fin_some (fun v56 hv56 => ?_)
                refine fin_some (fun v63 hv63 => ?_)
                refine fin_is ?_
                refine fin_some (fun v11 hv11 => ?_)
                refine fin_is ?_
                refine fin_nil ?_
                clear hv62 hv56 hv63
                have hv := hv11
                subst ha0
                clear k5 k6 k9 k10 ks
                simp only [Act.put, List.setIfInBounds_toArray, List.set_cons_succ, List.set_cons_zero]
                obtain ⟨A3, c3, rfl, hc3, hQ⟩ := TextRow.rows hv (by omega)
                have hlb := hl9a.trans (hl10.trans hl10')
                clear hl9a hl10 hl10' hv hv11
                go_upto_region 14 with (fail)
                refine wp_region_grow 16 81 (by kernel_rfl) (by kernel_rfl) rfl (fun w11 hl11 => ?_)
                simp only [List.take_succ_cons, List.take_zero, List.drop_succ_cons, List.drop_zero]
                generalize ha : Act.mk _ _ = a0
                have k5 : a0.eval (.tmp 5) = .pointer (some ⟨G, 0, none⟩) := by subst ha; rfl
                have k6 : a0.eval (.tmp 6) = .slice (some ad) n c2 := by subst ha; rfl
                have k9 : a0.eval (.tmp 9) = .int .i64 m := by subst ha; rfl
                have k10 : a0.eval (.tmp 10) = .int .i64 m' := by subst ha; rfl
                have k11 : a0.eval (.tmp 11) = .slice A3 q.length c3 := by subst ha; rfl
                have ks : a0.tmps.size = 81 := by subst ha; rfl
                have ha0 := ha.symm
                clear ha
                refine wpG_loadW ((hlb.trans hl11).whole hT.out) Try.underlying29 rfl (hsz) (fun a w hk => (hk 5 rfl : a.eval (.tmp 5) = a0.eval (.tmp 5)).trans k5) ?_
                refine wpG_move (fun a w hk => (hk 9 rfl : a.eval (.tmp 9) = a0.eval (.tmp 9)).trans k9) ?_
                refine wpG_move (fun a w hk => (hk 10 rfl : a.eval (.tmp 10) = a0.eval (.tmp 10)).trans k10) ?_
                refine wpG_loadW ((hlb.trans hl11).whole hT.out) Try.underlying29 rfl (hsz) (fun a w hk => (hk 5 rfl : a.eval (.tmp 5) = a0.eval (.tmp 5)).trans k5) ?_
                refine wpG_move (fun a w hk => (hk 6 rfl : a.eval (.tmp 6) = a0.eval (.tmp 6)).trans k6) ?_
                refine wpG_move (fun a w hk => (hk 9 rfl : a.eval (.tmp 9) = a0.eval (.tmp 9)).trans k9) ?_
                apply wpG_value'
                · rfl
                · (intro a wx hlx hk K hK; have e69 : a.eval (.tmp 69) = _ := hk 69 rfl; have e70 : a.eval (.tmp 70) = _ := hk 70 rfl; simp only [execOp, resolve, List.map_toArray, List.map_cons, List.map_nil, Option.map_some, Option.map_none, e69, e70]; clear e69 e70 hk; go_simp; exact hK)
                refine wpG_call _ _ Try.func19 (by kernel_rfl) (by kernel_rfl) (fun W hW => R1.out W (hlb.trans (hl11.trans hW))) (fun a w hk => by have e68 : a.eval (.tmp 68) = _ := hk 68 rfl; have e71 : a.eval (.tmp 71) = _ := hk 71 rfl; simp [e68, e71]) ?_
                refine wpG_loadW ((hlb.trans hl11).whole hT.out) Try.underlying29 rfl (hsz) (fun a w hk => (hk 5 rfl : a.eval (.tmp 5) = a0.eval (.tmp 5)).trans k5) ?_
                refine wpG_move (fun a w hk => (hk 6 rfl : a.eval (.tmp 6) = a0.eval (.tmp 6)).trans k6) ?_
                refine wpG_move (fun a w hk => (hk 10 rfl : a.eval (.tmp 10) = a0.eval (.tmp 10)).trans k10) ?_
                apply wpG_value'
                · rfl
                · (intro a wx hlx hk K hK; have e74 : a.eval (.tmp 74) = _ := hk 74 rfl; have e75 : a.eval (.tmp 75) = _ := hk 75 rfl; simp only [execOp, resolve, List.map_toArray, List.map_cons, List.map_nil, Option.map_some, Option.map_none, e74, e75]; clear e74 e75 hk; go_simp; exact hK)
                refine wpG_call _ _ Try.func19 (by kernel_rfl) (by kernel_rfl) (fun W hW => R2.out W (hlb.trans (hl11.trans hW))) (fun a w hk => by have e73 : a.eval (.tmp 73) = _ := hk 73 rfl; have e76 : a.eval (.tmp 76) = _ := hk 76 rfl; simp [e73, e76]) ?_
                refine wpG_move (fun a w hk => (hk 11 rfl : a.eval (.tmp 11) = a0.eval (.tmp 11)).trans k11) ?_
                refine wpG_call _ _ Try.func24 (by kernel_rfl) (by kernel_rfl) (fun W hW => HH.out A3 c3 W hc3 (hQ.below (hl11.trans hW))) (fun a w hk => by have e65 : a.eval (.tmp 65) = _ := hk 65 rfl; have e66 : a.eval (.tmp 66) = _ := hk 66 rfl; have e67 : a.eval (.tmp 67) = _ := hk 67 rfl; have e72 : a.eval (.tmp 72) = _ := hk 72 rfl; have e77 : a.eval (.tmp 77) = _ := hk 77 rfl; have e78 : a.eval (.tmp 78) = _ := hk 78 rfl; simp [e65, e66, e67, e72, e77, e78]) ?_
                apply wpG_value'
                · rfl
                · (intro a wx hlx hk K hK; have e79 : a.eval (.tmp 79) = _ := hk 79 rfl; simp only [execOp, e79]; clear e79 hk; go_simp; exact hK)
                refine wpG_nil (fun w11' hl11' => ?_)
                refine fin_is ?_
                refine fin_is ?_
                refine fin_is ?_
                refine fin_is ?_
                refine fin_is ?_
                refine fin_is ?_
                refine fin_is ?_
                refine fin_is ?_
                refine fin_is ?_
                refine fin_is ?_
                refine fin_is ?_
                refine fin_is ?_
                refine fin_is ?_
                refine fin_is ?_
                refine fin_is ?_
                refine fin_is ?_
                refine fin_nil ?_
                subst ha0
                clear k5 k6 k9 k10 k11 ks
                simp only [Act.put, List.setIfInBounds_toArray, List.set_cons_succ, List.set_cons_zero]
                have hlc := hlb.trans (hl11.trans hl11')
                clear hlb hl11 hl11' hQ CC R1 R2 HH
                go_wp2_with (fail)
                go_roundg (3 - d)
                case measure => go_light; rw [hkg2.out]; omega
                case rel => go_light; exact ⟨d + 1, by go_num, by omega, by omega, hlc⟩
              · have qm : ((m' : Int) < (m : Int)) = True := eq_true (by omega)
                go_wp2_with (fail)
                go_roundg (3 - d)
                case measure => go_light; rw [hkg2.out]; omega
                case rel => go_light; exact ⟨d + 1, by go_num, by omega, by omega, hl9a⟩
            · go_wp2_with (fail)
              go_roundg (3 - c)
              case measure => go_light; rw [hkg.out]; omega
              case rel => go_light; exact ⟨c + 1, by go_num, by omega, by omega, hl⟩
        · go_wp2_with (fail)
          go_returns
          go_light
          exact ⟨rfl, hB0.trans (hB.trans hl)⟩
  · have FW := fun w hr => few04_false l A cap 64 40 64 40 rfl rfl (by decide) (by decide) w hr hfew
    replace FW := Lib.hid FW
    have hr := Lib.hid hr'
    have hB0 := hB
    replace hB : Later W0 W0 := Later.refl W0
    go_enter Try.func6, Try.ntmps6
    go_upto_region 1 with (fail)
    try rw [hW0]
    clear hW0
    go_wp2_with (first | ((with_reducible refine (AW.out _).mono ?_); rintro e w4 ⟨rfl, hb4⟩; replace hB := Later.trans hB hb4) | ((with_reducible refine (FW.out _ (hr.out.below hB)).mono ?_); rintro e w5 ⟨rfl, hw5⟩; obtain rfl := hw5.symm))
    go_returns
    go_light
    exact ⟨rfl, hB0.trans hB⟩
end Go.Proofs.Ytfkafejoacpclaa
