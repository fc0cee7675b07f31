/- The law MerkleProofs, walked. No conditions. -/
import Derived.Test.YtfkafejoacpclaaMerkOwn
import Derived.Test.YtfkafejoacpclaaSame
namespace Go.Proofs.Ytfkafejoacpclaa
open Go.RowKit
set_option linter.unusedVariables false
set_option linter.unusedSimpArgs false
set_option maxHeartbeats 16000000 in
set_option maxRecDepth 100000 in
theorem mProofs_calls (l : List ByteArray) (A : Option Addr) (cap : Nat) (i m : Int) (w : World) (hcap : l.length ≤ cap) (hr : Kn.str.Rows w A l) :
    Calls Try.prog 7 #[.slice A l.length cap, .int .i64 i, .int .i64 m] w fun e w' => e = .returned (.bool true) ∧ Below w.heap.size w w' := by
  have AW := fun w => awake04_calls w
  have M := fun w => make_calls w
  have hsz : (Try.prog.info? 29).map (·.size) = some (arr .u32 (K64 ++ H8.L)).size := by kernel_rfl
  have htz : (arr .u32 (K64 ++ H8.L)).size = Try.zeroCells29.size := by kernel_rfl
  have ho1 : (arr .u32 (K64 ++ H8.L)).toList.all (·.oneCell') = true := by kernel_rfl
  replace AW := Lib.hid AW
  have hB : Later w w := Later.refl w
  by_cases hfew : l.length ≤ 64 ∧ ∀ x ∈ l, x.size ≤ 100
  · have FW := fun w hr => few04_true l A cap 64 100 64 100 rfl rfl (by decide) (by decide) w hr hfew
    have LV := fun w hr => leaves_calls l A cap w (by omega) (fun x hx => Nat.le_trans (hfew.2 x hx) (by decide)) hr
    have hz : ∀ x ∈ l.map leafN, x.size ≤ 1000 := fun x hx => by obtain ⟨y, -, rfl⟩ := List.mem_map.1 hx; exact leafN_le y
    have hn40 : l.length ≤ 64 := hfew.1
    have hx100 := hfew.2
    have hll : (l.map leafN).length = l.length := List.length_map _
    have hx0 : ∀ x, l[0]? = some x → (l.map leafN)[0]? = some (leafN x) := fun x hx => by rw [List.getElem?_map, hx]; rfl
    have LFC := fun (x : ByteArray) (hx : x.size ≤ 100) w => leaf_calls x (by omega) w
    generalize hLe : l.map leafN = L at *
    clear hLe hfew
    generalize hn : l.length = n at *
    have RT0 := fun (A' : Option Addr) (c' : Nat) (w' : World) (h3 : n ≤ c') (h5 : Kn.str.Rows w' A' L) => root_calls n L A' c' w' hll (by omega) h3 hz h5
    have RR0 := fun (A' : Option Addr) (c' : Nat) (w' : World) (h3 : n ≤ c') (h5 : Kn.str.Rows w' A' L) => refRoot_calls n L A' c' w' hll (by omega) h3 hz h5
    have IB0 := fun (A' : Option Addr) (c' : Nat) (w' : World) (h : i < 0 ∨ (n : Int) ≤ i) => incl_bad A' n c' i w' h
    have CB0 := fun (A' : Option Addr) (c' : Nat) (w' : World) (h : m < 1 ∨ (n : Int) < m) => cons_bad A' n c' m w' h
    have IO0 := fun (A' : Option Addr) (c' k : Nat) (w' : World) (hk : k < L.length) h3 h5 => incl_ok L A' c' k w' hk (by omega) h3 hz h5
    have CO0 := fun (A' : Option Addr) (c' k : Nat) (w' : World) (h1 : 1 ≤ k) (hk : k ≤ L.length) h3 h5 => cons_ok L A' c' k w' h1 hk (by omega) h3 hz h5
    have RI0 := fun (A' : Option Addr) (c' k : Nat) (w' : World) (hk : k < n) (h3 : n ≤ c') (h5 : Kn.str.Rows w' A' L) => refIncl_calls n L A' c' k w' hll hk (by omega) h3 hz h5
    have RC0 := fun (A' : Option Addr) (c' k : Nat) (w' : World) (h1 : 1 ≤ k) (hk : k ≤ n) (h3 : n ≤ c') (h5 : Kn.str.Rows w' A' L) => refCons_calls n L A' c' k true w' hll h1 hk (by omega) h3 hz h5
    have RM0 := fun (k : Nat) (hk : k ≤ n) (A' : Option Addr) (c' : Nat) (w' : World) (h3 : k ≤ c') (h5 : Kn.str.Rows w' A' L) => root_calls k (L.take k) A' c' w' (by rw [List.length_take]; omega) (by omega) h3 (fun x hx => hz x (List.mem_of_mem_take hx)) (rows_take h5 k)
    have HI0 := fun (k : Nat) (x : ByteArray) (hk : k < n) (hx : L[k]? = some x) (A' : Option Addr) (c' : Nat) (w' : World) h3 h5 => included_ok x (rootN L) k n (inclN L k) A' c' w' hk (by omega) (hz _ (List.mem_of_getElem? hx)) h3 (inclN_sizes _ L k rfl hz) h5
    have HC0 := fun (k : Nat) (h1 : 1 ≤ k) (hk : k ≤ n) (A' : Option Addr) (c' : Nat) (w' : World) h3 h5 => consistent_ok (rootN (L.take k)) (rootN L) k n (consN L k true) A' c' w' h1 hk (by omega) (rootN_size (fun x hx => hz x (List.mem_of_mem_take hx))) h3 (consN_sizes _ L k true rfl hz) h5
    have hoi := inclT_own L n hll
    have hoc := fun (k : Nat) (h1 : 1 ≤ k) (hk : k ≤ n) => (hll ▸ consT_own L k h1 (by rw [hll]; exact hk) : consT k n (rootN (L.take k)) (rootN L) (consN L k true) = true)
    have hli := fun (k : Nat) => inclN_len [] n L k hll
    have hlc := fun (k : Nat) (h1 : 1 ≤ n) => consN_len n L k true hll h1
    rw [hll] at IO0 CO0
    generalize arr .u32 (K64 ++ H8.L) = tb at *
    have hmax := hr.1
    replace FW := Lib.hid FW
    replace M := Lib.hid M
    replace LV := Lib.hid LV
    replace RT0 := Lib.hid RT0
    replace RR0 := Lib.hid RR0
    replace IB0 := Lib.hid IB0
    replace CB0 := Lib.hid CB0
    replace IO0 := Lib.hid IO0
    replace CO0 := Lib.hid CO0
    replace RI0 := Lib.hid RI0
    replace RC0 := Lib.hid RC0
    replace RM0 := Lib.hid RM0
    replace HI0 := Lib.hid HI0
    replace HC0 := Lib.hid HC0
    replace hoi := Lib.hid hoi
    replace hoc := Lib.hid hoc
    replace hli := Lib.hid hli
    replace hlc := Lib.hid hlc
    replace LFC := Lib.hid LFC
    replace hx0 := Lib.hid hx0
    replace hx100 := Lib.hid hx100
    replace hr := Lib.hid hr
    replace hz := Lib.hid hz
    replace hll := Lib.hid hll
    go_enter Try.func7, Try.ntmps7
    go_upto_region 6 with (first | ((with_reducible refine (AW.out _).mono ?_); rintro e w4 ⟨rfl, hb4⟩; replace hB := Later.trans hB hb4) | ((with_reducible refine (FW.out _ (hr.out.below hB)).mono ?_); rintro e w5 ⟨rfl, hw5⟩; obtain rfl := hw5.symm) | ((with_reducible refine (M.out _).mono ?_); rintro e w6 ⟨rfl, hb6⟩; replace hB := Later.trans hB hb6; have hZ := Whole.new w6 29 Try.zeroCells29; have hG6 := hB.size; replace hB := hB.alloc (.cells Try.zeroCells29 29)) | ((with_reducible apply wl_storeW (ty := 29) hZ); rfl; rfl; rfl; kernel_rfl; exact htz; exact ho1; intro wS hT hgS hzS; replace hB := below_only' hB hgS hG6; clear hgS hzS hZ) | ((with_reducible refine (LV.out _ (hr.out.below hB)).mono ?_); rintro e w7 ⟨⟨v, rfl, hv⟩, hb7⟩; replace hB := Later.trans hB hb7; replace hT := Later.whole hb7 hT; obtain ⟨A2, c2, hv2, hc2, hL⟩ := hv.rows (by have := hll.out; omega); replace hL := Lib.hid hL; rw [hll.out] at hc2 hv2; clear hv; subst hv2))
    generalize w6.heap.size = G at *
    replace hT := Lib.hid hT
    have RT := fun W (hW : Later w7 W) => RT0.out A2 c2 W hc2 (hL.out.below hW)
    have RR := fun W (hW : Later w7 W) => RR0.out A2 c2 W hc2 (hL.out.below hW)
    replace RT := Lib.hid RT
    replace RR := Lib.hid RR
    clear RT0 RR0 FW LV
    by_cases hn0 : n = 0
    · subst hn0
      refine wp_region_grow 21 139 (by kernel_rfl) (by kernel_rfl) rfl (fun w8 hl8 => ?_)
      simp only [List.take_succ_cons, List.take_zero, List.drop_succ_cons, List.drop_zero]
      generalize ha : Act.mk _ _ = a0
      have k0 : a0.eval (.tmp 0) = .slice A 0 cap := by subst ha; rfl
      have k7 : a0.eval (.tmp 7) = .pointer (some ⟨G, 0, none⟩) := by subst ha; rfl
      have k8 : a0.eval (.tmp 8) = .slice A2 0 c2 := by subst ha; rfl
      have k9 : a0.eval (.tmp 9) = .int .i64 0 := by subst ha; rfl
      have ks : a0.tmps.size = 139 := by subst ha; rfl
      have ha0 := ha.symm
      clear ha
      refine wpG_move (fun a w hk => (hk 9 rfl : a.eval (.tmp 9) = a0.eval (.tmp 9)).trans k9) ?_
      apply wpG_value'
      · rfl
      · (intro a wx hlx hk K hK; have e28 : a.eval (.tmp 28) = _ := hk 28 rfl; simp only [execOp, e28]; clear e28 hk; go_simp; exact hK)
      refine wpG_move (fun a w hk => hk 29 rfl) ?_
      refine wpG_skip (fun a w hl hk => by have e : a.eval (.tmp 30) = .bool false := hk 30 rfl; rw [wanted_of rfl rfl e]; rfl) ?_
      refine wpG_skip (fun a w hl hk => by have e : a.eval (.tmp 30) = .bool false := hk 30 rfl; rw [wanted_of rfl rfl e]; rfl) ?_
      refine wpG_skip (fun a w hl hk => by have e : a.eval (.tmp 30) = .bool false := hk 30 rfl; rw [wanted_of rfl rfl e]; rfl) ?_
      refine wpG_skip (fun a w hl hk => by have e : a.eval (.tmp 30) = .bool false := hk 30 rfl; rw [wanted_of rfl rfl e]; rfl) ?_
      refine wpG_skip (fun a w hl hk => by have e : a.eval (.tmp 30) = .bool false := hk 30 rfl; rw [wanted_of rfl rfl e]; rfl) ?_
      refine wpG_skip (fun a w hl hk => by have e : a.eval (.tmp 30) = .bool false := hk 30 rfl; rw [wanted_of rfl rfl e]; rfl) ?_
      refine wpG_skip (fun a w hl hk => by have e : a.eval (.tmp 30) = .bool false := hk 30 rfl; rw [wanted_of rfl rfl e]; rfl) ?_
      refine wpG_skip (fun a w hl hk => by have e : a.eval (.tmp 30) = .bool false := hk 30 rfl; rw [wanted_of rfl rfl e]; rfl) ?_
      refine wpG_skip (fun a w hl hk => by have e : a.eval (.tmp 30) = .bool false := hk 30 rfl; rw [wanted_of rfl rfl e]; rfl) ?_
      apply wpG_value'
      · rfl
      · (intro a wx hlx hk K hK; have e30 : a.eval (.tmp 30) = _ := hk 30 rfl; have e39 : a.eval (.tmp 39) = _ := hk 39 rfl; simp only [execOp, e30, e39]; clear e30 e39 hk; go_simp; exact hK)
      refine wpG_move (fun a w hk => hk 40 rfl) ?_
      refine wpG_guard (fun a w hl hk => by have e : a.eval (.tmp 41) = .bool false := hk 41 rfl; rw [wanted_of rfl rfl e]; rfl) ?_
      refine wpG_loadW (hl8.whole hT.out) Try.underlying29 rfl (hsz) (fun a w hk => (hk 7 rfl : a.eval (.tmp 7) = a0.eval (.tmp 7)).trans k7) ?_
      refine wpG_guard (fun a w hl hk => by have e : a.eval (.tmp 41) = .bool false := hk 41 rfl; rw [wanted_of rfl rfl e]; rfl) ?_
      refine wpG_move (fun a w hk => (hk 8 rfl : a.eval (.tmp 8) = a0.eval (.tmp 8)).trans k8) ?_
      refine wpG_guard (fun a w hl hk => by have e : a.eval (.tmp 41) = .bool false := hk 41 rfl; rw [wanted_of rfl rfl e]; rfl) ?_
      refine wpG_call _ _ Try.func19 (by kernel_rfl) (by kernel_rfl) (fun W hW => RT.out W (hl8.trans hW)) (fun a w hk => by have e42 : a.eval (.tmp 42) = _ := hk 42 rfl; have e43 : a.eval (.tmp 43) = _ := hk 43 rfl; simp [e42, e43]) ?_
      refine wpG_guard (fun a w hl hk => by have e : a.eval (.tmp 41) = .bool false := hk 41 rfl; rw [wanted_of rfl rfl e]; rfl) ?_
      refine wpG_move (fun a w hk => (hk 8 rfl : a.eval (.tmp 8) = a0.eval (.tmp 8)).trans k8) ?_
      refine wpG_guard (fun a w hl hk => by have e : a.eval (.tmp 41) = .bool false := hk 41 rfl; rw [wanted_of rfl rfl e]; rfl) ?_
      refine wpG_call _ _ Try.func29 (by kernel_rfl) (by kernel_rfl) (fun W hW => RR.out W (hl8.trans hW)) (fun a w hk => by have e45 : a.eval (.tmp 45) = _ := hk 45 rfl; simp [e45]) ?_
      refine wpG_guard (fun a w hl hk => by have e : a.eval (.tmp 41) = .bool false := hk 41 rfl; rw [wanted_of rfl rfl e]; rfl) ?_
      apply wpG_value'
      · rfl
      · (intro a wx hlx hk K hK; have e44 : a.eval (.tmp 44) = _ := hk 44 rfl; have e46 : a.eval (.tmp 46) = _ := hk 46 rfl; simp only [execOp, e44, e46]; clear e44 e46 hk; go_simp; exact hK)
      apply wpG_value'
      · rfl
      · (intro a wx hlx hk K hK; have e41 : a.eval (.tmp 41) = _ := hk 41 rfl; have e47 : a.eval (.tmp 47) = _ := hk 47 rfl; simp only [execOp, e41, e47]; clear e41 e47 hk; go_simp; exact hK)
      refine wpG_nil (fun w8' hl8' => ?_)
      refine fin_is ?_
      refine fin_is ?_
      refine fin_is ?_
      refine fin_is ?_
      refine fin_is ?_
      refine fin_is ?_
      refine fin_is ?_
      refine fin_is ?_
      refine fin_is ?_
      refine fin_is ?_
      refine fin_is ?_
      refine fin_is ?_
      refine fin_is ?_
      refine fin_is ?_
      refine fin_is ?_
      refine fin_is ?_
      refine fin_is ?_
      refine fin_is ?_
      refine fin_is ?_
      refine fin_is ?_
      refine fin_is ?_
      refine fin_nil ?_
      subst ha0
      clear k7 k0 k8 k9 ks
      simp only [Act.put, List.setIfInBounds_toArray, List.set_cons_succ, List.set_cons_zero]
      have hl := hl8.trans hl8'
      clear hl8 hl8'
      by_cases hi1 : i < 0
      · have qi1 : (i < 0) = True := eq_true hi1
        have IB := fun W => IB0.out A2 c2 W (.inl hi1)
        replace IB := Lib.hid IB
        go_upto_region 15 with (first | ((with_reducible apply wl_loadW (ty := 29) (Later.whole hl hT.out) Try.underlying29); rfl; rfl; rfl; exact hsz) | ((with_reducible refine (RT.out _ hl).mono ?_); rintro e w9 ⟨rfl, hb9⟩; replace hl := Later.trans hl hb9) | ((with_reducible refine (IB.out _).mono ?_); rintro e wa ⟨rfl, hba⟩; replace hl := Later.trans hl hba))
        by_cases hm1 : m < 1
        · have qm1 : (m < 1) = True := eq_true hm1
          have CB := fun W => CB0.out A2 c2 W (.inl hm1)
          replace CB := Lib.hid CB
          go_wp2_with (first | ((with_reducible apply wl_loadW (ty := 29) (Later.whole hl hT.out) Try.underlying29); rfl; rfl; rfl; exact hsz) | ((with_reducible refine (CB.out _).mono ?_); rintro e wc ⟨rfl, hbc⟩; replace hl := Later.trans hl hbc))
          go_returns
          go_light
          exact ⟨rfl, by first | exact hB.trans hl | exact hB.trans (hl.trans (hld.trans hld'))⟩
        · have qm1 : (m < 1) = False := eq_false hm1
          by_cases hm2 : (0 : Int) < m
          · have qm2 : ((0 : Int) < m) = True := eq_true hm2
            have CB := fun W => CB0.out A2 c2 W (.inr (by simpa using hm2))
            replace CB := Lib.hid CB
            go_wp2_with (first | ((with_reducible apply wl_loadW (ty := 29) (Later.whole hl hT.out) Try.underlying29); rfl; rfl; rfl; exact hsz) | ((with_reducible refine (CB.out _).mono ?_); rintro e wc ⟨rfl, hbc⟩; replace hl := Later.trans hl hbc))
            go_returns
            go_light
            exact ⟨rfl, by first | exact hB.trans hl | exact hB.trans (hl.trans (hld.trans hld'))⟩
          · exact absurd hm1 (by omega)
      · have qi1 : (i < 0) = False := eq_false hi1
        by_cases hi2 : (0 : Int) ≤ i
        · have qi2 : ((0 : Int) ≤ i) = True := eq_true hi2
          have IB := fun W => IB0.out A2 c2 W (.inr (by simpa using hi2))
          replace IB := Lib.hid IB
          go_upto_region 15 with (first | ((with_reducible apply wl_loadW (ty := 29) (Later.whole hl hT.out) Try.underlying29); rfl; rfl; rfl; exact hsz) | ((with_reducible refine (RT.out _ hl).mono ?_); rintro e w9 ⟨rfl, hb9⟩; replace hl := Later.trans hl hb9) | ((with_reducible refine (IB.out _).mono ?_); rintro e wa ⟨rfl, hba⟩; replace hl := Later.trans hl hba))
          by_cases hm1 : m < 1
          · have qm1 : (m < 1) = True := eq_true hm1
            have CB := fun W => CB0.out A2 c2 W (.inl hm1)
            replace CB := Lib.hid CB
            go_wp2_with (first | ((with_reducible apply wl_loadW (ty := 29) (Later.whole hl hT.out) Try.underlying29); rfl; rfl; rfl; exact hsz) | ((with_reducible refine (CB.out _).mono ?_); rintro e wc ⟨rfl, hbc⟩; replace hl := Later.trans hl hbc))
            go_returns
            go_light
            exact ⟨rfl, by first | exact hB.trans hl | exact hB.trans (hl.trans (hld.trans hld'))⟩
          · have qm1 : (m < 1) = False := eq_false hm1
            by_cases hm2 : (0 : Int) < m
            · have qm2 : ((0 : Int) < m) = True := eq_true hm2
              have CB := fun W => CB0.out A2 c2 W (.inr (by simpa using hm2))
              replace CB := Lib.hid CB
              go_wp2_with (first | ((with_reducible apply wl_loadW (ty := 29) (Later.whole hl hT.out) Try.underlying29); rfl; rfl; rfl; exact hsz) | ((with_reducible refine (CB.out _).mono ?_); rintro e wc ⟨rfl, hbc⟩; replace hl := Later.trans hl hbc))
              go_returns
              go_light
              exact ⟨rfl, by first | exact hB.trans hl | exact hB.trans (hl.trans (hld.trans hld'))⟩
            · exact absurd hm1 (by omega)
        · exact absurd hi1 (by omega)
    · have qn0 : (0 < n) = True := eq_true (by omega)
      obtain ⟨ad, rfl, -, hc0⟩ := Kn.Rows.one_ hr.out (k := 0) (by omega)
      have ha0' : ad.add 0 = ad := by unfold Addr.add; split <;> simp_all
      rw [ha0'] at hc0
      have hc0 := cell_keep hc0 hB
      have hl0 : l[0]? = some (l[0]'(by omega)) := List.getElem?_eq_getElem _
      have hL0 := hx0.out _ hl0
      have hs0 := hx100.out _ (List.mem_of_getElem? hl0)
      obtain ⟨ad2, rfl, -, hd0⟩ := Kn.Rows.one_ hL.out (k := 0) (by rw [hll.out]; omega)
      have ha2' : ad2.add 0 = ad2 := by unfold Addr.add; split <;> simp_all
      rw [ha2'] at hd0
      have hLL : L[0]'(by rw [hll.out]; omega) = leafN (l[0]'(by omega)) := by
        rw [List.getElem?_eq_getElem (by rw [hll.out]; omega)] at hL0
        exact Option.some.inj hL0
      rw [hLL] at hd0
      have LF := fun w => LFC.out _ hs0 w
      generalize l[0]'(by omega) = x0 at hc0 hd0 LF
      generalize leafN x0 = X0 at *
      replace LF := Lib.hid LF
      clear hl0 hL0 hs0 ha0' ha2' hLL hx0 LFC
      refine wp_region_grow 21 139 (by kernel_rfl) (by kernel_rfl) rfl (fun w8 hl8 => ?_)
      simp only [List.take_succ_cons, List.take_zero, List.drop_succ_cons, List.drop_zero]
      generalize ha : Act.mk _ _ = a0
      have k0 : a0.eval (.tmp 0) = .slice (some ad) n cap := by subst ha; rfl
      have k7 : a0.eval (.tmp 7) = .pointer (some ⟨G, 0, none⟩) := by subst ha; rfl
      have k8 : a0.eval (.tmp 8) = .slice (some ad2) n c2 := by subst ha; rfl
      have k9 : a0.eval (.tmp 9) = .int .i64 n := by subst ha; rfl
      have ks : a0.tmps.size = 139 := by subst ha; rfl
      have ha0 := ha.symm
      clear ha
      refine wpG_move (fun a w hk => (hk 9 rfl : a.eval (.tmp 9) = a0.eval (.tmp 9)).trans k9) ?_
      apply wpG_value'
      · rfl
      · (intro a wx hlx hk K hK; have e28 : a.eval (.tmp 28) = _ := hk 28 rfl; simp only [execOp, e28]; clear e28 hk; go_simp; exact hK)
      refine wpG_move (fun a w hk => hk 29 rfl) ?_
      refine wpG_guard (fun a w hl hk => by have e : a.eval (.tmp 30) = .bool true := hk 30 rfl; rw [wanted_of rfl rfl e]; rfl) ?_
      refine wpG_loadW (hl8.whole hT.out) Try.underlying29 rfl (hsz) (fun a w hk => (hk 7 rfl : a.eval (.tmp 7) = a0.eval (.tmp 7)).trans k7) ?_
      refine wpG_guard (fun a w hl hk => by have e : a.eval (.tmp 30) = .bool true := hk 30 rfl; rw [wanted_of rfl rfl e]; rfl) ?_
      refine wpG_move (fun a w hk => (hk 0 rfl : a.eval (.tmp 0) = a0.eval (.tmp 0)).trans k0) ?_
      refine wpG_guard (fun a w hl hk => by have e : a.eval (.tmp 30) = .bool true := hk 30 rfl; rw [wanted_of rfl rfl e]; rfl) ?_
      apply wpG_value'
      · rfl
      · (intro a wx hlx hk K hK; have e32 : a.eval (.tmp 32) = _ := hk 32 rfl; simp only [execOp, e32]; clear e32 hk; go_simp; exact hK)
      refine wpG_guard (fun a w hl hk => by have e : a.eval (.tmp 30) = .bool true := hk 30 rfl; rw [wanted_of rfl rfl e]; rfl) ?_
      refine wpG_load1 (hl8.cell hc0) Try.underlying9 rfl (fun a w hk => hk 33 rfl) ?_
      refine wpG_guard (fun a w hl hk => by have e : a.eval (.tmp 30) = .bool true := hk 30 rfl; rw [wanted_of rfl rfl e]; rfl) ?_
      refine wpG_call _ _ Try.func28 (by kernel_rfl) (by kernel_rfl) (fun W _ => LF.out W) (fun a w hk => by have e31 : a.eval (.tmp 31) = _ := hk 31 rfl; have e34 : a.eval (.tmp 34) = _ := hk 34 rfl; simp [e31, e34]) ?_
      refine wpG_guard (fun a w hl hk => by have e : a.eval (.tmp 30) = .bool true := hk 30 rfl; rw [wanted_of rfl rfl e]; rfl) ?_
      refine wpG_move (fun a w hk => (hk 8 rfl : a.eval (.tmp 8) = a0.eval (.tmp 8)).trans k8) ?_
      refine wpG_guard (fun a w hl hk => by have e : a.eval (.tmp 30) = .bool true := hk 30 rfl; rw [wanted_of rfl rfl e]; rfl) ?_
      apply wpG_value'
      · rfl
      · (intro a wx hlx hk K hK; have e36 : a.eval (.tmp 36) = _ := hk 36 rfl; simp only [execOp, e36]; clear e36 hk; go_simp; exact hK)
      refine wpG_guard (fun a w hl hk => by have e : a.eval (.tmp 30) = .bool true := hk 30 rfl; rw [wanted_of rfl rfl e]; rfl) ?_
      refine wpG_load1 (hl8.cell hd0) Try.underlying9 rfl (fun a w hk => hk 37 rfl) ?_
      refine wpG_guard (fun a w hl hk => by have e : a.eval (.tmp 30) = .bool true := hk 30 rfl; rw [wanted_of rfl rfl e]; rfl) ?_
      apply wpG_value'
      · rfl
      · (intro a wx hlx hk K hK; have e35 : a.eval (.tmp 35) = _ := hk 35 rfl; have e38 : a.eval (.tmp 38) = _ := hk 38 rfl; simp only [execOp, e35, e38]; clear e35 e38 hk; go_simp; exact hK)
      apply wpG_value'
      · rfl
      · (intro a wx hlx hk K hK; have e30 : a.eval (.tmp 30) = _ := hk 30 rfl; have e39 : a.eval (.tmp 39) = _ := hk 39 rfl; simp only [execOp, e30, e39]; clear e30 e39 hk; go_simp; exact hK)
      refine wpG_move (fun a w hk => hk 40 rfl) ?_
      refine wpG_guard (fun a w hl hk => by have e : a.eval (.tmp 41) = .bool false := hk 41 rfl; rw [wanted_of rfl rfl e]; rfl) ?_
      refine wpG_loadW (hl8.whole hT.out) Try.underlying29 rfl (hsz) (fun a w hk => (hk 7 rfl : a.eval (.tmp 7) = a0.eval (.tmp 7)).trans k7) ?_
      refine wpG_guard (fun a w hl hk => by have e : a.eval (.tmp 41) = .bool false := hk 41 rfl; rw [wanted_of rfl rfl e]; rfl) ?_
      refine wpG_move (fun a w hk => (hk 8 rfl : a.eval (.tmp 8) = a0.eval (.tmp 8)).trans k8) ?_
      refine wpG_guard (fun a w hl hk => by have e : a.eval (.tmp 41) = .bool false := hk 41 rfl; rw [wanted_of rfl rfl e]; rfl) ?_
      refine wpG_call _ _ Try.func19 (by kernel_rfl) (by kernel_rfl) (fun W hW => RT.out W (hl8.trans hW)) (fun a w hk => by have e42 : a.eval (.tmp 42) = _ := hk 42 rfl; have e43 : a.eval (.tmp 43) = _ := hk 43 rfl; simp [e42, e43]) ?_
      refine wpG_guard (fun a w hl hk => by have e : a.eval (.tmp 41) = .bool false := hk 41 rfl; rw [wanted_of rfl rfl e]; rfl) ?_
      refine wpG_move (fun a w hk => (hk 8 rfl : a.eval (.tmp 8) = a0.eval (.tmp 8)).trans k8) ?_
      refine wpG_guard (fun a w hl hk => by have e : a.eval (.tmp 41) = .bool false := hk 41 rfl; rw [wanted_of rfl rfl e]; rfl) ?_
      refine wpG_call _ _ Try.func29 (by kernel_rfl) (by kernel_rfl) (fun W hW => RR.out W (hl8.trans hW)) (fun a w hk => by have e45 : a.eval (.tmp 45) = _ := hk 45 rfl; simp [e45]) ?_
      refine wpG_guard (fun a w hl hk => by have e : a.eval (.tmp 41) = .bool false := hk 41 rfl; rw [wanted_of rfl rfl e]; rfl) ?_
      apply wpG_value'
      · rfl
      · (intro a wx hlx hk K hK; have e44 : a.eval (.tmp 44) = _ := hk 44 rfl; have e46 : a.eval (.tmp 46) = _ := hk 46 rfl; simp only [execOp, e44, e46]; clear e44 e46 hk; go_simp; exact hK)
      apply wpG_value'
      · rfl
      · (intro a wx hlx hk K hK; have e41 : a.eval (.tmp 41) = _ := hk 41 rfl; have e47 : a.eval (.tmp 47) = _ := hk 47 rfl; simp only [execOp, e41, e47]; clear e41 e47 hk; go_simp; exact hK)
      refine wpG_nil (fun w8' hl8' => ?_)
      refine fin_is ?_
      refine fin_is ?_
      refine fin_is ?_
      refine fin_is ?_
      refine fin_is ?_
      refine fin_is ?_
      refine fin_is ?_
      refine fin_is ?_
      refine fin_is ?_
      refine fin_is ?_
      refine fin_is ?_
      refine fin_is ?_
      refine fin_is ?_
      refine fin_is ?_
      refine fin_is ?_
      refine fin_is ?_
      refine fin_is ?_
      refine fin_is ?_
      refine fin_is ?_
      refine fin_is ?_
      refine fin_is ?_
      refine fin_nil ?_
      subst ha0
      clear k7 k0 k8 k9 ks hc0 hd0
      simp only [Act.put, List.setIfInBounds_toArray, List.set_cons_succ, List.set_cons_zero]
      have hl := hl8.trans hl8'
      clear hl8 hl8'
      by_cases hi1 : i < 0
      · have qi1 : (i < 0) = True := eq_true hi1
        have IB := fun W => IB0.out (some ad2) c2 W (.inl hi1)
        replace IB := Lib.hid IB
        go_upto_region 15 with (first | ((with_reducible apply wl_loadW (ty := 29) (Later.whole hl hT.out) Try.underlying29); rfl; rfl; rfl; exact hsz) | ((with_reducible refine (RT.out _ hl).mono ?_); rintro e w9 ⟨rfl, hb9⟩; replace hl := Later.trans hl hb9) | ((with_reducible refine (IB.out _).mono ?_); rintro e wa ⟨rfl, hba⟩; replace hl := Later.trans hl hba))
        by_cases hm1 : m < 1
        · have qm1 : (m < 1) = True := eq_true hm1
          have CB := fun W => CB0.out (some ad2) c2 W (.inl hm1)
          replace CB := Lib.hid CB
          go_wp2_with (first | ((with_reducible apply wl_loadW (ty := 29) (Later.whole hl hT.out) Try.underlying29); rfl; rfl; rfl; exact hsz) | ((with_reducible refine (CB.out _).mono ?_); rintro e wc ⟨rfl, hbc⟩; replace hl := Later.trans hl hbc))
          go_returns
          go_light
          exact ⟨rfl, by first | exact hB.trans hl | exact hB.trans (hl.trans (hld.trans hld'))⟩
        · have qm1 : (m < 1) = False := eq_false hm1
          by_cases hm2 : (n : Int) < m
          · have qm2 : ((n : Int) < m) = True := eq_true hm2
            have CB := fun W => CB0.out (some ad2) c2 W (.inr hm2)
            replace CB := Lib.hid CB
            go_wp2_with (first | ((with_reducible apply wl_loadW (ty := 29) (Later.whole hl hT.out) Try.underlying29); rfl; rfl; rfl; exact hsz) | ((with_reducible refine (CB.out _).mono ?_); rintro e wc ⟨rfl, hbc⟩; replace hl := Later.trans hl hbc))
            go_returns
            go_light
            exact ⟨rfl, by first | exact hB.trans hl | exact hB.trans (hl.trans (hld.trans hld'))⟩
          · have qm2 : ((n : Int) < m) = False := eq_false hm2
            obtain ⟨k, hk⟩ : ∃ k : Nat, m = k := ⟨m.toNat, by omega⟩
            subst hk
            have hk1 : 1 ≤ k := by omega
            have hkn : k ≤ n := by omega
            have CO := fun W (hW : Later w7 W) => CO0.out (some ad2) c2 k W hk1 hkn hc2 (hL.out.below hW)
            have RC := fun W (hW : Later w7 W) => RC0.out (some ad2) c2 k W hk1 hkn hc2 (hL.out.below hW)
            have RM := fun W (hW : Later w7 W) => RM0.out k hkn (some ad2) c2 W (by omega) (hL.out.below hW)
            have HC := fun A' c' W h3 h5 => HC0.out k hk1 hkn A' c' W h3 h5
            rw [hoc.out k hk1 hkn] at HC
            have hql := hlc.out k (by omega)
            generalize rootN (L.take k) = rk at *
            generalize consN L k true = q at *
            replace CO := Lib.hid CO
            replace RC := Lib.hid RC
            replace RM := Lib.hid RM
            replace HC := Lib.hid HC
            have bk1 : ((k : Int) ≤ c2) = True := eq_true (by omega)
            go_upto_region 18 with (first | ((with_reducible apply wl_loadW (ty := 29) (Later.whole hl hT.out) Try.underlying29); rfl; rfl; rfl; exact hsz) | ((with_reducible refine (CO.out _ hl).mono ?_); rintro e wc ⟨⟨vc, rfl, hvc⟩, hbc⟩; replace hl := Later.trans hl hbc; obtain ⟨A5, c5, rfl, hc5, hQ5⟩ := TextRow.rows hvc (by omega); clear hvc))
            refine wp_region_grow 23 139 (by kernel_rfl) (by kernel_rfl) rfl (fun wd hld => ?_)
            simp only [List.take_succ_cons, List.take_zero, List.drop_succ_cons, List.drop_zero]
            generalize ha : Act.mk _ _ = a0
            have k2 : a0.eval (.tmp 2) = .int .i64 k := by subst ha; rfl
            have k7 : a0.eval (.tmp 7) = .pointer (some ⟨G, 0, none⟩) := by subst ha; rfl
            have k8 : a0.eval (.tmp 8) = .slice (some ad2) n c2 := by subst ha; rfl
            have k9 : a0.eval (.tmp 9) = .int .i64 n := by subst ha; rfl
            have k10 : a0.eval (.tmp 10) = .string (rootN L) := by subst ha; rfl
            have k13 : a0.eval (.tmp 13) = .slice A5 q.length c5 := by subst ha; rfl
            have k14 : a0.eval (.tmp 14) = .int .i64 0 := by subst ha; rfl
            have ks : a0.tmps.size = 139 := by subst ha; rfl
            have ha0 := ha.symm
            clear ha
            refine wpG_move (fun a w hk => (hk 14 rfl : a.eval (.tmp 14) = a0.eval (.tmp 14)).trans k14) ?_
            apply wpG_value'
            · rfl
            · (intro a wx hlx hk K hK; have e117 : a.eval (.tmp 117) = _ := hk 117 rfl; simp only [execOp, e117]; clear e117 hk; go_simp; exact hK)
            refine wpG_move (fun a w hk => hk 118 rfl) ?_
            refine wpG_guard (fun a w hl hk => by have e : a.eval (.tmp 119) = .bool true := hk 119 rfl; rw [wanted_of rfl rfl e]; rfl) ?_
            refine wpG_move (fun a w hk => (hk 13 rfl : a.eval (.tmp 13) = a0.eval (.tmp 13)).trans k13) ?_
            refine wpG_guard (fun a w hl hk => by have e : a.eval (.tmp 119) = .bool true := hk 119 rfl; rw [wanted_of rfl rfl e]; rfl) ?_
            refine wpG_move (fun a w hk => (hk 8 rfl : a.eval (.tmp 8) = a0.eval (.tmp 8)).trans k8) ?_
            refine wpG_guard (fun a w hl hk => by have e : a.eval (.tmp 119) = .bool true := hk 119 rfl; rw [wanted_of rfl rfl e]; rfl) ?_
            refine wpG_move (fun a w hk => (hk 2 rfl : a.eval (.tmp 2) = a0.eval (.tmp 2)).trans k2) ?_
            refine wpG_guard (fun a w hl hk => by have e : a.eval (.tmp 119) = .bool true := hk 119 rfl; rw [wanted_of rfl rfl e]; rfl) ?_
            refine wpG_callF (TextRow 9 wd.heap.size q) (TextRow.later) Try.func32 (by kernel_rfl) (by kernel_rfl) (fun a wx hlx hk => by have e121 : a.eval (.tmp 121) = _ := hk 121 rfl; have e122 : a.eval (.tmp 122) = _ := hk 122 rfl; simp only [List.map_toArray, List.map_cons, List.map_nil, e121, e122]; exact ((RC.out wx (hl.trans (hld.trans hlx))).mono fun e w' hh => by obtain ⟨⟨v, he, hv⟩, hb⟩ := hh; exact ⟨v, he, TextRow.base hv hlx.size, hb⟩)) ?_
            refine wpG_guard (fun a w hl hk => by have e : a.eval (.tmp 119) = .bool true := hk 119 rfl; rw [wanted_of rfl rfl e]; rfl) ?_
            refine wpG_callF (Is (.bool true)) (fun _ _ _ _ h => h) Try.func30 (by kernel_rfl) (by kernel_rfl) (fun a wx hlx hk => by have e1 : a.eval (.tmp 120) = _ := hk 120 rfl; have f1 : TextRow 9 wd.heap.size q (a.eval (.tmp 123)) wx := hk 123 rfl; obtain ⟨A6, c6, e2, hc6, hR⟩ := TextRow.rows f1 (by omega); simp only [List.map_toArray, List.map_cons, List.map_nil, e1, e2]; exact (same_calls A5 A6 q q c5 c6 wx (hQ5.below (hld.trans hlx)) hR).mono fun e w' h => ⟨_, h.1.trans (by rw [decide_eq_true rfl]), rfl, h.2⟩) ?_
            apply wpG_value'
            · rfl
            · (intro a wx hlx hk K hK; have e119 : a.eval (.tmp 119) = _ := hk 119 rfl; have e124 : a.eval (.tmp 124) = _ := hk 124 rfl; simp only [execOp, e119, e124]; clear e119 e124 hk; go_simp; exact hK)
            refine wpG_move (fun a w hk => hk 125 rfl) ?_
            refine wpG_guard (fun a w hl hk => by have e : a.eval (.tmp 126) = .bool true := hk 126 rfl; rw [wanted_of rfl rfl e]; rfl) ?_
            refine wpG_loadW ((hl.trans hld).whole hT.out) Try.underlying29 rfl (hsz) (fun a w hk => (hk 7 rfl : a.eval (.tmp 7) = a0.eval (.tmp 7)).trans k7) ?_
            refine wpG_guard (fun a w hl hk => by have e : a.eval (.tmp 126) = .bool true := hk 126 rfl; rw [wanted_of rfl rfl e]; rfl) ?_
            refine wpG_move (fun a w hk => (hk 2 rfl : a.eval (.tmp 2) = a0.eval (.tmp 2)).trans k2) ?_
            refine wpG_guard (fun a w hl hk => by have e : a.eval (.tmp 126) = .bool true := hk 126 rfl; rw [wanted_of rfl rfl e]; rfl) ?_
            refine wpG_move (fun a w hk => (hk 9 rfl : a.eval (.tmp 9) = a0.eval (.tmp 9)).trans k9) ?_
            refine wpG_guard (fun a w hl hk => by have e : a.eval (.tmp 126) = .bool true := hk 126 rfl; rw [wanted_of rfl rfl e]; rfl) ?_
            refine wpG_loadW ((hl.trans hld).whole hT.out) Try.underlying29 rfl (hsz) (fun a w hk => (hk 7 rfl : a.eval (.tmp 7) = a0.eval (.tmp 7)).trans k7) ?_
            refine wpG_guard (fun a w hl hk => by have e : a.eval (.tmp 126) = .bool true := hk 126 rfl; rw [wanted_of rfl rfl e]; rfl) ?_
            refine wpG_move (fun a w hk => (hk 8 rfl : a.eval (.tmp 8) = a0.eval (.tmp 8)).trans k8) ?_
            refine wpG_guard (fun a w hl hk => by have e : a.eval (.tmp 126) = .bool true := hk 126 rfl; rw [wanted_of rfl rfl e]; rfl) ?_
            refine wpG_move (fun a w hk => (hk 2 rfl : a.eval (.tmp 2) = a0.eval (.tmp 2)).trans k2) ?_
            refine wpG_guard (fun a w hl hk => by have e : a.eval (.tmp 126) = .bool true := hk 126 rfl; rw [wanted_of rfl rfl e]; rfl) ?_
            apply wpG_value'
            · rfl
            · (intro a wx hlx hk K hK; have e131 : a.eval (.tmp 131) = _ := hk 131 rfl; have e132 : a.eval (.tmp 132) = _ := hk 132 rfl; simp only [execOp, resolve, List.map_toArray, List.map_cons, List.map_nil, Option.map_some, Option.map_none, e131, e132]; clear e131 e132 hk; go_simp; exact hK)
            refine wpG_guard (fun a w hl hk => by have e : a.eval (.tmp 126) = .bool true := hk 126 rfl; rw [wanted_of rfl rfl e]; rfl) ?_
            refine wpG_call _ _ Try.func19 (by kernel_rfl) (by kernel_rfl) (fun W hW => RM.out W (hl.trans (hld.trans hW))) (fun a w hk => by have e130 : a.eval (.tmp 130) = _ := hk 130 rfl; have e133 : a.eval (.tmp 133) = _ := hk 133 rfl; simp [e130, e133]) ?_
            refine wpG_guard (fun a w hl hk => by have e : a.eval (.tmp 126) = .bool true := hk 126 rfl; rw [wanted_of rfl rfl e]; rfl) ?_
            refine wpG_move (fun a w hk => (hk 10 rfl : a.eval (.tmp 10) = a0.eval (.tmp 10)).trans k10) ?_
            refine wpG_guard (fun a w hl hk => by have e : a.eval (.tmp 126) = .bool true := hk 126 rfl; rw [wanted_of rfl rfl e]; rfl) ?_
            refine wpG_move (fun a w hk => (hk 13 rfl : a.eval (.tmp 13) = a0.eval (.tmp 13)).trans k13) ?_
            refine wpG_guard (fun a w hl hk => by have e : a.eval (.tmp 126) = .bool true := hk 126 rfl; rw [wanted_of rfl rfl e]; rfl) ?_
            refine wpG_call _ _ Try.func24 (by kernel_rfl) (by kernel_rfl) (fun W hW => HC.out A5 c5 W hc5 (hQ5.below (hld.trans hW))) (fun a w hk => by have e127 : a.eval (.tmp 127) = _ := hk 127 rfl; have e128 : a.eval (.tmp 128) = _ := hk 128 rfl; have e129 : a.eval (.tmp 129) = _ := hk 129 rfl; have e134 : a.eval (.tmp 134) = _ := hk 134 rfl; have e135 : a.eval (.tmp 135) = _ := hk 135 rfl; have e136 : a.eval (.tmp 136) = _ := hk 136 rfl; simp [e127, e128, e129, e134, e135, e136]) ?_
            apply wpG_value'
            · rfl
            · (intro a wx hlx hk K hK; have e126 : a.eval (.tmp 126) = _ := hk 126 rfl; have e137 : a.eval (.tmp 137) = _ := hk 137 rfl; simp only [execOp, e126, e137]; clear e126 e137 hk; go_simp; exact hK)
            refine wpG_assign (fun a w hk => hk 138 rfl) ?_
            refine wpG_nil (fun wd' hld' => ?_)
            refine fin_is ?_
            refine fin_is ?_
            refine fin_is ?_
            refine fin_is ?_
            refine fin_is ?_
            refine fin_is ?_
            refine fin_some (fun v123 hv123 => ?_)
            refine fin_is ?_
            refine fin_is ?_
            refine fin_is ?_
            refine fin_is ?_
            refine fin_is ?_
            refine fin_is ?_
            refine fin_is ?_
            refine fin_is ?_
            refine fin_is ?_
            refine fin_is ?_
            refine fin_is ?_
            refine fin_is ?_
            refine fin_is ?_
            refine fin_is ?_
            refine fin_is ?_
            refine fin_is ?_
            refine fin_nil ?_
            subst ha0
            clear k14 k13 k8 k2 k7 k9 k10 ks
            simp only [Act.put, List.setIfInBounds_toArray, List.set_cons_succ, List.set_cons_zero]
            go_wp2_with (fail)
            go_returns
            go_light
            exact ⟨rfl, by first | exact hB.trans hl | exact hB.trans (hl.trans (hld.trans hld'))⟩
      · have qi1 : (i < 0) = False := eq_false hi1
        by_cases hi2 : (n : Int) ≤ i
        · have qi2 : ((n : Int) ≤ i) = True := eq_true hi2
          have IB := fun W => IB0.out (some ad2) c2 W (.inr hi2)
          replace IB := Lib.hid IB
          go_upto_region 15 with (first | ((with_reducible apply wl_loadW (ty := 29) (Later.whole hl hT.out) Try.underlying29); rfl; rfl; rfl; exact hsz) | ((with_reducible refine (RT.out _ hl).mono ?_); rintro e w9 ⟨rfl, hb9⟩; replace hl := Later.trans hl hb9) | ((with_reducible refine (IB.out _).mono ?_); rintro e wa ⟨rfl, hba⟩; replace hl := Later.trans hl hba))
          by_cases hm1 : m < 1
          · have qm1 : (m < 1) = True := eq_true hm1
            have CB := fun W => CB0.out (some ad2) c2 W (.inl hm1)
            replace CB := Lib.hid CB
            go_wp2_with (first | ((with_reducible apply wl_loadW (ty := 29) (Later.whole hl hT.out) Try.underlying29); rfl; rfl; rfl; exact hsz) | ((with_reducible refine (CB.out _).mono ?_); rintro e wc ⟨rfl, hbc⟩; replace hl := Later.trans hl hbc))
            go_returns
            go_light
            exact ⟨rfl, by first | exact hB.trans hl | exact hB.trans (hl.trans (hld.trans hld'))⟩
          · have qm1 : (m < 1) = False := eq_false hm1
            by_cases hm2 : (n : Int) < m
            · have qm2 : ((n : Int) < m) = True := eq_true hm2
              have CB := fun W => CB0.out (some ad2) c2 W (.inr hm2)
              replace CB := Lib.hid CB
              go_wp2_with (first | ((with_reducible apply wl_loadW (ty := 29) (Later.whole hl hT.out) Try.underlying29); rfl; rfl; rfl; exact hsz) | ((with_reducible refine (CB.out _).mono ?_); rintro e wc ⟨rfl, hbc⟩; replace hl := Later.trans hl hbc))
              go_returns
              go_light
              exact ⟨rfl, by first | exact hB.trans hl | exact hB.trans (hl.trans (hld.trans hld'))⟩
            · have qm2 : ((n : Int) < m) = False := eq_false hm2
              obtain ⟨k, hk⟩ : ∃ k : Nat, m = k := ⟨m.toNat, by omega⟩
              subst hk
              have hk1 : 1 ≤ k := by omega
              have hkn : k ≤ n := by omega
              have CO := fun W (hW : Later w7 W) => CO0.out (some ad2) c2 k W hk1 hkn hc2 (hL.out.below hW)
              have RC := fun W (hW : Later w7 W) => RC0.out (some ad2) c2 k W hk1 hkn hc2 (hL.out.below hW)
              have RM := fun W (hW : Later w7 W) => RM0.out k hkn (some ad2) c2 W (by omega) (hL.out.below hW)
              have HC := fun A' c' W h3 h5 => HC0.out k hk1 hkn A' c' W h3 h5
              rw [hoc.out k hk1 hkn] at HC
              have hql := hlc.out k (by omega)
              generalize rootN (L.take k) = rk at *
              generalize consN L k true = q at *
              replace CO := Lib.hid CO
              replace RC := Lib.hid RC
              replace RM := Lib.hid RM
              replace HC := Lib.hid HC
              have bk1 : ((k : Int) ≤ c2) = True := eq_true (by omega)
              go_upto_region 18 with (first | ((with_reducible apply wl_loadW (ty := 29) (Later.whole hl hT.out) Try.underlying29); rfl; rfl; rfl; exact hsz) | ((with_reducible refine (CO.out _ hl).mono ?_); rintro e wc ⟨⟨vc, rfl, hvc⟩, hbc⟩; replace hl := Later.trans hl hbc; obtain ⟨A5, c5, rfl, hc5, hQ5⟩ := TextRow.rows hvc (by omega); clear hvc))
              refine wp_region_grow 23 139 (by kernel_rfl) (by kernel_rfl) rfl (fun wd hld => ?_)
              simp only [List.take_succ_cons, List.take_zero, List.drop_succ_cons, List.drop_zero]
              generalize ha : Act.mk _ _ = a0
              have k2 : a0.eval (.tmp 2) = .int .i64 k := by subst ha; rfl
              have k7 : a0.eval (.tmp 7) = .pointer (some ⟨G, 0, none⟩) := by subst ha; rfl
              have k8 : a0.eval (.tmp 8) = .slice (some ad2) n c2 := by subst ha; rfl
              have k9 : a0.eval (.tmp 9) = .int .i64 n := by subst ha; rfl
              have k10 : a0.eval (.tmp 10) = .string (rootN L) := by subst ha; rfl
              have k13 : a0.eval (.tmp 13) = .slice A5 q.length c5 := by subst ha; rfl
              have k14 : a0.eval (.tmp 14) = .int .i64 0 := by subst ha; rfl
              have ks : a0.tmps.size = 139 := by subst ha; rfl
              have ha0 := ha.symm
              clear ha
              refine wpG_move (fun a w hk => (hk 14 rfl : a.eval (.tmp 14) = a0.eval (.tmp 14)).trans k14) ?_
              apply wpG_value'
              · rfl
              · (intro a wx hlx hk K hK; have e117 : a.eval (.tmp 117) = _ := hk 117 rfl; simp only [execOp, e117]; clear e117 hk; go_simp; exact hK)
              refine wpG_move (fun a w hk => hk 118 rfl) ?_
              refine wpG_guard (fun a w hl hk => by have e : a.eval (.tmp 119) = .bool true := hk 119 rfl; rw [wanted_of rfl rfl e]; rfl) ?_
              refine wpG_move (fun a w hk => (hk 13 rfl : a.eval (.tmp 13) = a0.eval (.tmp 13)).trans k13) ?_
              refine wpG_guard (fun a w hl hk => by have e : a.eval (.tmp 119) = .bool true := hk 119 rfl; rw [wanted_of rfl rfl e]; rfl) ?_
              refine wpG_move (fun a w hk => (hk 8 rfl : a.eval (.tmp 8) = a0.eval (.tmp 8)).trans k8) ?_
              refine wpG_guard (fun a w hl hk => by have e : a.eval (.tmp 119) = .bool true := hk 119 rfl; rw [wanted_of rfl rfl e]; rfl) ?_
              refine wpG_move (fun a w hk => (hk 2 rfl : a.eval (.tmp 2) = a0.eval (.tmp 2)).trans k2) ?_
              refine wpG_guard (fun a w hl hk => by have e : a.eval (.tmp 119) = .bool true := hk 119 rfl; rw [wanted_of rfl rfl e]; rfl) ?_
              refine wpG_callF (TextRow 9 wd.heap.size q) (TextRow.later) Try.func32 (by kernel_rfl) (by kernel_rfl) (fun a wx hlx hk => by have e121 : a.eval (.tmp 121) = _ := hk 121 rfl; have e122 : a.eval (.tmp 122) = _ := hk 122 rfl; simp only [List.map_toArray, List.map_cons, List.map_nil, e121, e122]; exact ((RC.out wx (hl.trans (hld.trans hlx))).mono fun e w' hh => by obtain ⟨⟨v, he, hv⟩, hb⟩ := hh; exact ⟨v, he, TextRow.base hv hlx.size, hb⟩)) ?_
              refine wpG_guard (fun a w hl hk => by have e : a.eval (.tmp 119) = .bool true := hk 119 rfl; rw [wanted_of rfl rfl e]; rfl) ?_
              refine wpG_callF (Is (.bool true)) (fun _ _ _ _ h => h) Try.func30 (by kernel_rfl) (by kernel_rfl) (fun a wx hlx hk => by have e1 : a.eval (.tmp 120) = _ := hk 120 rfl; have f1 : TextRow 9 wd.heap.size q (a.eval (.tmp 123)) wx := hk 123 rfl; obtain ⟨A6, c6, e2, hc6, hR⟩ := TextRow.rows f1 (by omega); simp only [List.map_toArray, List.map_cons, List.map_nil, e1, e2]; exact (same_calls A5 A6 q q c5 c6 wx (hQ5.below (hld.trans hlx)) hR).mono fun e w' h => ⟨_, h.1.trans (by rw [decide_eq_true rfl]), rfl, h.2⟩) ?_
              apply wpG_value'
              · rfl
              · (intro a wx hlx hk K hK; have e119 : a.eval (.tmp 119) = _ := hk 119 rfl; have e124 : a.eval (.tmp 124) = _ := hk 124 rfl; simp only [execOp, e119, e124]; clear e119 e124 hk; go_simp; exact hK)
              refine wpG_move (fun a w hk => hk 125 rfl) ?_
              refine wpG_guard (fun a w hl hk => by have e : a.eval (.tmp 126) = .bool true := hk 126 rfl; rw [wanted_of rfl rfl e]; rfl) ?_
              refine wpG_loadW ((hl.trans hld).whole hT.out) Try.underlying29 rfl (hsz) (fun a w hk => (hk 7 rfl : a.eval (.tmp 7) = a0.eval (.tmp 7)).trans k7) ?_
              refine wpG_guard (fun a w hl hk => by have e : a.eval (.tmp 126) = .bool true := hk 126 rfl; rw [wanted_of rfl rfl e]; rfl) ?_
              refine wpG_move (fun a w hk => (hk 2 rfl : a.eval (.tmp 2) = a0.eval (.tmp 2)).trans k2) ?_
              refine wpG_guard (fun a w hl hk => by have e : a.eval (.tmp 126) = .bool true := hk 126 rfl; rw [wanted_of rfl rfl e]; rfl) ?_
              refine wpG_move (fun a w hk => (hk 9 rfl : a.eval (.tmp 9) = a0.eval (.tmp 9)).trans k9) ?_
              refine wpG_guard (fun a w hl hk => by have e : a.eval (.tmp 126) = .bool true := hk 126 rfl; rw [wanted_of rfl rfl e]; rfl) ?_
              refine wpG_loadW ((hl.trans hld).whole hT.out) Try.underlying29 rfl (hsz) (fun a w hk => (hk 7 rfl : a.eval (.tmp 7) = a0.eval (.tmp 7)).trans k7) ?_
              refine wpG_guard (fun a w hl hk => by have e : a.eval (.tmp 126) = .bool true := hk 126 rfl; rw [wanted_of rfl rfl e]; rfl) ?_
              refine wpG_move (fun a w hk => (hk 8 rfl : a.eval (.tmp 8) = a0.eval (.tmp 8)).trans k8) ?_
              refine wpG_guard (fun a w hl hk => by have e : a.eval (.tmp 126) = .bool true := hk 126 rfl; rw [wanted_of rfl rfl e]; rfl) ?_
              refine wpG_move (fun a w hk => (hk 2 rfl : a.eval (.tmp 2) = a0.eval (.tmp 2)).trans k2) ?_
              refine wpG_guard (fun a w hl hk => by have e : a.eval (.tmp 126) = .bool true := hk 126 rfl; rw [wanted_of rfl rfl e]; rfl) ?_
              apply wpG_value'
              · rfl
              · (intro a wx hlx hk K hK; have e131 : a.eval (.tmp 131) = _ := hk 131 rfl; have e132 : a.eval (.tmp 132) = _ := hk 132 rfl; simp only [execOp, resolve, List.map_toArray, List.map_cons, List.map_nil, Option.map_some, Option.map_none, e131, e132]; clear e131 e132 hk; go_simp; exact hK)
              refine wpG_guard (fun a w hl hk => by have e : a.eval (.tmp 126) = .bool true := hk 126 rfl; rw [wanted_of rfl rfl e]; rfl) ?_
              refine wpG_call _ _ Try.func19 (by kernel_rfl) (by kernel_rfl) (fun W hW => RM.out W (hl.trans (hld.trans hW))) (fun a w hk => by have e130 : a.eval (.tmp 130) = _ := hk 130 rfl; have e133 : a.eval (.tmp 133) = _ := hk 133 rfl; simp [e130, e133]) ?_
              refine wpG_guard (fun a w hl hk => by have e : a.eval (.tmp 126) = .bool true := hk 126 rfl; rw [wanted_of rfl rfl e]; rfl) ?_
              refine wpG_move (fun a w hk => (hk 10 rfl : a.eval (.tmp 10) = a0.eval (.tmp 10)).trans k10) ?_
              refine wpG_guard (fun a w hl hk => by have e : a.eval (.tmp 126) = .bool true := hk 126 rfl; rw [wanted_of rfl rfl e]; rfl) ?_
              refine wpG_move (fun a w hk => (hk 13 rfl : a.eval (.tmp 13) = a0.eval (.tmp 13)).trans k13) ?_
              refine wpG_guard (fun a w hl hk => by have e : a.eval (.tmp 126) = .bool true := hk 126 rfl; rw [wanted_of rfl rfl e]; rfl) ?_
              refine wpG_call _ _ Try.func24 (by kernel_rfl) (by kernel_rfl) (fun W hW => HC.out A5 c5 W hc5 (hQ5.below (hld.trans hW))) (fun a w hk => by have e127 : a.eval (.tmp 127) = _ := hk 127 rfl; have e128 : a.eval (.tmp 128) = _ := hk 128 rfl; have e129 : a.eval (.tmp 129) = _ := hk 129 rfl; have e134 : a.eval (.tmp 134) = _ := hk 134 rfl; have e135 : a.eval (.tmp 135) = _ := hk 135 rfl; have e136 : a.eval (.tmp 136) = _ := hk 136 rfl; simp [e127, e128, e129, e134, e135, e136]) ?_
              apply wpG_value'
              · rfl
              · (intro a wx hlx hk K hK; have e126 : a.eval (.tmp 126) = _ := hk 126 rfl; have e137 : a.eval (.tmp 137) = _ := hk 137 rfl; simp only [execOp, e126, e137]; clear e126 e137 hk; go_simp; exact hK)
              refine wpG_assign (fun a w hk => hk 138 rfl) ?_
              refine wpG_nil (fun wd' hld' => ?_)
              refine fin_is ?_
              refine fin_is ?_
              refine fin_is ?_
              refine fin_is ?_
              refine fin_is ?_
              refine fin_is ?_
              refine fin_some (fun v123 hv123 => ?_)
              refine fin_is ?_
              refine fin_is ?_
              refine fin_is ?_
              refine fin_is ?_
              refine fin_is ?_
              refine fin_is ?_
              refine fin_is ?_
              refine fin_is ?_
              refine fin_is ?_
              refine fin_is ?_
              refine fin_is ?_
              refine fin_is ?_
              refine fin_is ?_
              refine fin_is ?_
              refine fin_is ?_
              refine fin_is ?_
              refine fin_nil ?_
              subst ha0
              clear k14 k13 k8 k2 k7 k9 k10 ks
              simp only [Act.put, List.setIfInBounds_toArray, List.set_cons_succ, List.set_cons_zero]
              go_wp2_with (fail)
              go_returns
              go_light
              exact ⟨rfl, by first | exact hB.trans hl | exact hB.trans (hl.trans (hld.trans hld'))⟩
        · have qi2 : ((n : Int) ≤ i) = False := eq_false hi2
          obtain ⟨j, hj⟩ : ∃ j : Nat, i = j := ⟨i.toNat, by omega⟩
          subst hj
          have hjn : j < n := by omega
          have hjL : j < L.length := by rw [hll.out]; exact hjn
          obtain ⟨ad3, e3, -, hcj⟩ := Kn.Rows.one_ hL.out (k := j) hjL
          obtain rfl := Option.some.inj e3
          have hxj : L[j]? = some L[j] := List.getElem?_eq_getElem hjL
          have IO := fun W (hW : Later w7 W) => IO0.out (some ad2) c2 j W hjn hc2 (hL.out.below hW)
          have RI := fun W (hW : Later w7 W) => RI0.out (some ad2) c2 j W hjn hc2 (hL.out.below hW)
          have HI := fun A' c' W h3 h5 => HI0.out j _ hjn hxj A' c' W h3 h5
          rw [(hoi.out j _ hxj).1] at HI
          have hqi := hli.out j
          generalize L[j] = xj at hcj HI
          generalize inclN L j = qi at *
          clear hxj
          replace IO := Lib.hid IO
          replace RI := Lib.hid RI
          replace HI := Lib.hid HI
          go_upto_region 13 with (first | ((with_reducible apply wl_loadW (ty := 29) (Later.whole hl hT.out) Try.underlying29); rfl; rfl; rfl; exact hsz) | ((with_reducible refine (RT.out _ hl).mono ?_); rintro e w9 ⟨rfl, hb9⟩; replace hl := Later.trans hl hb9) | ((with_reducible refine (IO.out _ hl).mono ?_); rintro e wa ⟨⟨va, rfl, hva⟩, hba⟩; replace hl := Later.trans hl hba; obtain ⟨A3, c3, rfl, hc3, hQ⟩ := TextRow.rows hva (by omega); clear hva))
          refine wp_region_grow 23 139 (by kernel_rfl) (by kernel_rfl) rfl (fun wf hlf => ?_)
          simp only [List.take_succ_cons, List.take_zero, List.drop_succ_cons, List.drop_zero]
          generalize ha : Act.mk _ _ = a0
          have k1 : a0.eval (.tmp 1) = .int .i64 j := by subst ha; rfl
          have k7 : a0.eval (.tmp 7) = .pointer (some ⟨G, 0, none⟩) := by subst ha; rfl
          have k8 : a0.eval (.tmp 8) = .slice (some ad2) n c2 := by subst ha; rfl
          have k9 : a0.eval (.tmp 9) = .int .i64 n := by subst ha; rfl
          have k10 : a0.eval (.tmp 10) = .string (rootN L) := by subst ha; rfl
          have k11 : a0.eval (.tmp 11) = .slice A3 qi.length c3 := by subst ha; rfl
          have k12 : a0.eval (.tmp 12) = .int .i64 0 := by subst ha; rfl
          have ks : a0.tmps.size = 139 := by subst ha; rfl
          have ha0 := ha.symm
          clear ha
          refine wpG_move (fun a w hk => (hk 12 rfl : a.eval (.tmp 12) = a0.eval (.tmp 12)).trans k12) ?_
          apply wpG_value'
          · rfl
          · (intro a wx hlx hk K hK; have e73 : a.eval (.tmp 73) = _ := hk 73 rfl; simp only [execOp, e73]; clear e73 hk; go_simp; exact hK)
          refine wpG_move (fun a w hk => hk 74 rfl) ?_
          refine wpG_guard (fun a w hl hk => by have e : a.eval (.tmp 75) = .bool false := hk 75 rfl; rw [wanted_of rfl rfl e]; rfl) ?_
          refine wpG_move (fun a w hk => (hk 11 rfl : a.eval (.tmp 11) = a0.eval (.tmp 11)).trans k11) ?_
          refine wpG_guard (fun a w hl hk => by have e : a.eval (.tmp 75) = .bool false := hk 75 rfl; rw [wanted_of rfl rfl e]; rfl) ?_
          refine wpG_move (fun a w hk => (hk 8 rfl : a.eval (.tmp 8) = a0.eval (.tmp 8)).trans k8) ?_
          refine wpG_guard (fun a w hl hk => by have e : a.eval (.tmp 75) = .bool false := hk 75 rfl; rw [wanted_of rfl rfl e]; rfl) ?_
          refine wpG_move (fun a w hk => (hk 1 rfl : a.eval (.tmp 1) = a0.eval (.tmp 1)).trans k1) ?_
          refine wpG_guard (fun a w hl hk => by have e : a.eval (.tmp 75) = .bool false := hk 75 rfl; rw [wanted_of rfl rfl e]; rfl) ?_
          refine wpG_callF (TextRow 9 wf.heap.size qi) (TextRow.later) Try.func31 (by kernel_rfl) (by kernel_rfl) (fun a wx hlx hk => by have e77 : a.eval (.tmp 77) = _ := hk 77 rfl; have e78 : a.eval (.tmp 78) = _ := hk 78 rfl; simp only [List.map_toArray, List.map_cons, List.map_nil, e77, e78]; exact ((RI.out wx (hl.trans (hlf.trans hlx))).mono fun e w' hh => by obtain ⟨⟨v, he, hv⟩, hb⟩ := hh; exact ⟨v, he, TextRow.base hv hlx.size, hb⟩)) ?_
          refine wpG_guard (fun a w hl hk => by have e : a.eval (.tmp 75) = .bool false := hk 75 rfl; rw [wanted_of rfl rfl e]; rfl) ?_
          refine wpG_callF (Is (.bool true)) (fun _ _ _ _ h => h) Try.func30 (by kernel_rfl) (by kernel_rfl) (fun a wx hlx hk => by have e1 : a.eval (.tmp 76) = _ := hk 76 rfl; have f1 : TextRow 9 wf.heap.size qi (a.eval (.tmp 79)) wx := hk 79 rfl; obtain ⟨A6, c6, e2, hc6, hR⟩ := TextRow.rows f1 (by omega); simp only [List.map_toArray, List.map_cons, List.map_nil, e1, e2]; exact (same_calls A3 A6 qi qi c3 c6 wx (hQ.below (hlf.trans hlx)) hR).mono fun e w' h => ⟨_, h.1.trans (by rw [decide_eq_true rfl]), rfl, h.2⟩) ?_
          refine wpG_guard (fun a w hl hk => by have e : a.eval (.tmp 75) = .bool false := hk 75 rfl; rw [wanted_of rfl rfl e]; rfl) ?_
          apply wpG_value'
          · rfl
          · (intro a wx hlx hk K hK; have e80 : a.eval (.tmp 80) = _ := hk 80 rfl; simp only [execOp, e80]; clear e80 hk; go_simp; exact hK)
          apply wpG_value'
          · rfl
          · (intro a wx hlx hk K hK; have e75 : a.eval (.tmp 75) = _ := hk 75 rfl; have e81 : a.eval (.tmp 81) = _ := hk 81 rfl; simp only [execOp, e75, e81]; clear e75 e81 hk; go_simp; exact hK)
          refine wpG_move (fun a w hk => hk 82 rfl) ?_
          refine wpG_guard (fun a w hl hk => by have e : a.eval (.tmp 83) = .bool false := hk 83 rfl; rw [wanted_of rfl rfl e]; rfl) ?_
          refine wpG_loadW ((hl.trans hlf).whole hT.out) Try.underlying29 rfl (hsz) (fun a w hk => (hk 7 rfl : a.eval (.tmp 7) = a0.eval (.tmp 7)).trans k7) ?_
          refine wpG_guard (fun a w hl hk => by have e : a.eval (.tmp 83) = .bool false := hk 83 rfl; rw [wanted_of rfl rfl e]; rfl) ?_
          refine wpG_move (fun a w hk => (hk 8 rfl : a.eval (.tmp 8) = a0.eval (.tmp 8)).trans k8) ?_
          refine wpG_guard (fun a w hl hk => by have e : a.eval (.tmp 83) = .bool false := hk 83 rfl; rw [wanted_of rfl rfl e]; rfl) ?_
          refine wpG_move (fun a w hk => (hk 1 rfl : a.eval (.tmp 1) = a0.eval (.tmp 1)).trans k1) ?_
          refine wpG_guard (fun a w hl hk => by have e : a.eval (.tmp 83) = .bool false := hk 83 rfl; rw [wanted_of rfl rfl e]; rfl) ?_
          apply wpG_value'
          · rfl
          · (intro a wx hlx hk K hK; have e85 : a.eval (.tmp 85) = _ := hk 85 rfl; have e86 : a.eval (.tmp 86) = _ := hk 86 rfl; simp only [execOp, e85, e86]; clear e85 e86 hk; go_simp; exact hK)
          refine wpG_guard (fun a w hl hk => by have e : a.eval (.tmp 83) = .bool false := hk 83 rfl; rw [wanted_of rfl rfl e]; rfl) ?_
          refine wpG_load1 ((hl.trans hlf).cell hcj) Try.underlying9 rfl (fun a w hk => hk 87 rfl) ?_
          refine wpG_guard (fun a w hl hk => by have e : a.eval (.tmp 83) = .bool false := hk 83 rfl; rw [wanted_of rfl rfl e]; rfl) ?_
          refine wpG_move (fun a w hk => (hk 1 rfl : a.eval (.tmp 1) = a0.eval (.tmp 1)).trans k1) ?_
          refine wpG_guard (fun a w hl hk => by have e : a.eval (.tmp 83) = .bool false := hk 83 rfl; rw [wanted_of rfl rfl e]; rfl) ?_
          refine wpG_move (fun a w hk => (hk 9 rfl : a.eval (.tmp 9) = a0.eval (.tmp 9)).trans k9) ?_
          refine wpG_guard (fun a w hl hk => by have e : a.eval (.tmp 83) = .bool false := hk 83 rfl; rw [wanted_of rfl rfl e]; rfl) ?_
          refine wpG_move (fun a w hk => (hk 11 rfl : a.eval (.tmp 11) = a0.eval (.tmp 11)).trans k11) ?_
          refine wpG_guard (fun a w hl hk => by have e : a.eval (.tmp 83) = .bool false := hk 83 rfl; rw [wanted_of rfl rfl e]; rfl) ?_
          refine wpG_move (fun a w hk => (hk 10 rfl : a.eval (.tmp 10) = a0.eval (.tmp 10)).trans k10) ?_
          refine wpG_guard (fun a w hl hk => by have e : a.eval (.tmp 83) = .bool false := hk 83 rfl; rw [wanted_of rfl rfl e]; rfl) ?_
          refine wpG_call _ _ Try.func21 (by kernel_rfl) (by kernel_rfl) (fun W hW => HI.out A3 c3 W hc3 (hQ.below (hlf.trans hW))) (fun a w hk => by have e84 : a.eval (.tmp 84) = _ := hk 84 rfl; have e88 : a.eval (.tmp 88) = _ := hk 88 rfl; have e89 : a.eval (.tmp 89) = _ := hk 89 rfl; have e90 : a.eval (.tmp 90) = _ := hk 90 rfl; have e91 : a.eval (.tmp 91) = _ := hk 91 rfl; have e92 : a.eval (.tmp 92) = _ := hk 92 rfl; simp [e84, e88, e89, e90, e91, e92]) ?_
          refine wpG_guard (fun a w hl hk => by have e : a.eval (.tmp 83) = .bool false := hk 83 rfl; rw [wanted_of rfl rfl e]; rfl) ?_
          apply wpG_value'
          · rfl
          · (intro a wx hlx hk K hK; have e93 : a.eval (.tmp 93) = _ := hk 93 rfl; simp only [execOp, e93]; clear e93 hk; go_simp; exact hK)
          apply wpG_value'
          · rfl
          · (intro a wx hlx hk K hK; have e83 : a.eval (.tmp 83) = _ := hk 83 rfl; have e94 : a.eval (.tmp 94) = _ := hk 94 rfl; simp only [execOp, e83, e94]; clear e83 e94 hk; go_simp; exact hK)
          refine wpG_nil (fun wf' hlf' => ?_)
          refine fin_is ?_
          refine fin_is ?_
          refine fin_is ?_
          refine fin_is ?_
          refine fin_is ?_
          refine fin_is ?_
          refine fin_some (fun v79 hv79 => ?_)
          refine fin_is ?_
          refine fin_is ?_
          refine fin_is ?_
          refine fin_is ?_
          refine fin_is ?_
          refine fin_is ?_
          refine fin_is ?_
          refine fin_is ?_
          refine fin_is ?_
          refine fin_is ?_
          refine fin_is ?_
          refine fin_is ?_
          refine fin_is ?_
          refine fin_is ?_
          refine fin_is ?_
          refine fin_is ?_
          refine fin_nil ?_
          subst ha0
          clear k12 k11 k8 k1 k7 k9 k10 ks
          simp only [Act.put, List.setIfInBounds_toArray, List.set_cons_succ, List.set_cons_zero]
          replace hl := hl.trans (hlf.trans hlf')
          clear hlf hlf' hQ hc3 hv79 IO RI HI hcj
          go_upto_region 15 with (fail)
          by_cases hm1 : m < 1
          · have qm1 : (m < 1) = True := eq_true hm1
            have CB := fun W => CB0.out (some ad2) c2 W (.inl hm1)
            replace CB := Lib.hid CB
            go_wp2_with (first | ((with_reducible apply wl_loadW (ty := 29) (Later.whole hl hT.out) Try.underlying29); rfl; rfl; rfl; exact hsz) | ((with_reducible refine (CB.out _).mono ?_); rintro e wc ⟨rfl, hbc⟩; replace hl := Later.trans hl hbc))
            go_returns
            go_light
            exact ⟨rfl, by first | exact hB.trans hl | exact hB.trans (hl.trans (hld.trans hld'))⟩
          · have qm1 : (m < 1) = False := eq_false hm1
            by_cases hm2 : (n : Int) < m
            · have qm2 : ((n : Int) < m) = True := eq_true hm2
              have CB := fun W => CB0.out (some ad2) c2 W (.inr hm2)
              replace CB := Lib.hid CB
              go_wp2_with (first | ((with_reducible apply wl_loadW (ty := 29) (Later.whole hl hT.out) Try.underlying29); rfl; rfl; rfl; exact hsz) | ((with_reducible refine (CB.out _).mono ?_); rintro e wc ⟨rfl, hbc⟩; replace hl := Later.trans hl hbc))
              go_returns
              go_light
              exact ⟨rfl, by first | exact hB.trans hl | exact hB.trans (hl.trans (hld.trans hld'))⟩
            · have qm2 : ((n : Int) < m) = False := eq_false hm2
              obtain ⟨k, hk⟩ : ∃ k : Nat, m = k := ⟨m.toNat, by omega⟩
              subst hk
              have hk1 : 1 ≤ k := by omega
              have hkn : k ≤ n := by omega
              have CO := fun W (hW : Later w7 W) => CO0.out (some ad2) c2 k W hk1 hkn hc2 (hL.out.below hW)
              have RC := fun W (hW : Later w7 W) => RC0.out (some ad2) c2 k W hk1 hkn hc2 (hL.out.below hW)
              have RM := fun W (hW : Later w7 W) => RM0.out k hkn (some ad2) c2 W (by omega) (hL.out.below hW)
              have HC := fun A' c' W h3 h5 => HC0.out k hk1 hkn A' c' W h3 h5
              rw [hoc.out k hk1 hkn] at HC
              have hql := hlc.out k (by omega)
              generalize rootN (L.take k) = rk at *
              generalize consN L k true = q at *
              replace CO := Lib.hid CO
              replace RC := Lib.hid RC
              replace RM := Lib.hid RM
              replace HC := Lib.hid HC
              have bk1 : ((k : Int) ≤ c2) = True := eq_true (by omega)
              go_upto_region 18 with (first | ((with_reducible apply wl_loadW (ty := 29) (Later.whole hl hT.out) Try.underlying29); rfl; rfl; rfl; exact hsz) | ((with_reducible refine (CO.out _ hl).mono ?_); rintro e wc ⟨⟨vc, rfl, hvc⟩, hbc⟩; replace hl := Later.trans hl hbc; obtain ⟨A5, c5, rfl, hc5, hQ5⟩ := TextRow.rows hvc (by omega); clear hvc))
              refine wp_region_grow 23 139 (by kernel_rfl) (by kernel_rfl) rfl (fun wd hld => ?_)
              simp only [List.take_succ_cons, List.take_zero, List.drop_succ_cons, List.drop_zero]
              generalize ha : Act.mk _ _ = a0
              have k2 : a0.eval (.tmp 2) = .int .i64 k := by subst ha; rfl
              have k7 : a0.eval (.tmp 7) = .pointer (some ⟨G, 0, none⟩) := by subst ha; rfl
              have k8 : a0.eval (.tmp 8) = .slice (some ad2) n c2 := by subst ha; rfl
              have k9 : a0.eval (.tmp 9) = .int .i64 n := by subst ha; rfl
              have k10 : a0.eval (.tmp 10) = .string (rootN L) := by subst ha; rfl
              have k13 : a0.eval (.tmp 13) = .slice A5 q.length c5 := by subst ha; rfl
              have k14 : a0.eval (.tmp 14) = .int .i64 0 := by subst ha; rfl
              have ks : a0.tmps.size = 139 := by subst ha; rfl
              have ha0 := ha.symm
              clear ha
              refine wpG_move (fun a w hk => (hk 14 rfl : a.eval (.tmp 14) = a0.eval (.tmp 14)).trans k14) ?_
              apply wpG_value'
              · rfl
              · (intro a wx hlx hk K hK; have e117 : a.eval (.tmp 117) = _ := hk 117 rfl; simp only [execOp, e117]; clear e117 hk; go_simp; exact hK)
              refine wpG_move (fun a w hk => hk 118 rfl) ?_
              refine wpG_guard (fun a w hl hk => by have e : a.eval (.tmp 119) = .bool true := hk 119 rfl; rw [wanted_of rfl rfl e]; rfl) ?_
              refine wpG_move (fun a w hk => (hk 13 rfl : a.eval (.tmp 13) = a0.eval (.tmp 13)).trans k13) ?_
              refine wpG_guard (fun a w hl hk => by have e : a.eval (.tmp 119) = .bool true := hk 119 rfl; rw [wanted_of rfl rfl e]; rfl) ?_
              refine wpG_move (fun a w hk => (hk 8 rfl : a.eval (.tmp 8) = a0.eval (.tmp 8)).trans k8) ?_
              refine wpG_guard (fun a w hl hk => by have e : a.eval (.tmp 119) = .bool true := hk 119 rfl; rw [wanted_of rfl rfl e]; rfl) ?_
              refine wpG_move (fun a w hk => (hk 2 rfl : a.eval (.tmp 2) = a0.eval (.tmp 2)).trans k2) ?_
              refine wpG_guard (fun a w hl hk => by have e : a.eval (.tmp 119) = .bool true := hk 119 rfl; rw [wanted_of rfl rfl e]; rfl) ?_
              refine wpG_callF (TextRow 9 wd.heap.size q) (TextRow.later) Try.func32 (by kernel_rfl) (by kernel_rfl) (fun a wx hlx hk => by have e121 : a.eval (.tmp 121) = _ := hk 121 rfl; have e122 : a.eval (.tmp 122) = _ := hk 122 rfl; simp only [List.map_toArray, List.map_cons, List.map_nil, e121, e122]; exact ((RC.out wx (hl.trans (hld.trans hlx))).mono fun e w' hh => by obtain ⟨⟨v, he, hv⟩, hb⟩ := hh; exact ⟨v, he, TextRow.base hv hlx.size, hb⟩)) ?_
              refine wpG_guard (fun a w hl hk => by have e : a.eval (.tmp 119) = .bool true := hk 119 rfl; rw [wanted_of rfl rfl e]; rfl) ?_
              refine wpG_callF (Is (.bool true)) (fun _ _ _ _ h => h) Try.func30 (by kernel_rfl) (by kernel_rfl) (fun a wx hlx hk => by have e1 : a.eval (.tmp 120) = _ := hk 120 rfl; have f1 : TextRow 9 wd.heap.size q (a.eval (.tmp 123)) wx := hk 123 rfl; obtain ⟨A6, c6, e2, hc6, hR⟩ := TextRow.rows f1 (by omega); simp only [List.map_toArray, List.map_cons, List.map_nil, e1, e2]; exact (same_calls A5 A6 q q c5 c6 wx (hQ5.below (hld.trans hlx)) hR).mono fun e w' h => ⟨_, h.1.trans (by rw [decide_eq_true rfl]), rfl, h.2⟩) ?_
              apply wpG_value'
              · rfl
              · (intro a wx hlx hk K hK; have e119 : a.eval (.tmp 119) = _ := hk 119 rfl; have e124 : a.eval (.tmp 124) = _ := hk 124 rfl; simp only [execOp, e119, e124]; clear e119 e124 hk; go_simp; exact hK)
              refine wpG_move (fun a w hk => hk 125 rfl) ?_
              refine wpG_guard (fun a w hl hk => by have e : a.eval (.tmp 126) = .bool true := hk 126 rfl; rw [wanted_of rfl rfl e]; rfl) ?_
              refine wpG_loadW ((hl.trans hld).whole hT.out) Try.underlying29 rfl (hsz) (fun a w hk => (hk 7 rfl : a.eval (.tmp 7) = a0.eval (.tmp 7)).trans k7) ?_
              refine wpG_guard (fun a w hl hk => by have e : a.eval (.tmp 126) = .bool true := hk 126 rfl; rw [wanted_of rfl rfl e]; rfl) ?_
              refine wpG_move (fun a w hk => (hk 2 rfl : a.eval (.tmp 2) = a0.eval (.tmp 2)).trans k2) ?_
              refine wpG_guard (fun a w hl hk => by have e : a.eval (.tmp 126) = .bool true := hk 126 rfl; rw [wanted_of rfl rfl e]; rfl) ?_
              refine wpG_move (fun a w hk => (hk 9 rfl : a.eval (.tmp 9) = a0.eval (.tmp 9)).trans k9) ?_
              refine wpG_guard (fun a w hl hk => by have e : a.eval (.tmp 126) = .bool true := hk 126 rfl; rw [wanted_of rfl rfl e]; rfl) ?_
              refine wpG_loadW ((hl.trans hld).whole hT.out) Try.underlying29 rfl (hsz) (fun a w hk => (hk 7 rfl : a.eval (.tmp 7) = a0.eval (.tmp 7)).trans k7) ?_
              refine wpG_guard (fun a w hl hk => by have e : a.eval (.tmp 126) = .bool true := hk 126 rfl; rw [wanted_of rfl rfl e]; rfl) ?_
              refine wpG_move (fun a w hk => (hk 8 rfl : a.eval (.tmp 8) = a0.eval (.tmp 8)).trans k8) ?_
              refine wpG_guard (fun a w hl hk => by have e : a.eval (.tmp 126) = .bool true := hk 126 rfl; rw [wanted_of rfl rfl e]; rfl) ?_
              refine wpG_move (fun a w hk => (hk 2 rfl : a.eval (.tmp 2) = a0.eval (.tmp 2)).trans k2) ?_
              refine wpG_guard (fun a w hl hk => by have e : a.eval (.tmp 126) = .bool true := hk 126 rfl; rw [wanted_of rfl rfl e]; rfl) ?_
              apply wpG_value'
              · rfl
              · (intro a wx hlx hk K hK; have e131 : a.eval (.tmp 131) = _ := hk 131 rfl; have e132 : a.eval (.tmp 132) = _ := hk 132 rfl; simp only [execOp, resolve, List.map_toArray, List.map_cons, List.map_nil, Option.map_some, Option.map_none, e131, e132]; clear e131 e132 hk; go_simp; exact hK)
              refine wpG_guard (fun a w hl hk => by have e : a.eval (.tmp 126) = .bool true := hk 126 rfl; rw [wanted_of rfl rfl e]; rfl) ?_
              refine wpG_call _ _ Try.func19 (by kernel_rfl) (by kernel_rfl) (fun W hW => RM.out W (hl.trans (hld.trans hW))) (fun a w hk => by have e130 : a.eval (.tmp 130) = _ := hk 130 rfl; have e133 : a.eval (.tmp 133) = _ := hk 133 rfl; simp [e130, e133]) ?_
              refine wpG_guard (fun a w hl hk => by have e : a.eval (.tmp 126) = .bool true := hk 126 rfl; rw [wanted_of rfl rfl e]; rfl) ?_
              refine wpG_move (fun a w hk => (hk 10 rfl : a.eval (.tmp 10) = a0.eval (.tmp 10)).trans k10) ?_
              refine wpG_guard (fun a w hl hk => by have e : a.eval (.tmp 126) = .bool true := hk 126 rfl; rw [wanted_of rfl rfl e]; rfl) ?_
              refine wpG_move (fun a w hk => (hk 13 rfl : a.eval (.tmp 13) = a0.eval (.tmp 13)).trans k13) ?_
              refine wpG_guard (fun a w hl hk => by have e : a.eval (.tmp 126) = .bool true := hk 126 rfl; rw [wanted_of rfl rfl e]; rfl) ?_
              refine wpG_call _ _ Try.func24 (by kernel_rfl) (by kernel_rfl) (fun W hW => HC.out A5 c5 W hc5 (hQ5.below (hld.trans hW))) (fun a w hk => by have e127 : a.eval (.tmp 127) = _ := hk 127 rfl; have e128 : a.eval (.tmp 128) = _ := hk 128 rfl; have e129 : a.eval (.tmp 129) = _ := hk 129 rfl; have e134 : a.eval (.tmp 134) = _ := hk 134 rfl; have e135 : a.eval (.tmp 135) = _ := hk 135 rfl; have e136 : a.eval (.tmp 136) = _ := hk 136 rfl; simp [e127, e128, e129, e134, e135, e136]) ?_
              apply wpG_value'
              · rfl
              · (intro a wx hlx hk K hK; have e126 : a.eval (.tmp 126) = _ := hk 126 rfl; have e137 : a.eval (.tmp 137) = _ := hk 137 rfl; simp only [execOp, e126, e137]; clear e126 e137 hk; go_simp; exact hK)
              refine wpG_assign (fun a w hk => hk 138 rfl) ?_
              refine wpG_nil (fun wd' hld' => ?_)
              refine fin_is ?_
              refine fin_is ?_
              refine fin_is ?_
              refine fin_is ?_
              refine fin_is ?_
              refine fin_is ?_
              refine fin_some (fun v123 hv123 => ?_)
              refine fin_is ?_
              refine fin_is ?_
              refine fin_is ?_
              refine fin_is ?_
              refine fin_is ?_
              refine fin_is ?_
              refine fin_is ?_
              refine fin_is ?_
              refine fin_is ?_
              refine fin_is ?_
              refine fin_is ?_
              refine fin_is ?_
              refine fin_is ?_
              refine fin_is ?_
              refine fin_is ?_
              refine fin_is ?_
              refine fin_nil ?_
              subst ha0
              clear k14 k13 k8 k2 k7 k9 k10 ks
              simp only [Act.put, List.setIfInBounds_toArray, List.set_cons_succ, List.set_cons_zero]
              go_wp2_with (fail)
              go_returns
              go_light
              exact ⟨rfl, by first | exact hB.trans hl | exact hB.trans (hl.trans (hld.trans hld'))⟩
  · have FW := fun w hr => few04_false l A cap 64 100 64 100 rfl rfl (by decide) (by decide) w hr hfew
    replace FW := Lib.hid FW
    replace hr := Lib.hid hr
    go_enter Try.func7, Try.ntmps7
    go_wp2_with (first | ((with_reducible refine (AW.out _).mono ?_); rintro e w4 ⟨rfl, hb4⟩; replace hB := Later.trans hB hb4) | ((with_reducible refine (FW.out _ (hr.out.below hB)).mono ?_); rintro e w5 ⟨rfl, hw5⟩; obtain rfl := hw5.symm))
    go_returns
    go_light
    exact ⟨rfl, hB⟩
end Go.Proofs.Ytfkafejoacpclaa
