/- Own proofs hold; their sizes. The law MerkleEach, walked. No conditions. -/
import Derived.Test.YtfkafejoacpclaaMerkInc
import Derived.Test.YtfkafejoacpclaaGrowG
namespace Go.Proofs.Ytfkafejoacpclaa
open Go.RowKit
set_option linter.unusedVariables false
set_option linter.unusedSimpArgs false
theorem inclT_own (l : List ByteArray) (n : Nat) (hn : l.length = n) (i : Nat) (x : ByteArray) (hx : l[i]? = some x) : inclT x i n (inclN l i) (rootN l) = true ∧ (inclN l i).length = depthN i n := by
  have h : i < l.length := (List.getElem?_eq_some_iff.1 hx).1
  obtain ⟨h1, h2⟩ := rootT_incl l.length l i [] rfl h
  have e : l.getD i ⟨#[]⟩ = x := by rw [List.getD_eq_getElem?_getD, hx]; rfl
  rw [e, List.nil_append, hn] at h1
  rw [hn] at h2
  refine ⟨?_, h2⟩
  unfold inclT
  rw [h1]
  simp
theorem consT_own (l : List ByteArray) (m : Nat) (h1 : 1 ≤ m) (h2 : m ≤ l.length) : consT m l.length (rootN (l.take m)) (rootN l) (consN l m true) = true := by
  have h := bothT_cons l.length l m [] true rfl h1 h2
  rw [List.nil_append] at h
  unfold consT
  rw [h]
  simp
theorem inclN_sizes : ∀ (n : Nat) (l : List ByteArray) (i : Nat), l.length = n → (∀ x ∈ l, x.size ≤ 1000) → ∀ x ∈ inclN l i, x.size ≤ 1000 := by
  intro n
  induction n using Nat.strongRecOn with
  | _ n ih =>
    intro l i hl h x hx
    rw [inclN] at hx
    split at hx
    · cases hx
    · obtain ⟨k1, k2⟩ := sp_lt (n := l.length) (by omega)
      have z1 : ∀ x ∈ l.take (sp l.length), x.size ≤ 1000 := fun x hx => h x (List.mem_of_mem_take hx)
      have z2 : ∀ x ∈ l.drop (sp l.length), x.size ≤ 1000 := fun x hx => h x (List.mem_of_mem_drop hx)
      split at hx
      · rcases List.mem_append.1 hx with hx | hx
        · exact ih _ (by rw [List.length_take]; omega) _ _ rfl z1 x hx
        · rw [List.mem_singleton.1 hx]; exact rootN_size z2
      · rcases List.mem_append.1 hx with hx | hx
        · exact ih _ (by rw [List.length_drop]; omega) _ _ rfl z2 x hx
        · rw [List.mem_singleton.1 hx]; exact rootN_size z1
theorem consN_sizes : ∀ (n : Nat) (l : List ByteArray) (m : Nat) (whole : Bool), l.length = n → (∀ x ∈ l, x.size ≤ 1000) → ∀ x ∈ consN l m whole, x.size ≤ 1000 := by
  intro n
  induction n using Nat.strongRecOn with
  | _ n ih =>
    intro l m whole hl h x hx
    rw [consN] at hx
    split at hx
    · split at hx
      · cases hx
      · rw [List.mem_singleton.1 hx]; exact rootN_size h
    · split at hx
      · cases hx
      · obtain ⟨k1, k2⟩ := sp_lt (n := l.length) (by omega)
        have z1 : ∀ x ∈ l.take (sp l.length), x.size ≤ 1000 := fun x hx => h x (List.mem_of_mem_take hx)
        have z2 : ∀ x ∈ l.drop (sp l.length), x.size ≤ 1000 := fun x hx => h x (List.mem_of_mem_drop hx)
        split at hx
        · rcases List.mem_append.1 hx with hx | hx
          · exact ih _ (by rw [List.length_take]; omega) _ _ _ rfl z1 x hx
          · rw [List.mem_singleton.1 hx]; exact rootN_size z2
        · rcases List.mem_append.1 hx with hx | hx
          · exact ih _ (by rw [List.length_drop]; omega) _ _ _ rfl z2 x hx
          · rw [List.mem_singleton.1 hx]; exact rootN_size z1
theorem leafN_le (b : ByteArray) : (leafN b).size ≤ 1000 := by unfold leafN; rw [shaN_32]; decide
set_option maxHeartbeats 4000000 in
set_option maxRecDepth 100000 in
theorem mEach_calls (l : List ByteArray) (A : Option Addr) (cap : Nat) (w : World) (hcap : l.length ≤ cap) (hr : Kn.str.Rows w A l) :
    Calls Try.prog 3 #[.slice A l.length cap] w fun e w' => e = .returned (.bool true) ∧ Below w.heap.size w w' := by
  have AW := fun w => awake04_calls w
  have M := fun w => make_calls w
  have hsz : (Try.prog.info? 29).map (·.size) = some (arr .u32 (K64 ++ H8.L)).size := by kernel_rfl
  have htz : (arr .u32 (K64 ++ H8.L)).size = Try.zeroCells29.size := by kernel_rfl
  have ho1 : (arr .u32 (K64 ++ H8.L)).toList.all (·.oneCell') = true := by kernel_rfl
  replace AW := Lib.hid AW
  have hB : Later w w := Later.refl w
  by_cases hfew : l.length ≤ 40 ∧ ∀ x ∈ l, x.size ≤ 40
  · have FW := fun w hr => few04_true l A cap 40 40 40 40 rfl rfl (by decide) (by decide) w hr hfew
    have LV := fun w hr => leaves_calls l A cap w (by omega) (fun x hx => Nat.le_trans (hfew.2 x hx) (by decide)) hr
    replace FW := Lib.hid FW
    have hz : ∀ x ∈ l.map leafN, x.size ≤ 1000 := fun x hx => by obtain ⟨y, -, rfl⟩ := List.mem_map.1 hx; exact leafN_le y
    have hn40 : l.length ≤ 40 := hfew.1
    have hll : (l.map leafN).length = l.length := List.length_map _
    generalize hLe : l.map leafN = L at *
    clear hLe hfew
    have RT := fun (A' : Option Addr) (c' : Nat) (w' : World) h3 h5 => root_calls l.length L A' c' w' hll (by omega) h3 hz h5
    have IO := fun (A' : Option Addr) (c' k : Nat) (w' : World) (hk : k < l.length) h3 h5 => incl_ok L A' c' k w' (by rw [hll]; exact hk) (by omega) h3 hz h5
    have HO := fun (k : Nat) (x : ByteArray) (hk : k < l.length) (hx : L[k]? = some x) (A' : Option Addr) (c' : Nat) (w' : World) h3 h5 => included_ok x (rootN L) k l.length (inclN L k) A' c' w' hk (by omega) (hz _ (List.mem_of_getElem? hx)) h3 (inclN_sizes _ L k rfl hz) h5
    have hown := inclT_own L l.length hll
    rw [hll] at IO
    have DC := fun (k : Nat) (hk : k < l.length) (w : World) => refDepth_calls l.length k w hk (by omega)
    have hlen := fun (k : Nat) => inclN_len [] L.length L k rfl
    rw [hll] at hlen
    generalize arr .u32 (K64 ++ H8.L) = tb at *
    have hmax := hr.1
    replace FW := FW.out
    generalize hn : l.length = n at *
    replace FW := Lib.hid FW
    replace M := Lib.hid M
    replace LV := Lib.hid LV
    replace RT := Lib.hid RT
    replace IO := Lib.hid IO
    replace HO := Lib.hid HO
    replace DC := Lib.hid DC
    replace hown := Lib.hid hown
    replace hlen := Lib.hid hlen
    replace hr := Lib.hid hr
    replace hz := Lib.hid hz
    replace hll := Lib.hid hll
    go_enter Try.func3, Try.ntmps3
    go_wp2_with (first | ((with_reducible refine (AW.out _).mono ?_); rintro e w4 ⟨rfl, hb4⟩; replace hB := Later.trans hB hb4) | ((with_reducible refine (FW.out _ (hr.out.below hB)).mono ?_); rintro e w5 ⟨rfl, hw5⟩; obtain rfl := hw5.symm) | ((with_reducible refine (M.out _).mono ?_); rintro e w6 ⟨rfl, hb6⟩; replace hB := Later.trans hB hb6; have hZ := Whole.new w6 29 Try.zeroCells29; have hG6 := hB.size; replace hB := hB.alloc (.cells Try.zeroCells29 29)) | ((with_reducible apply wl_storeW (ty := 29) hZ); rfl; rfl; rfl; kernel_rfl; exact htz; exact ho1; intro wS hT hgS hzS; replace hB : Later w wS := below_only' hB hgS hG6; clear hgS hzS hZ) | ((with_reducible refine (LV.out _ (hr.out.below hB)).mono ?_); rintro e w7 ⟨⟨v, rfl, hv⟩, hb7⟩; replace hB := Later.trans hB hb7; replace hT := Later.whole hb7 hT; obtain ⟨A2, c2, hv2, hc2, hL⟩ := hv.rows (by have := hll.out; omega); replace hL := Lib.hid hL; rw [hll.out] at hc2 hv2; clear hv; subst hv2) | ((with_reducible apply wl_loadW (ty := 29) hT Try.underlying29); rfl; rfl; rfl; exact hsz) | ((with_reducible refine (RT.out _ _ _ hc2 hL.out).mono ?_); rintro e w8 ⟨rfl, hb8⟩; replace hB := Later.trans hB hb8; replace hT := Later.whole hb8 hT; replace hL := Lib.hid (hL.out.below hb8)))
    generalize w6.heap.size = G at *
    have hbase : Later w8 w8 := Later.refl w8
    go_loopg [6, 7, 8] (n + 1) (fun kg i p e wr => ∃ k : Nat, i = .int .i64 k ∧ k ≤ n ∧ kg = n + 1 - k ∧ Later w8 wr)
    case atStart => exact ⟨0, rfl, Nat.zero_le _, rfl, hbase⟩
    case round =>
      obtain ⟨k, rfl, hk, hkg, hl⟩ := hrel
      replace hkg := Lib.hid hkg
      by_cases hlt : k < n
      · have hkL : k < L.length := by rw [hll.out]; exact hlt
        obtain ⟨ad, rfl, -, hc0⟩ := Kn.Rows.one_ hL.out (k := k) hkL
        have hx : L[k]? = some L[k] := List.getElem?_eq_getElem hkL
        obtain ⟨o1, o2⟩ := hown.out k _ hx
        have HC := fun A' c' w' h3 h5 => HO.out k _ hlt hx A' c' w' h3 h5
        rw [o1] at HC
        have IC := fun w' h5 => IO.out (some ad) c2 k w' hlt hc2 h5
        have DD : ∀ w : World, Calls Try.prog 22 #[.int .i64 k, .int .i64 n] w fun e w' => e = .returned (.int .i64 (inclN L k).length) ∧ Later w w' := fun w => (DC.out k hlt w).mono fun e w' h => ⟨by rw [o2]; exact h.1.1, by rw [h.2]; exact Later.refl w⟩
        have hql := hlen.out k
        generalize L[k] = x at hc0 HC
        generalize inclN L k = q at *
        clear o1 o2 hx
        replace HC := Lib.hid HC
        replace IC := Lib.hid IC
        replace DD := Lib.hid DD
        replace hT := Lib.hid hT
        have hTr := Later.whole hl hT.out
        go_upto_region 10 with (first | ((with_reducible apply wl_loadW (ty := 29) hTr Try.underlying29); rfl; rfl; rfl; exact hsz) | ((with_reducible refine (IC.out _ (hL.out.below hl)).mono ?_); rintro e w9 ⟨⟨v, rfl, hv⟩, hb9⟩; obtain ⟨A3, c3, rfl, hc3, hQ⟩ := hv.rows (by omega)))
        have hl9 := Later.trans hl hb9
        refine wp_region_grow 21 57 (by kernel_rfl) (by kernel_rfl) rfl (fun w10 hl10 => ?_)
        simp only [List.take_succ_cons, List.take_zero, List.drop_succ_cons, List.drop_zero]
        generalize ha : Act.mk _ _ = a0
        have k3 : a0.eval (.tmp 3) = .pointer (some ⟨G, 0, none⟩) := by subst ha; rfl
        have k4 : a0.eval (.tmp 4) = .slice (some ad) n c2 := by subst ha; rfl
        have k5 : a0.eval (.tmp 5) = .string (rootN L) := by subst ha; rfl
        have k6 : a0.eval (.tmp 6) = .int .i64 k := by subst ha; rfl
        have k7 : a0.eval (.tmp 7) = .slice A3 q.length c3 := by subst ha; rfl
        have ks : a0.tmps.size = 57 := by subst ha; rfl
        have ha0 := ha.symm
        clear ha
        refine wpG_loadW ((hl9.trans hl10).whole hT.out) Try.underlying29 rfl (hsz) (fun a w hk => (hk 3 rfl : a.eval (.tmp 3) = a0.eval (.tmp 3)).trans k3) ?_
        refine wpG_move (fun a w hk => (hk 4 rfl : a.eval (.tmp 4) = a0.eval (.tmp 4)).trans k4) ?_
        refine wpG_move (fun a w hk => (hk 6 rfl : a.eval (.tmp 6) = a0.eval (.tmp 6)).trans k6) ?_
        apply wpG_value'
        · rfl
        · (intro a wx hlx hk K hK; have e37 : a.eval (.tmp 37) = _ := hk 37 rfl; have e38 : a.eval (.tmp 38) = _ := hk 38 rfl; simp only [execOp, e37, e38]; clear e37 e38 hk; go_simp; exact hK)
        refine wpG_load1 ((hl9.trans hl10).cell hc0) Try.underlying9 rfl (fun a w hk => hk 39 rfl) ?_
        refine wpG_move (fun a w hk => (hk 6 rfl : a.eval (.tmp 6) = a0.eval (.tmp 6)).trans k6) ?_
        refine wpG_move (fun a w hk => (hk 4 rfl : a.eval (.tmp 4) = a0.eval (.tmp 4)).trans k4) ?_
        apply wpG_value'
        · rfl
        · (intro a wx hlx hk K hK; have e42 : a.eval (.tmp 42) = _ := hk 42 rfl; simp only [execOp, resolve, List.map_toArray, List.map_cons, List.map_nil, Option.map_some, Option.map_none, e42]; clear e42 hk; go_simp; exact hK)
        refine wpG_move (fun a w hk => (hk 7 rfl : a.eval (.tmp 7) = a0.eval (.tmp 7)).trans k7) ?_
        refine wpG_move (fun a w hk => (hk 5 rfl : a.eval (.tmp 5) = a0.eval (.tmp 5)).trans k5) ?_
        refine wpG_call _ _ Try.func21 (by kernel_rfl) (by kernel_rfl) (fun W hW => HC.out A3 c3 W hc3 (hQ.below (hl10.trans hW))) (fun a w hk => by have e36 : a.eval (.tmp 36) = _ := hk 36 rfl; have e40 : a.eval (.tmp 40) = _ := hk 40 rfl; have e41 : a.eval (.tmp 41) = _ := hk 41 rfl; have e43 : a.eval (.tmp 43) = _ := hk 43 rfl; have e44 : a.eval (.tmp 44) = _ := hk 44 rfl; have e45 : a.eval (.tmp 45) = _ := hk 45 rfl; simp [e36, e40, e41, e43, e44, e45]) ?_
        apply wpG_value'
        · rfl
        · (intro a wx hlx hk K hK; have e46 : a.eval (.tmp 46) = _ := hk 46 rfl; simp only [execOp, e46]; clear e46 hk; go_simp; exact hK)
        refine wpG_move (fun a w hk => hk 47 rfl) ?_
        refine wpG_guard (fun a w hl hk => by have e : a.eval (.tmp 48) = .bool false := hk 48 rfl; rw [wanted_of rfl rfl e]; rfl) ?_
        refine wpG_move (fun a w hk => (hk 7 rfl : a.eval (.tmp 7) = a0.eval (.tmp 7)).trans k7) ?_
        refine wpG_guard (fun a w hl hk => by have e : a.eval (.tmp 48) = .bool false := hk 48 rfl; rw [wanted_of rfl rfl e]; rfl) ?_
        apply wpG_value'
        · rfl
        · (intro a wx hlx hk K hK; have e49 : a.eval (.tmp 49) = _ := hk 49 rfl; simp only [execOp, resolve, List.map_toArray, List.map_cons, List.map_nil, Option.map_some, Option.map_none, e49]; clear e49 hk; go_simp; exact hK)
        refine wpG_guard (fun a w hl hk => by have e : a.eval (.tmp 48) = .bool false := hk 48 rfl; rw [wanted_of rfl rfl e]; rfl) ?_
        refine wpG_move (fun a w hk => (hk 6 rfl : a.eval (.tmp 6) = a0.eval (.tmp 6)).trans k6) ?_
        refine wpG_guard (fun a w hl hk => by have e : a.eval (.tmp 48) = .bool false := hk 48 rfl; rw [wanted_of rfl rfl e]; rfl) ?_
        refine wpG_move (fun a w hk => (hk 4 rfl : a.eval (.tmp 4) = a0.eval (.tmp 4)).trans k4) ?_
        refine wpG_guard (fun a w hl hk => by have e : a.eval (.tmp 48) = .bool false := hk 48 rfl; rw [wanted_of rfl rfl e]; rfl) ?_
        apply wpG_value'
        · rfl
        · (intro a wx hlx hk K hK; have e52 : a.eval (.tmp 52) = _ := hk 52 rfl; simp only [execOp, resolve, List.map_toArray, List.map_cons, List.map_nil, Option.map_some, Option.map_none, e52]; clear e52 hk; go_simp; exact hK)
        refine wpG_guard (fun a w hl hk => by have e : a.eval (.tmp 48) = .bool false := hk 48 rfl; rw [wanted_of rfl rfl e]; rfl) ?_
        refine wpG_call _ _ Try.func22 (by kernel_rfl) (by kernel_rfl) (fun W _ => DD.out W) (fun a w hk => by have e51 : a.eval (.tmp 51) = _ := hk 51 rfl; have e53 : a.eval (.tmp 53) = _ := hk 53 rfl; simp [e51, e53]) ?_
        refine wpG_guard (fun a w hl hk => by have e : a.eval (.tmp 48) = .bool false := hk 48 rfl; rw [wanted_of rfl rfl e]; rfl) ?_
        apply wpG_value'
        · rfl
        · (intro a wx hlx hk K hK; have e50 : a.eval (.tmp 50) = _ := hk 50 rfl; have e54 : a.eval (.tmp 54) = _ := hk 54 rfl; simp only [execOp, e50, e54]; clear e50 e54 hk; go_simp; exact hK)
        apply wpG_value'
        · rfl
        · (intro a wx hlx hk K hK; have e48 : a.eval (.tmp 48) = _ := hk 48 rfl; have e55 : a.eval (.tmp 55) = _ := hk 55 rfl; simp only [execOp, e48, e55]; clear e48 e55 hk; go_simp; exact hK)
        refine wpG_nil (fun w10' hl10' => ?_)
        refine fin_is ?_
        refine fin_is ?_
        refine fin_is ?_
        refine fin_is ?_
        refine fin_is ?_
        refine fin_is ?_
        refine fin_is ?_
        refine fin_is ?_
        refine fin_is ?_
        refine fin_is ?_
        refine fin_is ?_
        refine fin_is ?_
        refine fin_is ?_
        refine fin_is ?_
        refine fin_is ?_
        refine fin_is ?_
        refine fin_is ?_
        refine fin_is ?_
        refine fin_is ?_
        refine fin_is ?_
        refine fin_is ?_
        refine fin_nil ?_
        subst ha0
        clear k3 k4 k6 k7 k5 ks
        simp only [Act.put, List.setIfInBounds_toArray, List.set_cons_succ, List.set_cons_zero]
        have hlE := hl9.trans (hl10.trans hl10')
        clear hl10 hl10' hl9 hb9 hv hQ hTr hl HC IC DD
        go_wp2_with (fail)
        go_roundg (n - k)
        case measure => go_light; rw [hkg.out]; omega
        case rel => go_light; exact ⟨k + 1, by go_num, by omega, by omega, hlE⟩
      · go_wp2_with (fail)
        go_returns
        go_light
        exact ⟨rfl, hB.trans hl⟩
  · have FW := fun w hr => few04_false l A cap 40 40 40 40 rfl rfl (by decide) (by decide) w hr hfew
    replace FW := Lib.hid FW
    replace hr := Lib.hid hr
    go_enter Try.func3, Try.ntmps3
    go_wp2_with (first | ((with_reducible refine (AW.out _).mono ?_); rintro e w4 ⟨rfl, hb4⟩; replace hB := Later.trans hB hb4) | ((with_reducible refine (FW.out _ (hr.out.below hB)).mono ?_); rintro e w5 ⟨rfl, hw5⟩; obtain rfl := hw5.symm))
    go_returns
    go_light
    exact ⟨rfl, hB⟩
end Go.Proofs.Ytfkafejoacpclaa
