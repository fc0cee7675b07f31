/- The law SmtEach, walked; what a map tells of a key; what was made holds. No conditions. -/
import Derived.Test.YtknjbkbbhgjnlaaSmt18
import Derived.Test.YtknjbkbbhgjnlaaSmt20
import Derived.Test.YtknjbkbbhgjnlaaSmt21
import Derived.Test.YtknjbkbbhgjnlaaSmt10
namespace Go.Proofs.Ytknjbkbbhgjnlaa
open Go.RowKit
set_option linter.unusedVariables false
set_option linter.unusedSimpArgs false
def tellV (f : ByteArray → Option ByteArray) (k : ByteArray) : ByteArray := (f k).getD ByteArray.empty
theorem MapF.tell {D : MD} {f : ByteArray → Option ByteArray} (h : MapF D f) (k : ByteArray) : D.atKey (keyL k) (valD ByteArray.empty) = valD (tellV f k) := by
  rw [(h k).2]
  unfold tellV
  cases f k <;> rfl
theorem zeroStr (w : World) : (zeroValue 9).run Try.prog w = .ok (.string ByteArray.empty) w := by kernel_rfl
theorem MapW.look {w : World} {b n : Nat} {f : ByteArray → Option ByteArray} (h : MapW w b n f) (k : ByteArray) (hk : k.size ≤ 1099511627776) : (Instr.lookup 36 (.map (some b)) (.string k) false).run Try.prog w = .ok (.string (tellV f k)) w := by
  obtain ⟨D, ho, hf⟩ := h
  obtain ⟨v, ps, hrun, hv⟩ := ho.lookup (Maps.string_keyed Try.underlying9) Try.underlying36 (zeroStr w) (plainElem_string Try.underlying9 (by decide)) (WideMaps.keyOf_string_mk Try.underlying9 (s := k) (by unfold maxLen; omega))
  obtain ⟨s, rfl, hs, -⟩ := plainElem_string_inv Try.underlying9 hv
  have h1 : D.atKey (keyL k) (valD ByteArray.empty) = valD s := congrArg Prod.fst hs
  rw [hf.tell] at h1
  rw [hrun, valD_inj h1]
theorem MapW.lookOk {w : World} {b n : Nat} {f : ByteArray → Option ByteArray} (h : MapW w b n f) (k : ByteArray) (hk : k.size ≤ 1099511627776) : (Instr.lookup 36 (.map (some b)) (.string k) true).run Try.prog w = .ok (.tuple #[.string (tellV f k), .bool (f k).isSome]) w := by
  obtain ⟨D, ho, hf⟩ := h
  obtain ⟨v, ps, hrun, hv⟩ := ho.look_ok (Maps.string_keyed Try.underlying9) Try.underlying36 (zeroStr w) (plainElem_string Try.underlying9 (by decide)) (WideMaps.keyOf_string_mk Try.underlying9 (s := k) (by unfold maxLen; omega))
  obtain ⟨s, rfl, hs, -⟩ := plainElem_string_inv Try.underlying9 hv
  have h1 : D.atKey (keyL k) (valD ByteArray.empty) = valD s := congrArg Prod.fst hs
  rw [hf.tell] at h1
  rw [hrun, valD_inj h1, ← (hf k).1]
  rfl
theorem told_of (l : List KV) (k : ByteArray) : Told (lastK l) k (lastV l k).isSome (tellV (lastV l) k) := by
  unfold Told tellV
  have hL := (lastK_listed l).2
  cases h : lastV l k with
  | some v => exact (hL k v).2 h
  | none =>
    intro p hp e
    have := (hL p.1 p.2).1 hp
    rw [e, h] at this
    cases this
theorem apart_of {l : List KV} {key k : ByteArray} (h : ApartL (key :: l.map (·.1))) (hk : k ∈ key :: l.map (·.1)) : ∀ p ∈ lastK l, pathN p.1 = pathN k → p.1 = k := fun p hp e =>
  h p.1 (List.mem_cons_of_mem _ (List.mem_map.2 ⟨p, lastK_mem l p hp, rfl⟩)) k hk e
theorem vfy_own {l : List KV} {key : ByteArray} {th : Bool} {v : ByteArray} (hn : NK l) (hap : ∀ p ∈ l, pathN p.1 = pathN key → p.1 = key) (ht : Told l key th v) : vfy (rootS 256 l) key th v (proveS key l) = true := by
  obtain ⟨T, h1, h2⟩ := holds_own hn hap ht 256 (Nat.le_refl _)
  obtain ⟨n, h3, h4⟩ := proveS_size key l
  unfold vfy
  rw [if_neg (by omega), h1]
  have e1 : (pvS key l (256 - 256)).2.size = 0 := rfl
  have e2 : alongS key (256 - 256) l = l := rfl
  rw [e2] at h2
  show (decide (32 + (pvS key l (256 - 256)).2.size = 32) && decide (shaN T = rootS 256 l)) = true
  rw [e1, h2]
  simp
theorem tellV_small {l : List KV} (h : ∀ p ∈ l, p.1.size ≤ 60 ∧ p.2.size ≤ 60) (k : ByteArray) : (tellV (lastV l) k).size ≤ 60 := by
  unfold tellV
  cases hv : lastV l k with
  | none => decide
  | some v =>
    have : k.size ≤ 60 ∧ v.size ≤ 60 := h (k, v) (lastK_mem l (k, v) (((lastK_listed l).2 k v).2 hv))
    exact this.2
theorem lastV_mem {l : List KV} {p : KV} (hp : p ∈ l) : (lastV l p.1).isSome = true := by
  cases h : lastV l p.1 with
  | some v => rfl
  | none => exact absurd rfl (lastV_none.1 h p hp)
set_option maxHeartbeats 8000000 in
set_option maxRecDepth 100000 in
theorem smtEach_calls (A : Option Addr) (l : List KV) (cap : Nat) (key : ByteArray) (w : World) (hcap : l.length ≤ cap) (hl : l.length ≤ 9223372036854775807) (hr : PK.Rows w A l) :
    Calls Try.prog 5 #[.slice A l.length cap, .string key] w fun e w' => e = .returned (.bool true) ∧ Below w.heap.size w w' := by
  have AW := fun w => awake05_calls w
  have F1 : ∀ W, PK.Rows W A l → Calls Try.prog 16 #[.slice A l.length cap, .int .i64 6] W (fun e w' => e = .returned (.bool (fewKV l 6)) ∧ Later W w') := fun W h => few05_calls A l cap 6 W hcap hl (by decide) h
  have hok1 : fewKV l 6 = true → l.length ≤ 6 ∧ ∀ q ∈ l, q.1.size ≤ 60 ∧ q.2.size ≤ 60 := fun h => fewKV_all h (by decide)
  replace AW := Lib.hid AW
  replace F1 := Lib.hid F1
  replace hr := Lib.hid hr
  have hB : Later w w := Later.refl w
  go_enter Try.func5, Try.ntmps5
  cases hf1 : fewKV l 6
  · rw [hf1] at F1
    clear hok1
    go_wp2_with (first | ((with_reducible refine (AW.out _).mono ?_); rintro e w4 ⟨rfl, hb4⟩; replace hB := Later.trans hB hb4) | ((with_reducible refine (F1.out _ (hr.out.below hB)).mono ?_); rintro e w5 ⟨rfl, hb5⟩; replace hB := Later.trans hB hb5))
    go_returns
    go_light
    exact ⟨rfl, hB⟩
  rw [hf1] at F1
  obtain ⟨hl5, hsm⟩ := hok1 hf1
  clear hok1 hf1
  by_cases hks : 60 < key.size
  · clear hsm
    go_wp2_with (first | ((with_reducible refine (AW.out _).mono ?_); rintro e w4 ⟨rfl, hb4⟩; replace hB := Later.trans hB hb4) | ((with_reducible refine (F1.out _ (hr.out.below hB)).mono ?_); rintro e w5 ⟨rfl, hb5⟩; replace hB := Later.trans hB hb5))
    go_returns
    go_light
    exact ⟨rfl, hB⟩
  have CA := fun W h => apart_calls A l cap key W hcap (by omega) (by omega) (fun p hp => by have := hsm p hp; omega) h
  replace CA := Lib.hid CA
  replace hsm := Lib.hid hsm
  go_upto_region 3 with (first | ((with_reducible refine (AW.out _).mono ?_); rintro e w4 ⟨rfl, hb4⟩; replace hB := Later.trans hB hb4) | ((with_reducible refine (F1.out _ (hr.out.below hB)).mono ?_); rintro e w5 ⟨rfl, hb5⟩; replace hB := Later.trans hB hb5))
  go_cut [28] (fun v wc => ∃ t : Bool, v = .bool (!t) ∧ (t = true → ApartL (key :: l.map (·.1))) ∧ Later w wc)
  case first =>
    go_wp2_with ((with_reducible refine (CA.out _ (hr.out.below hB)).mono ?_); rintro e wA ⟨t, rfl, hAp, hbA⟩; replace hB := Later.trans hB hbA)
    go_meet
    exact ⟨t, rfl, hAp, hB⟩
  case rest =>
    clear hB hb4 hb5 AW F1 CA
    obtain ⟨t, rfl, hAp, hB⟩ := hcut
    cases t
    · clear hAp
      go_wp2_with (fail)
      go_returns
      go_light
      exact ⟨rfl, hB⟩
    replace hAp := hAp rfl
    have hsm := hsm.out
    have M := fun w => make_calls w
    have hsz := tb_size
    have htz : (arr .u32 (K64 ++ H8.L)).size = Try.zeroCells29.size := by kernel_rfl
    have ho1 : (arr .u32 (K64 ++ H8.L)).toList.all (·.oneCell') = true := by kernel_rfl
    have MD1 := fun W h => made_calls A l cap W hcap (by omega) (fun p hp => by have := hsm p hp; omega) h
    have hf1 : Fok (lastV l) := fok_small hsm
    have R1 : ∀ W b, MapW W b l.length (lastV l) → Calls Try.prog 19 #[.agg (arr .u32 (K64 ++ H8.L)), .map (some b)] W fun e w' => e = .returned (.string (rootS 256 (lastK l))) ∧ Later W w' := fun W b h => sRoot_calls b l.length (lastV l) (lastK l) (lastK_listed l) W h (by omega) hf1
    have PV : ∀ k, k.size ≤ 60 → ∀ W b, MapW W b l.length (lastV l) → Calls Try.prog 28 #[.agg (arr .u32 (K64 ++ H8.L)), .map (some b), .string k] W fun e w' => e = .returned (.string (proveS k (lastK l))) ∧ Later W w' := fun k hk W b h => sProve_calls k (by omega) b l.length (lastV l) (lastK l) (lastK_listed l) W h (by omega) hf1
    have VV : ∀ k, k.size ≤ 60 → k ∈ key :: l.map (·.1) → ∀ th, (lastV l k).isSome = th → ∀ W, Calls Try.prog 25 #[.agg (arr .u32 (K64 ++ H8.L)), .string (rootS 256 (lastK l)), .string k, .string (tellV (lastV l) k), .bool th, .string (proveS k (lastK l))] W fun e w' => e = .returned (.bool true) ∧ Later W w' := by
      intro k hk hmem th hth W
      have hp : (proveS k (lastK l)).size ≤ 1073741824 := by
        obtain ⟨n, h1, h2⟩ := proveS_size k (lastK l)
        omega
      have := verify_calls (rootS 256 (lastK l)) k (tellV (lastV l) k) (proveS k (lastK l)) th (by omega) (by have := tellV_small hsm k; omega) hp W
      rw [vfy_own (lastK_nk l) (apart_of hAp hmem) (hth ▸ told_of l k)] at this
      exact this
    have hin : ∀ p ∈ l, p.1 ∈ key :: l.map (·.1) := fun p hp => List.mem_cons_of_mem _ (List.mem_map.2 ⟨p, hp, rfl⟩)
    have hsome := fun (p : KV) (hp : p ∈ l) => lastV_mem hp
    have hlv := fun (k : ByteArray) => tellV (lastV l) k
    have PVk := PV key (by omega)
    have VVk := VV key (by omega) (by simp) _ rfl
    generalize rootS 256 (lastK l) = RT at *
    generalize arr .u32 (K64 ++ H8.L) = tb at *
    generalize hLK : lastK l = ls at *
    clear hLK hAp hf1 hlv
    replace hsm := Lib.hid hsm
    replace M := Lib.hid M
    replace MD1 := Lib.hid MD1
    replace R1 := Lib.hid R1
    replace PV := Lib.hid PV
    replace VV := Lib.hid VV
    replace PVk := Lib.hid PVk
    replace VVk := Lib.hid VVk
    replace hin := Lib.hid hin
    replace hsome := Lib.hid hsome
    go_upto_region 8 with (first | ((with_reducible refine (M.out _).mono ?_); rintro e w8 ⟨rfl, hb8⟩; replace hB := Later.trans hB hb8; have hZ := Whole.new w8 29 Try.zeroCells29; have hG8 := hB.size; replace hB := hB.alloc (.cells Try.zeroCells29 29)) | ((with_reducible apply wl_storeW (ty := 29) hZ); rfl; rfl; rfl; kernel_rfl; exact htz; exact ho1; intro wS hT hgS hzS; replace hB := below_only' hB hgS hG8) | ((with_reducible refine (MD1.out _ (hr.out.below hB)).mono ?_); rintro e wD ⟨b, rfl, -, hm, hbD⟩; replace hB := Later.trans hB hbD; replace hT := Later.whole hbD hT) | ((with_reducible apply wl_loadW (ty := 29) hT Try.underlying29); rfl; rfl; rfl; exact hsz) | ((with_reducible refine (R1.out _ _ hm).mono ?_); rintro e wR ⟨rfl, hbR⟩; replace hB := Later.trans hB hbR; replace hT := Later.whole hbR hT; replace hm := hm.later hbR))
    clear hb8 hgS hzS hZ htz ho1 hG8 M MD1 R1 hbR hbD
    generalize hGT : w8.heap.size = GT at *
    clear hGT
    have b3 : ((l.length : Int) ≤ cap) = True := eq_true (by omega)
    go_wp2_with (fail)
    go_loopg [8] (l.length + 1) (fun kg i wr => ∃ k : Nat, i = .int .i64 k ∧ k ≤ l.length ∧ kg = l.length + 1 - k ∧ Whole wr GT 29 tb ∧ MapW wr b l.length (lastV l) ∧ Later w wr)
    case atStart => exact ⟨0, rfl, Nat.zero_le _, rfl, hT, hm, hB⟩
    case round =>
      clear hT hm hB
      obtain ⟨k, rfl, hk, hkg, hT, hm, hB⟩ := hrel
      replace hkg := Lib.hid hkg
      by_cases hlt : k < l.length
      · obtain ⟨ad, rfl, hadlt, c0, -⟩ := PK.pair_ (hr.out.below hB) hlt
        have hxl := List.getElem_mem hlt
        generalize l[k] = x at *
        have hx60 := hsm.out x hxl
        have PVx := fun W h => PV.out x.1 (by omega) W b h
        have VVx := VV.out x.1 (by omega) (hin.out x hxl) true (hsome.out x hxl)
        have hlook := hm.look x.1 (by omega)
        generalize tellV (lastV l) x.1 = vx at *
        generalize proveS x.1 ls = PF at *
        replace PVx := Lib.hid PVx
        replace VVx := Lib.hid VVx
        have hkk : (k : Int) < l.length := by omega
        have hk0 : (0 : Int) ≤ k := by omega
        go_upto_region 12 with (fail)
        clear hlook
        refine wp_region_grow 18 82 (by kernel_rfl) (by kernel_rfl) rfl (fun w9 hl9 => ?_)
        simp only [List.take_succ_cons, List.take_zero, List.drop_succ_cons, List.drop_zero]
        generalize ha : Act.mk _ _ = a0
        have k0 : a0.eval (.tmp 0) = .slice (some ad) l.length cap := by subst ha; rfl
        have k5 : a0.eval (.tmp 5) = .pointer (some ⟨GT, 0, none⟩) := by subst ha; rfl
        have k6 : a0.eval (.tmp 6) = .map (some b) := by subst ha; rfl
        have k7 : a0.eval (.tmp 7) = .string RT := by subst ha; rfl
        have k8 : a0.eval (.tmp 8) = .int .i64 k := by subst ha; rfl
        have k9 : a0.eval (.tmp 9) = .string vx := by subst ha; rfl
        have ks : a0.tmps.size = 82 := by subst ha; rfl
        have ha0 := ha.symm
        clear ha
        refine wpG_loadW (hl9.whole hT) Try.underlying29 rfl (hsz) (fun a w hk => (hk 5 rfl : a.eval (.tmp 5) = a0.eval (.tmp 5)).trans k5) ?_
        refine wpG_move (fun a w hk => (hk 7 rfl : a.eval (.tmp 7) = a0.eval (.tmp 7)).trans k7) ?_
        refine wpG_move (fun a w hk => (hk 0 rfl : a.eval (.tmp 0) = a0.eval (.tmp 0)).trans k0) ?_
        refine wpG_move (fun a w hk => (hk 8 rfl : a.eval (.tmp 8) = a0.eval (.tmp 8)).trans k8) ?_
        apply wpG_value'
        · rfl
        · (intro a wx hlx hk K hK; have e50 : a.eval (.tmp 50) = _ := hk 50 rfl; have e51 : a.eval (.tmp 51) = _ := hk 51 rfl; simp only [execOp, e50, e51]; clear e50 e51 hk; go_simp; exact hK)
        apply wpG_value'
        · rfl
        · (intro a wx hlx hk K hK; have e52 : a.eval (.tmp 52) = _ := hk 52 rfl; simp only [execOp, e52]; clear e52 hk; go_simp; exact hK)
        refine wpG_load1 (hl9.cell c0) Try.underlying9 rfl (fun a w hk => hk 53 rfl) ?_
        refine wpG_move (fun a w hk => (hk 9 rfl : a.eval (.tmp 9) = a0.eval (.tmp 9)).trans k9) ?_
        refine wpG_loadW (hl9.whole hT) Try.underlying29 rfl (hsz) (fun a w hk => (hk 5 rfl : a.eval (.tmp 5) = a0.eval (.tmp 5)).trans k5) ?_
        refine wpG_move (fun a w hk => (hk 6 rfl : a.eval (.tmp 6) = a0.eval (.tmp 6)).trans k6) ?_
        refine wpG_move (fun a w hk => (hk 0 rfl : a.eval (.tmp 0) = a0.eval (.tmp 0)).trans k0) ?_
        refine wpG_move (fun a w hk => (hk 8 rfl : a.eval (.tmp 8) = a0.eval (.tmp 8)).trans k8) ?_
        apply wpG_value'
        · rfl
        · (intro a wx hlx hk K hK; have e58 : a.eval (.tmp 58) = _ := hk 58 rfl; have e59 : a.eval (.tmp 59) = _ := hk 59 rfl; simp only [execOp, e58, e59]; clear e58 e59 hk; go_simp; exact hK)
        apply wpG_value'
        · rfl
        · (intro a wx hlx hk K hK; have e60 : a.eval (.tmp 60) = _ := hk 60 rfl; simp only [execOp, e60]; clear e60 hk; go_simp; exact hK)
        refine wpG_load1 (hl9.cell c0) Try.underlying9 rfl (fun a w hk => hk 61 rfl) ?_
        refine wpG_call _ _ Try.func28 (by kernel_rfl) (by kernel_rfl) (fun W hW => PVx.out W (hm.later (hl9.trans hW))) (fun a w hk => by have e56 : a.eval (.tmp 56) = _ := hk 56 rfl; have e57 : a.eval (.tmp 57) = _ := hk 57 rfl; have e62 : a.eval (.tmp 62) = _ := hk 62 rfl; simp [e56, e57, e62]) ?_
        refine wpG_call _ _ Try.func25 (by kernel_rfl) (by kernel_rfl) (fun W _ => VVx.out W) (fun a w hk => by have e48 : a.eval (.tmp 48) = _ := hk 48 rfl; have e49 : a.eval (.tmp 49) = _ := hk 49 rfl; have e54 : a.eval (.tmp 54) = _ := hk 54 rfl; have e55 : a.eval (.tmp 55) = _ := hk 55 rfl; have e63 : a.eval (.tmp 63) = _ := hk 63 rfl; simp [e48, e49, e54, e55, e63] <;> first | rfl | exact ⟨rfl, rfl⟩ | exact ⟨rfl, rfl, rfl⟩) ?_
        apply wpG_value'
        · rfl
        · (intro a wx hlx hk K hK; have e64 : a.eval (.tmp 64) = _ := hk 64 rfl; simp only [execOp, e64]; clear e64 hk; go_simp; exact hK)
        refine wpG_nil (fun w9' hl9' => ?_)
        refine fin_is ?_
        refine fin_is ?_
        refine fin_is ?_
        refine fin_is ?_
        refine fin_is ?_
        refine fin_is ?_
        refine fin_is ?_
        refine fin_is ?_
        refine fin_is ?_
        refine fin_is ?_
        refine fin_is ?_
        refine fin_is ?_
        refine fin_is ?_
        refine fin_is ?_
        refine fin_is ?_
        refine fin_is ?_
        refine fin_is ?_
        refine fin_is ?_
        refine fin_nil ?_
        subst ha0
        clear k0 k5 k6 k7 k8 k9 ks
        simp only [Act.put, List.setIfInBounds_toArray, List.set_cons_succ, List.set_cons_zero]
        have hlq := hl9.trans hl9'
        replace hT := Later.whole hlq hT
        replace hm := hm.later hlq
        replace hB := Later.trans hB hlq
        go_wp2_with (fail)
        go_roundg (l.length - k)
        case measure => go_light; rw [hkg.out]; omega
        case rel => go_light; exact ⟨k + 1, by go_num, by omega, by omega, hT, hm, hB⟩
      · obtain rfl : k = l.length := by omega
        have hlook := hm.lookOk key (by omega)
        generalize tellV (lastV l) key = vx at *
        generalize hth : (lastV l key).isSome = th at *
        generalize proveS key ls = PF at *
        clear hth
        go_upto_region 15 with (fail)
        clear hlook
        refine wp_region_grow 10 82 (by kernel_rfl) (by kernel_rfl) rfl (fun w9 hl9 => ?_)
        simp only [List.take_succ_cons, List.take_zero, List.drop_succ_cons, List.drop_zero]
        generalize ha : Act.mk _ _ = a0
        have k1 : a0.eval (.tmp 1) = .string key := by subst ha; rfl
        have k5 : a0.eval (.tmp 5) = .pointer (some ⟨GT, 0, none⟩) := by subst ha; rfl
        have k6 : a0.eval (.tmp 6) = .map (some b) := by subst ha; rfl
        have k7 : a0.eval (.tmp 7) = .string RT := by subst ha; rfl
        have k10 : a0.eval (.tmp 10) = .string vx := by subst ha; rfl
        have k11 : a0.eval (.tmp 11) = .bool th := by subst ha; rfl
        have ks : a0.tmps.size = 82 := by subst ha; rfl
        have ha0 := ha.symm
        clear ha
        refine wpG_loadW (hl9.whole hT) Try.underlying29 rfl (hsz) (fun a w hk => (hk 5 rfl : a.eval (.tmp 5) = a0.eval (.tmp 5)).trans k5) ?_
        refine wpG_move (fun a w hk => (hk 7 rfl : a.eval (.tmp 7) = a0.eval (.tmp 7)).trans k7) ?_
        refine wpG_move (fun a w hk => (hk 1 rfl : a.eval (.tmp 1) = a0.eval (.tmp 1)).trans k1) ?_
        refine wpG_move (fun a w hk => (hk 10 rfl : a.eval (.tmp 10) = a0.eval (.tmp 10)).trans k10) ?_
        refine wpG_move (fun a w hk => (hk 11 rfl : a.eval (.tmp 11) = a0.eval (.tmp 11)).trans k11) ?_
        refine wpG_loadW (hl9.whole hT) Try.underlying29 rfl (hsz) (fun a w hk => (hk 5 rfl : a.eval (.tmp 5) = a0.eval (.tmp 5)).trans k5) ?_
        refine wpG_move (fun a w hk => (hk 6 rfl : a.eval (.tmp 6) = a0.eval (.tmp 6)).trans k6) ?_
        refine wpG_move (fun a w hk => (hk 1 rfl : a.eval (.tmp 1) = a0.eval (.tmp 1)).trans k1) ?_
        refine wpG_call _ _ Try.func28 (by kernel_rfl) (by kernel_rfl) (fun W hW => PVk.out W b (hm.later (hl9.trans hW))) (fun a w hk => by have e77 : a.eval (.tmp 77) = _ := hk 77 rfl; have e78 : a.eval (.tmp 78) = _ := hk 78 rfl; have e79 : a.eval (.tmp 79) = _ := hk 79 rfl; simp [e77, e78, e79]) ?_
        refine wpG_call _ _ Try.func25 (by kernel_rfl) (by kernel_rfl) (fun W _ => VVk.out W) (fun a w hk => by have e72 : a.eval (.tmp 72) = _ := hk 72 rfl; have e73 : a.eval (.tmp 73) = _ := hk 73 rfl; have e74 : a.eval (.tmp 74) = _ := hk 74 rfl; have e75 : a.eval (.tmp 75) = _ := hk 75 rfl; have e76 : a.eval (.tmp 76) = _ := hk 76 rfl; have e80 : a.eval (.tmp 80) = _ := hk 80 rfl; simp [e72, e73, e74, e75, e76, e80]) ?_
        refine wpG_nil (fun w9' hl9' => ?_)
        refine fin_is ?_
        refine fin_is ?_
        refine fin_is ?_
        refine fin_is ?_
        refine fin_is ?_
        refine fin_is ?_
        refine fin_is ?_
        refine fin_is ?_
        refine fin_is ?_
        refine fin_is ?_
        refine fin_nil ?_
        subst ha0
        clear k1 k5 k6 k7 k10 k11 ks
        simp only [Act.put, List.setIfInBounds_toArray, List.set_cons_succ, List.set_cons_zero]
        go_wp2_with (fail)
        go_returns
        go_light
        exact ⟨rfl, Later.trans hB (hl9.trans hl9')⟩
end Go.Proofs.Ytknjbkbbhgjnlaa
