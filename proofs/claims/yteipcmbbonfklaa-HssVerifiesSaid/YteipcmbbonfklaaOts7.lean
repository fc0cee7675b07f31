/- Signatures verified: the program's. Conditions: public keys of at most 2^20 bytes, messages of at most 2^30. -/
import Derived.Test.YteipcmbbonfklaaOts6
import Derived.Test.YteipcmbbonfklaaOtsNum
namespace Go.Proofs.Yteipcmbbonfklaa
open Go.RowKit
set_option linter.unusedVariables false
set_option linter.unusedSimpArgs false
theorem and1 (a : Nat) : bits .and .i64 (a : Int) 1 = ((a % 2 : Nat) : Int) := by
  have h1 : (BitVec.ofInt 64 1).toNat = 2 ^ 1 - 1 := by decide
  have key : (BitVec.ofInt 64 (a : Int) &&& BitVec.ofInt 64 1).toNat = ((a : Int) % ((2 ^ 64 : Nat) : Int)).toNat % 2 ^ 1 := by
    rw [BitVec.toNat_and, BitVec.toNat_ofInt, h1, Nat.and_two_pow_sub_one_eq_mod]
  show IntKind.i64.wrap ((BitVec.ofInt 64 (a : Int) &&& BitVec.ofInt 64 1).toNat : Nat) = _
  rw [key, IntKind.wrap_i64]
  omega
def cutE (s : ByteArray) (q : Nat) (d : List Nat) (n : Nat) : ByteArray := catN ((List.range n).map fun i => wkN q i (d.getD i 0) (s.extract (4 + 32 * i) (36 + 32 * i)) (15 - d.getD i 0))
def climb (s : ByteArray) (q : Nat) (E : ByteArray) : Nat → ByteArray
  | 0 => leafO q E
  | k + 1 => if q / 2 ^ k % 2 = 0 then pairO (climb s q E k) (s.extract (2148 + 32 * k) (2180 + 32 * k)) else pairO (s.extract (2148 + 32 * k) (2180 + 32 * k)) (climb s q E k)
theorem cutE_succ (s : ByteArray) (q : Nat) (d : List Nat) (n : Nat) : cutE s q d (n + 1) = cutE s q d n ++ wkN q n (d.getD n 0) (s.extract (4 + 32 * n) (36 + 32 * n)) (15 - d.getD n 0) := by
  unfold cutE
  rw [List.range_succ, List.map_append, List.map_singleton, catN_snoc]
theorem chunk_size (s : ByteArray) (hs : s.size = 2244) (a : Nat) (ha : a + 32 ≤ 2244) : (s.extract a (a + 32)).size = 32 := by
  rw [ByteArray.size_extract]
  omega
theorem wk32 (q i a : Nat) (x : ByteArray) (hx : x.size = 32) (k : Nat) : (wkN q i a x k).size = 32 := by
  cases k with
  | zero => exact hx
  | succ k => exact wkN_size _ _ _ _ _ (by omega)
theorem cutE_size (s : ByteArray) (hs : s.size = 2244) (q : Nat) (d : List Nat) : ∀ n, n ≤ 67 → (cutE s q d n).size = 32 * n
  | 0, _ => rfl
  | n + 1, h => by
    rw [cutE_succ, ByteArray.size_append, cutE_size s hs q d n (by omega), wk32 _ _ _ _ (by rw [show 36 + 32 * n = 4 + 32 * n + 32 by omega]; exact chunk_size s hs _ (by omega))]
    omega
theorem climb_size (s : ByteArray) (q : Nat) (E : ByteArray) (k : Nat) : (climb s q E k).size = 32 := by
  cases k with
  | zero => exact shaN_size _
  | succ k => unfold climb; split <;> exact shaN_size _
theorem ext_ext (s : ByteArray) (a b c d : Nat) (h : a + d ≤ b) : (s.extract a b).extract c d = s.extract (a + c) (a + d) := by
  apply ba_ext
  rw [Lib.extract_data, Lib.extract_data, Lib.extract_data, List.drop_take, List.take_take, List.drop_drop]
  congr 1
  omega
set_option maxHeartbeats 8000000 in
set_option maxRecDepth 100000 in
theorem verify_ok (pub msg s : ByteArray) (hm : msg.size ≤ 1073741824) (hs : s.size = 2244) (q : Nat) (hqv : beV (bytesN (s.extract 0 4)) = q) (hq : q < 8) (w : World) :
    Calls Try.prog 76 #[.agg (arr .u32 (K64 ++ H8.L)), .string pub, .string msg, .string s] w fun e w' => e = .returned (.tuple #[.int .i64 ((if climb s q (cutE s q (dgsN q msg) 67) 3 = pub then q else 0 : Nat) : Int), .bool (decide (climb s q (cutE s q (dgsN q msg) 67) 3 = pub))]) ∧ Below w.heap.size w w' := by
  have hsz : (Try.prog.info? 31).map (·.size) = some (arr .u32 (K64 ++ H8.L)).size := by kernel_rfl
  have NC := fun w => number3_calls (s.extract 0 4) (by rw [ByteArray.size_extract]; omega) w
  rw [hqv] at NC
  have DC := fun w => digits_calls q (by omega) msg hm w
  have WC : ∀ (i d : Nat) (x : ByteArray) (hd : d ≤ 15) (hx : x.size ≤ 1000) (w : World), Calls Try.prog 114 #[.agg (arr .u32 (K64 ++ H8.L)), .int .i64 q, .int .i64 i, .string x, .int .i64 d, .int .i64 15] w fun e w' => e = .returned (.string (wkN q i d x (15 - d))) ∧ Below w.heap.size w w' := fun i d x hd hx w => walk_calls q i d 15 hd (by omega) x hx w
  have hcs := cutE_succ s q (dgsN q msg)
  have hcz := cutE_size s hs q (dgsN q msg)
  have hdl : (dgsN q msg).length = 67 := dgsL_length _
  have hd15 : ∀ x ∈ dgsN q msg, x ≤ 15 := dgsL_le (bytesN_lt _)
  have hidx : ∀ (k : Nat) (w : World), k < 67 → (Instr.index 175 (.agg (arr .i64 (dgsN q msg))) (.int .i64 (k : Int))).run Try.prog w = .ok (.int .i64 (((dgsN q msg).getD k 0 : Nat) : Int)) w := fun k w hk => by
    obtain ⟨ii, i1, i2⟩ : ∃ ii, Try.prog.info? 3 = some ii ∧ ii.size = 1 := by
      have h : (Try.prog.info? 3).map (·.size) = some 1 := by kernel_rfl
      cases hi : Try.prog.info? 3 with
      | none => rw [hi] at h; cases h
      | some ii => rw [hi] at h; exact ⟨ii, rfl, Option.some.inj h⟩
    refine run_index_arr Try.underlying175 Try.underlying3 rfl i1 i2 _ .i64 k hk _ ?_ w
    simp [arr, List.getD_eq_getElem?_getD, List.getElem?_eq_getElem (show k < (dgsN q msg).length by omega)]
  have hget : ∀ k, k < 67 → (dgsN q msg).getD k 0 ≤ 15 := fun k hk => by
    rw [List.getD_eq_getElem?_getD, List.getElem?_eq_getElem (show k < (dgsN q msg).length by omega)]
    exact hd15 _ (List.getElem_mem _)
  have LC := fun w => leafO_calls q (cutE s q (dgsN q msg) 67) (by rw [hcz 67 (Nat.le_refl _)]; decide) w
  have PC := fun (a b : ByteArray) (ha : a.size = 32) (hb : b.size = 32) w => pairO_calls a b (by omega) (by omega) w
  have hk0 : climb s q (cutE s q (dgsN q msg) 67) 0 = leafO q (cutE s q (dgsN q msg) 67) := rfl
  have hks : ∀ k, climb s q (cutE s q (dgsN q msg) 67) (k + 1) = if q / 2 ^ k % 2 = 0 then pairO (climb s q (cutE s q (dgsN q msg) 67) k) (s.extract (4 + 32 * (67 + k)) (36 + 32 * (67 + k))) else pairO (s.extract (4 + 32 * (67 + k)) (36 + 32 * (67 + k))) (climb s q (cutE s q (dgsN q msg) 67) k) := fun k => by
    rw [show 4 + 32 * (67 + k) = 2148 + 32 * k by omega, show 36 + 32 * (67 + k) = 2180 + 32 * k by omega]
    rfl
  have hkz := climb_size s q (cutE s q (dgsN q msg) 67)
  have hx1 : ∀ k, k < 70 → (s.extract (4 + 32 * k) 2244).extract 0 32 = s.extract (4 + 32 * k) (36 + 32 * k) := fun k hk => by rw [ext_ext _ _ _ _ _ (by omega)]; congr 1; omega
  have hxz : ∀ k, k ≤ 70 → (s.extract (4 + 32 * k) 2244).size = 2240 - 32 * k := fun k hk => by rw [ByteArray.size_extract]; omega
  have hx2 : ∀ k, k < 70 → (s.extract (4 + 32 * k) 2244).extract 32 (s.extract (4 + 32 * k) 2244).size = s.extract (4 + 32 * (k + 1)) 2244 := fun k hk => by rw [hxz k (by omega), ext_ext _ _ _ _ _ (by omega)]; congr 1 <;> omega
  have hcz32 : ∀ k, k < 70 → (s.extract (4 + 32 * k) (36 + 32 * k)).size = 32 := fun k hk => by rw [show 36 + 32 * k = 4 + 32 * k + 32 by omega]; exact chunk_size s hs _ (by omega)
  have hr0 : s.extract 4 2244 = s.extract (4 + 32 * 0) 2244 := rfl
  generalize hCHe : (fun k => s.extract (4 + 32 * k) (36 + 32 * k)) = CH
  generalize hRTe : (fun k => s.extract (4 + 32 * k) 2244) = RT
  have eCH : ∀ k, s.extract (4 + 32 * k) (36 + 32 * k) = CH k := fun k => by rw [← hCHe]
  have eRT : ∀ k, s.extract (4 + 32 * k) 2244 = RT k := fun k => by rw [← hRTe]
  simp only [eCH, eRT] at hcs hks hx1 hxz hx2 hcz32 hr0
  clear hCHe hRTe eCH eRT
  generalize hEe : cutE s q (dgsN q msg) = EN at *
  generalize hKe : climb s q (EN 67) = KL at *
  generalize arr .u32 (K64 ++ H8.L) = tb at *
  have h1 := Whole.new w 31 tb
  have hB1 : Below w.heap.size w (w.alloc (.cells tb 31)) := by go_grown
  replace NC := Lib.hid NC
  replace DC := Lib.hid DC
  replace WC := Lib.hid WC
  replace LC := Lib.hid LC
  replace PC := Lib.hid PC
  replace hcs := Lib.hid hcs
  replace hcz := Lib.hid hcz
  replace hidx := Lib.hid hidx
  replace hget := Lib.hid hget
  replace hk0 := Lib.hid hk0
  replace hks := Lib.hid hks
  replace hkz := Lib.hid hkz
  replace hx1 := Lib.hid hx1
  replace hx2 := Lib.hid hx2
  replace hxz := Lib.hid hxz
  replace hcz32 := Lib.hid hcz32
  replace hEe := Lib.hid hEe
  replace hKe := Lib.hid hKe
  replace hr0 := Lib.hid hr0
  clear hd15 hdl hqv
  have q2 : ((8 : Int) ≤ q) = False := eq_false (by omega)
  go_enter Try.func76, Try.ntmps76
  go_upto_region 1 with (fail)
  generalize hG : w.heap.size = G at *
  generalize w.alloc (.cells tb 31) = W1 at *
  go_upto_region 7 with ((with_reducible refine (NC.out _).mono ?_); rintro e w2 ⟨rfl, hb2⟩)
  have hb0 := BAt.new w2
  have hl0 : Later w2 (w2.alloc (.cells #[.pointer none, .slice none 0 0] 170)) := (Later.refl w2).alloc _
  replace hb0 := Lib.hid hb0
  go_upto_region 8 with (fail)
  generalize w2.alloc (.cells #[.pointer none, .slice none 0 0] 170) = W3 at *
  have hT2 := Later.whole hb2 h1
  have hB2 := below_next' (hG ▸ hB1) hb2
  clear hb2
  go_wp2_with (first | ((with_reducible apply wl_loadW (ty := 31) (Later.whole hl0 hT2) Try.underlying31); rfl; rfl; rfl; exact hsz) | ((with_reducible refine (DC.out _).mono ?_); rintro e w5 ⟨rfl, hb5⟩; replace hb0 := Lib.hid (hb0.out.later hb5); replace hl0 := Later.trans hl0 hb5))
  clear hb5
  rw [hr0.out]
  have hE0 : EN 0 = ⟨#[]⟩ := by rw [← hEe.out]; rfl
  rw [← hE0] at hb0
  replace hb0 := hb0.out
  clear hE0
  generalize dgsN q msg = D at *
  go_loopg [11, 13, 14, 32] 68 (fun kg r i d x wr => ∃ k : Nat, x = .int .i64 k ∧ k ≤ 67 ∧ kg = 68 - k ∧ r = .string (RT k) ∧ BAt w2.heap.size w2.heap.size (EN k) wr ∧ Later w2 wr)
  case atStart => exact ⟨0, rfl, by omega, rfl, rfl, hb0, hl0⟩
  case round =>
    clear hb0 hl0
    obtain ⟨k, rfl, hk, hkg, rfl, hba, hl⟩ := hrel
    replace hkg := Lib.hid hkg
    replace hba := Lib.hid hba
    by_cases hlt : k < 67
    · have hix := fun w => hidx.out k w hlt
      have hg15 := hget.out k hlt
      have hc32 := hcz32.out k (by omega)
      have WK := fun w => WC.out k (D.getD k 0) (CH k) hg15 (by omega) w
      have hcsk := hcs.out k
      have hczk := hcz.out k (by omega)
      have hw32 := wk32 q k (D.getD k 0) (CH k) hc32 (15 - D.getD k 0)
      have hE1 := hx1.out k (by omega)
      have hE2 := hx2.out k (by omega)
      have hRz := hxz.out k (by omega)
      generalize wkN q k (D.getD k 0) (CH k) (15 - D.getD k 0) = X at *
      generalize D.getD k 0 = dk at *
      generalize CH k = C at *
      generalize RT k = R at *
      generalize hRn : RT (k + 1) = R2 at *
      replace hRn := Lib.hid hRn
      have r1 : (32 ≤ R.size) = True := eq_true (by omega)
      have r2 : ((32 : Int) ≤ R.size) = True := eq_true (by omega)
      replace hRz := Lib.hid hRz
      replace WK := Lib.hid WK
      go_upto_region 11 with (fail)
      refine wp_region_grow 7 76 (by kernel_rfl) (by kernel_rfl) rfl (fun w6 hl6 => ?_)
      simp only [List.take_succ_cons, List.take_zero, List.drop_succ_cons, List.drop_zero]
      generalize ha : Act.mk _ _ = a0
      have k4 : a0.eval (.tmp 4) = .pointer (some ⟨G, 0, none⟩) := by subst ha; rfl
      have k10 : a0.eval (.tmp 10) = .int .i64 q := by subst ha; rfl
      have k11 : a0.eval (.tmp 11) = .string R := by subst ha; rfl
      have k13 : a0.eval (.tmp 13) = .int .i64 k := by subst ha; rfl
      have k14 : a0.eval (.tmp 14) = .int .i64 dk := by subst ha; rfl
      have ks : a0.tmps.size = 76 := by subst ha; rfl
      have ha0 := ha.symm
      clear ha
      refine wpG_loadW ((hl.trans hl6).whole hT2) Try.underlying31 rfl (hsz) (fun a w hk => (hk 4 rfl : a.eval (.tmp 4) = a0.eval (.tmp 4)).trans k4) ?_
      refine wpG_move (fun a w hk => (hk 10 rfl : a.eval (.tmp 10) = a0.eval (.tmp 10)).trans k10) ?_
      refine wpG_move (fun a w hk => (hk 13 rfl : a.eval (.tmp 13) = a0.eval (.tmp 13)).trans k13) ?_
      refine wpG_move (fun a w hk => (hk 11 rfl : a.eval (.tmp 11) = a0.eval (.tmp 11)).trans k11) ?_
      apply wpG_value'
      · rfl
      · (intro a wx hlx hk K hK; have e39 : a.eval (.tmp 39) = _ := hk 39 rfl; simp only [execOp, resolve, List.map_toArray, List.map_cons, List.map_nil, Option.map_some, Option.map_none, e39]; clear e39 hk; go_simp; exact hK)
      refine wpG_move (fun a w hk => (hk 14 rfl : a.eval (.tmp 14) = a0.eval (.tmp 14)).trans k14) ?_
      refine wpG_call _ _ Try.func114 (by kernel_rfl) (by kernel_rfl) (fun W _ => WK.out W) (fun a w hk => by have e36 : a.eval (.tmp 36) = _ := hk 36 rfl; have e37 : a.eval (.tmp 37) = _ := hk 37 rfl; have e38 : a.eval (.tmp 38) = _ := hk 38 rfl; have e40 : a.eval (.tmp 40) = _ := hk 40 rfl; have e41 : a.eval (.tmp 41) = _ := hk 41 rfl; simp [e36, e37, e38, e40, e41] <;> first | rfl | exact ⟨rfl, rfl⟩ | exact ⟨rfl, rfl, rfl⟩) ?_
      refine wpG_nil (fun w6' hl6' => ?_)
      refine fin_is ?_
      refine fin_is ?_
      refine fin_is ?_
      refine fin_is ?_
      refine fin_is ?_
      refine fin_is ?_
      refine fin_is ?_
      refine fin_nil ?_
      subst ha0
      clear k4 k10 k13 k11 k14 ks
      simp only [Act.put, List.setIfInBounds_toArray, List.set_cons_succ, List.set_cons_zero]
      have hb6 := hba.out.later (hl6.trans hl6')
      have hl7 := hl.trans (hl6.trans hl6')
      replace hb6 := Lib.hid hb6
      clear hba hl hl6 hl6' WK hix
      go_wp2_with ((with_reducible refine (bwO_calls _ _ _ X _ hb6.out (by rw [hczk, hw32]; omega) hl7.size).mono ?_); rintro e w8 ⟨rfl, hb8, hB8, -⟩)
      rw [← hcsk] at hb8
      replace hb8 := Lib.hid hb8
      have hl8 : Later w2 w8 := Below.trans hl7 hB8
      clear hb6 hl7 hB8 hcsk
      go_roundg (67 - k)
      case measure => go_light; rw [hkg.out]; omega
      case rel => go_light; exact ⟨k + 1, by go_num, by omega, by omega, by rw [hRn.out], hb8.out, hl8⟩
    · obtain rfl : k = 67 := by omega
      have hz67 : (EN 67).size ≠ 0 := by rw [hcz.out 67 (Nat.le_refl _)]; decide
      have LL := LC.out
      rw [← hk0.out] at LL
      generalize EN 67 = E67 at *
      replace LL := Lib.hid LL
      go_upto_region 14 with (fail)
      refine wp_region_growR (Rel.builder w2.heap.size w2.heap.size E67) 5 76 (by kernel_rfl) (by kernel_rfl) rfl (fun w9 hl9 => ?_)
      simp only [List.take_succ_cons, List.take_zero, List.drop_succ_cons, List.drop_zero]
      generalize ha : Act.mk _ _ = a0
      have k4 : a0.eval (.tmp 4) = .pointer (some ⟨G, 0, none⟩) := by subst ha; rfl
      have k10 : a0.eval (.tmp 10) = .int .i64 q := by subst ha; rfl
      have k12 : a0.eval (.tmp 12) = .pointer (some ⟨w2.heap.size, 0, none⟩) := by subst ha; rfl
      have ks : a0.tmps.size = 76 := by subst ha; rfl
      have ha0 := ha.symm
      clear ha
      refine wpR_loadW (Rel.builder w2.heap.size w2.heap.size E67) (fun W hW => Later.whole (Below.trans hl (Below.trans hl9.1 hW.1) : Later w2 W) hT2) Try.underlying31 rfl (hsz) (fun a w hk => (hk 4 rfl : a.eval (.tmp 4) = a0.eval (.tmp 4)).trans k4) ?_
      refine wpR_move (Rel.builder w2.heap.size w2.heap.size E67) (fun a w hk => (hk 10 rfl : a.eval (.tmp 10) = a0.eval (.tmp 10)).trans k10) ?_
      refine wpR_call (Rel.builder w2.heap.size w2.heap.size E67) _ _ Try.func116 (by kernel_rfl) (by kernel_rfl) (fun W hW => RB.string (hW.2 (hl9.2 hba.out)) hz67) (fun a w hk => by have e12 : a.eval (.tmp 12) = _ := (hk 12 rfl : a.eval (.tmp 12) = a0.eval (.tmp 12)).trans k12; simp [e12]) ?_
      refine wpR_call (Rel.builder w2.heap.size w2.heap.size E67) _ _ Try.func118 (by kernel_rfl) (by kernel_rfl) (fun W hW => (LL.out W).mono fun e w' h => ⟨h.1, RB.later (Below.trans hl (Below.trans hl9.1 hW.1) : Later w2 W).size h.2⟩) (fun a w hk => by have e47 : a.eval (.tmp 47) = _ := hk 47 rfl; have e48 : a.eval (.tmp 48) = _ := hk 48 rfl; have e49 : a.eval (.tmp 49) = _ := hk 49 rfl; simp [e47, e48, e49]) ?_
      refine wpR_assign (Rel.builder w2.heap.size w2.heap.size E67) (fun a w hk => hk 50 rfl) ?_
      refine wpR_nil (fun w9' hl9' => ?_)
      refine fin_is ?_
      refine fin_is ?_
      refine fin_is ?_
      refine fin_is ?_
      refine fin_is ?_
      refine fin_nil ?_
      subst ha0
      clear k4 k10 k12 ks
      simp only [Act.put, List.setIfInBounds_toArray, List.set_cons_succ, List.set_cons_zero]
      have hl99 : Later w2 w9' := Below.trans hl (Below.trans hl9.1 hl9'.1)
      clear hl9 hl9' hba hl LL
      go_wp2_with (fail)
      go_loopg [11, 15, 16, 17, 51] 4 (fun kg r y i o x wr => ∃ k : Nat, x = .int .i64 k ∧ k ≤ 3 ∧ kg = 4 - k ∧ r = .string (RT (67 + k)) ∧ y = .string (KL k) ∧ Later w2 wr)
      case atStart => exact ⟨0, rfl, by omega, rfl, rfl, rfl, hl99⟩
      case round =>
        clear hl99
        obtain ⟨k, rfl, hk3, hkg3, rfl, rfl, hl⟩ := hrel
        replace hkg3 := Lib.hid hkg3
        have hT := Later.whole hl hT2
        by_cases hlt3 : k < 3
        · have hE1 := hx1.out (67 + k) (by omega)
          have hE2 := hx2.out (67 + k) (by omega)
          have hRz := hxz.out (67 + k) (by omega)
          have hc32 := hcz32.out (67 + k) (by omega)
          have hk32 := hkz.out k
          have hks1 := hks.out k
          have P1 := fun w => PC.out (KL k) (CH (67 + k)) hk32 hc32 w
          have P2 := fun w => PC.out (CH (67 + k)) (KL k) hc32 hk32 w
          rw [show 67 + k + 1 = 67 + (k + 1) by omega] at hE2
          generalize CH (67 + k) = C at *
          generalize RT (67 + k) = R at *
          generalize hRn : RT (67 + (k + 1)) = R2 at *
          replace hRn := Lib.hid hRn
          generalize hKn : KL (k + 1) = Kn at *
          replace hKn := Lib.hid hKn
          generalize KL k = Kk at *
          have r1 : (32 ≤ R.size) = True := eq_true (by omega)
          have r2 : ((32 : Int) ≤ R.size) = True := eq_true (by omega)
          replace hRz := Lib.hid hRz
          have y1 : (q : Int) / 2 ^ k = ((q / 2 ^ k : Nat) : Int) := by simp
          have am : min k 64 = k := by omega
          have ab := and1 (q / 2 ^ k)
          by_cases hp : q / 2 ^ k % 2 = 0
          · rw [if_pos hp] at hks1
            rw [hp] at ab
            rw [← hks1] at P1
            generalize q / 2 ^ k = v at *
            replace P1 := Lib.hid P1
            clear P2 hks1 hp
            go_wp2_with (first | ((with_reducible apply wl_loadW (ty := 31) hT Try.underlying31); rfl; rfl; rfl; exact hsz) | ((with_reducible refine (P1.out _).mono ?_); rintro e wp ⟨rfl, hbp⟩))
            have hln := Later.trans hl hbp
            go_roundg (3 - k)
            case measure => go_light; rw [hkg3.out]; omega
            case rel => go_light; exact ⟨k + 1, by go_num, by omega, by omega, by rw [hRn.out], by rw [hKn.out], hln⟩
          · rw [if_neg hp] at hks1
            have hp1 : q / 2 ^ k % 2 = 1 := by omega
            rw [hp1] at ab
            rw [← hks1] at P2
            generalize q / 2 ^ k = v at *
            replace P2 := Lib.hid P2
            clear P1 hks1 hp hp1
            go_wp2_with (first | ((with_reducible apply wl_loadW (ty := 31) hT Try.underlying31); rfl; rfl; rfl; exact hsz) | ((with_reducible refine (P2.out _).mono ?_); rintro e wp ⟨rfl, hbp⟩))
            have hln := Later.trans hl hbp
            go_roundg (3 - k)
            case measure => go_light; rw [hkg3.out]; omega
            case rel => go_light; exact ⟨k + 1, by go_num, by omega, by omega, by rw [hRn.out], by rw [hKn.out], hln⟩
        · obtain rfl : k = 3 := by omega
          have hBf := below_next' hB2 hl
          by_cases hpub : KL 3 = pub
          · rw [hpub]
            go_wp2_with (fail)
            go_returns
            go_light
            exact ⟨by first | rfl | kernel_rfl, by first | exact hBf | (rw [← hG]; exact hBf)⟩
          · have hpub' : ((KL 3).toList == pub.toList) = false := by rw [beqL]; simp [hpub]
            go_wp2_with (fail)
            go_returns
            go_light
            exact ⟨by first | rfl | kernel_rfl, by first | exact hBf | (rw [← hG]; exact hBf)⟩
set_option maxHeartbeats 1000000 in
set_option maxRecDepth 100000 in
theorem verify_bad (pub msg s : ByteArray) (h : s.size ≠ 2244 ∨ 8 ≤ beV (bytesN (s.extract 0 4))) (w : World) :
    Calls Try.prog 76 #[.agg (arr .u32 (K64 ++ H8.L)), .string pub, .string msg, .string s] w fun e w' => e = .returned (.tuple #[.int .i64 0, .bool false]) ∧ Below w.heap.size w w' := by
  generalize arr .u32 (K64 ++ H8.L) = tb at *
  have hB1 : Below w.heap.size w (w.alloc (.cells tb 31)) := by go_grown
  by_cases hs : s.size = 2244
  · have NC := fun w => number3_calls (s.extract 0 4) (by rw [ByteArray.size_extract]; omega) w
    have h8 : 8 ≤ beV (bytesN (s.extract 0 4)) := h.resolve_left (fun k => k hs)
    generalize beV (bytesN (s.extract 0 4)) = q at *
    replace NC := Lib.hid NC
    have q8 : ((8 : Int) ≤ q) = True := eq_true (by omega)
    clear h
    go_enter Try.func76, Try.ntmps76
    go_wp2_with ((with_reducible refine (NC.out _).mono ?_); rintro e w2 ⟨rfl, hb2⟩; replace hB1 := below_next' hB1 hb2)
    go_returns
    go_light
    exact ⟨rfl, hB1⟩
  · have qs : ((s.size : Int) == 2244) = false := by rw [beq_eq_false_iff_ne]; omega
    have qs2 : ((s.size : Int) = 2244) = False := eq_false (by omega)
    go_enter Try.func76, Try.ntmps76
    go_wp2_with (fail)
    go_returns
    go_light
    exact ⟨rfl, hB1⟩
end Go.Proofs.Yteipcmbbonfklaa
