/- Signatures: the program's. Conditions: seeds of at most 2^20 bytes, messages of at most 2^30. -/
import Derived.Test.YteipcmbbonfklaaOts5
import Derived.Test.YteipcmbbonfklaaBuildO
namespace Go.Proofs.Yteipcmbbonfklaa
open Go.RowKit
set_option linter.unusedVariables false
set_option linter.unusedSimpArgs false
def sibCat (S : ByteArray) (ND : Nat → Nat → ByteArray) (q : Nat) : Nat → ByteArray
  | 0 => S
  | h + 1 => sibCat S ND q h ++ ND h (sibN (q / 2 ^ h))
theorem sigN_cat (seed : ByteArray) (q : Nat) (msg : ByteArray) : sigN seed q msg = sibCat (sigV seed q (dgsN q msg) 67) (nodeN seed) q 3 := by
  have e0 : q / 2 ^ 0 = q := by omega
  have e1 : q / 2 ^ 1 = q / 2 := by omega
  have e2 : q / 2 ^ 2 = q / 2 / 2 := by omega
  simp only [sibCat, sigN, e0, e1, e2]
theorem sigV_succ (seed : ByteArray) (q : Nat) (d : List Nat) (n : Nat) : sigV seed q d (n + 1) = sigV seed q d n ++ wkN q n 0 (begN seed q n) (d.getD n 0) := by
  unfold sigV
  rw [List.range_succ, List.map_append, List.map_singleton, catN_snoc]
  simp only [ByteArray.append_assoc]
theorem wkN_32 (seed : ByteArray) (q i a k : Nat) : (wkN q i a (begN seed q i) k).size = 32 := by
  cases k with
  | zero => exact begN_size _ _ _
  | succ k => exact wkN_size _ _ _ _ _ (by omega)
theorem sigV_size (seed : ByteArray) (q : Nat) (d : List Nat) : ∀ n, (sigV seed q d n).size = 4 + 32 * n
  | 0 => by
    show (numW q ++ catN []).size = _
    rw [ByteArray.size_append, numW_size]
    rfl
  | n + 1 => by rw [sigV_succ, ByteArray.size_append, sigV_size seed q d n, wkN_32]; omega
theorem sigV_zero (seed : ByteArray) (q : Nat) (d : List Nat) : sigV seed q d 0 = numW q := by
  show numW q ++ (⟨#[]⟩ : ByteArray) = _
  apply ba_ext
  rw [ba_append]
  simp
theorem ba_nil (x : ByteArray) : (⟨#[]⟩ : ByteArray) ++ x = x := by
  apply ba_ext
  rw [ba_append]
  simp
theorem xor1 : ∀ a : Nat, a < 8 → bits .xor .i64 (a : Int) 1 = ((sibN a : Nat) : Int) := by
  intro a ha
  match a, ha with
  | 0, _ => decide
  | 1, _ => decide
  | 2, _ => decide
  | 3, _ => decide
  | 4, _ => decide
  | 5, _ => decide
  | 6, _ => decide
  | 7, _ => decide
theorem sibN_lt (a m : Nat) (h : a < 2 * m) : sibN a < 2 * m := by
  unfold sibN
  split <;> omega
theorem textRow_rows {w : World} {base : Nat} {e : TypeId} {A : Option Addr} {n c : Nat} {l : List ByteArray} (h : TextRow e base l (.slice A n c) w) (hl : l.length ≤ 9223372036854775807) : l.length ≤ c ∧ Kn.str.Rows w A l := by
  obtain ⟨A', c', e', h1, h2⟩ := textRow_read h hl
  injection e' with e1 e2 e3
  subst e1 e3
  exact ⟨h1, h2⟩
set_option maxHeartbeats 8000000 in
set_option maxRecDepth 100000 in
theorem sign_calls (seed : ByteArray) (hs : seed.size ≤ 1048576) (q : Nat) (hq : q < 8) (msg : ByteArray) (hm : msg.size ≤ 1073741824) (w : World) :
    Calls Try.prog 75 #[.agg (arr .u32 (K64 ++ H8.L)), .string seed, .int .i64 q, .string msg] w fun e w' => e = .returned (.tuple #[.string (sigN seed q msg), .int .i64 0]) ∧ Below w.heap.size w w' := by
  have hsz : (Try.prog.info? 31).map (·.size) = some (arr .u32 (K64 ++ H8.L)).size := by kernel_rfl
  have NQ := fun w => wnum_calls (q : Int) w
  have DC := fun w => digits_calls q (by omega) msg hm w
  have BC := fun (i : Nat) w => begin_calls seed (by omega) q i w
  have WC : ∀ (i d : Nat) (hd : d ≤ 15) (w : World), Calls Try.prog 114 #[.agg (arr .u32 (K64 ++ H8.L)), .int .i64 q, .int .i64 i, .string (begN seed q i), .int .i64 0, .int .i64 d] w fun e w' => e = .returned (.string (wkN q i 0 (begN seed q i) d)) ∧ Below w.heap.size w w' := fun i d hd w => walk_calls q i 0 d (by omega) (by omega) (begN seed q i) (by rw [begN_size]; decide) w
  have LC := fun w => leaves3_calls seed hs w
  have UC := fun (h m : Nat) (hm : m ≤ 8) (A : Option Addr) (cap : Nat) (w : World) h2 h3 => up_calls (nodeN seed h) (fun i => by rw [nodeN_size]; decide) m hm A cap w h2 h3
  have hnode : ∀ h, (fun i => pairO (nodeN seed h (2 * i)) (nodeN seed h (2 * i + 1))) = nodeN seed (h + 1) := fun h => rfl
  simp only [hnode] at UC
  have hnz := nodeN_size seed
  rw [sigN_cat]
  have hdl : (dgsN q msg).length = 67 := dgsL_length _
  have hd15 : ∀ x ∈ dgsN q msg, x ≤ 15 := dgsL_le (bytesN_lt _)
  have hsV0 := sigV_zero seed q (dgsN q msg)
  have hsV := sigV_succ seed q (dgsN q msg)
  have hsz0 := sigV_size seed q (dgsN q msg)
  have hwz := wkN_32 seed q
  have hidx : ∀ (k : Nat) (w : World), k < 67 → (Instr.index 175 (.agg (arr .i64 (dgsN q msg))) (.int .i64 (k : Int))).run Try.prog w = .ok (.int .i64 (((dgsN q msg).getD k 0 : Nat) : Int)) w := fun k w hk => by
    obtain ⟨ii, i1, i2⟩ : ∃ ii, Try.prog.info? 3 = some ii ∧ ii.size = 1 := by
      have h : (Try.prog.info? 3).map (·.size) = some 1 := by kernel_rfl
      cases hi : Try.prog.info? 3 with
      | none => rw [hi] at h; cases h
      | some ii => rw [hi] at h; exact ⟨ii, rfl, Option.some.inj h⟩
    refine run_index_arr Try.underlying175 Try.underlying3 rfl i1 i2 _ .i64 k hk _ ?_ w
    simp [arr, List.getD_eq_getElem?_getD, List.getElem?_eq_getElem (show k < (dgsN q msg).length by omega)]
  have hget : ∀ k, k < 67 → (dgsN q msg).getD k 0 ≤ 15 := fun k hk => by
    rw [List.getD_eq_getElem?_getD, List.getElem?_eq_getElem (show k < (dgsN q msg).length by omega)]
    exact hd15 _ (List.getElem_mem _)
  generalize sigV seed q (dgsN q msg) = SV at *
  generalize dgsN q msg = D at *
  generalize nodeN seed = ND at *
  generalize begN seed q = BN at *
  generalize numW (q : Int) = nq at *
  generalize arr .u32 (K64 ++ H8.L) = tb at *
  have h1 := Whole.new w 31 tb
  have hB1 : Below w.heap.size w (w.alloc (.cells tb 31)) := by go_grown
  have q1 : ((q : Int) < 0) = False := eq_false (by omega)
  have q2 : ((8 : Int) ≤ q) = False := eq_false (by omega)
  replace NQ := Lib.hid NQ
  replace DC := Lib.hid DC
  replace BC := Lib.hid BC
  replace WC := Lib.hid WC
  replace LC := Lib.hid LC
  replace UC := Lib.hid UC
  replace hnz := Lib.hid hnz
  replace hsV0 := Lib.hid hsV0
  replace hsV := Lib.hid hsV
  replace hsz0 := Lib.hid hsz0
  replace hwz := Lib.hid hwz
  replace hidx := Lib.hid hidx
  replace hget := Lib.hid hget
  clear hnode hd15 hdl
  go_enter Try.func75, Try.ntmps75
  go_upto_region 1 with (fail)
  generalize hG : w.heap.size = G at *
  generalize w.alloc (.cells tb 31) = W1 at *
  have hb0 := BAt.new W1
  have hl0 : Later W1 (W1.alloc (.cells #[.pointer none, .slice none 0 0] 170)) := (Later.refl W1).alloc _
  replace hb0 := Lib.hid hb0
  go_upto_region 4 with (fail)
  generalize W1.alloc (.cells #[.pointer none, .slice none 0 0] 170) = W2 at *
  have n4 : nq.size = 4 := by rw [← hsV0.out, hsz0.out]
  have hz0 : (⟨#[]⟩ : ByteArray).size + nq.size ≤ 140737488355328 := by show 0 + nq.size ≤ _; omega
  go_wp2_with (first | ((with_reducible refine (NQ.out _).mono ?_); rintro e w2 ⟨rfl, hb2⟩; replace hb0 := Lib.hid (hb0.out.later hb2); replace hl0 := Later.trans hl0 hb2) | ((with_reducible refine (bwO_calls _ _ _ nq _ hb0.out hz0 hl0.size).mono ?_); rintro e w3 ⟨rfl, hb3, hB3, -⟩; replace hl0 : Later W1 w3 := Below.trans hl0 hB3) | ((with_reducible apply wl_loadW (ty := 31) (Later.whole hl0 h1) Try.underlying31); rfl; rfl; rfl; exact hsz) | ((with_reducible refine (DC.out _).mono ?_); rintro e w5 ⟨rfl, hb5⟩; replace hb3 := hb3.later hb5; replace hl0 := Later.trans hl0 hb5))
  have e0 : (⟨#[]⟩ : ByteArray) ++ nq = SV 0 := by rw [hsV0.out]; exact ba_nil nq
  rw [e0] at hb3
  clear e0 hB3 hb5 hb2 hb0
  go_loopg [11, 12, 28] 68 (fun kg i d x wr => ∃ k : Nat, x = .int .i64 k ∧ k ≤ 67 ∧ kg = 68 - k ∧ BAt W1.heap.size W1.heap.size (SV k) wr ∧ Later W1 wr)
  case atStart => exact ⟨0, rfl, by omega, rfl, hb3, hl0⟩
  case round =>
    clear hb3 hl0
    obtain ⟨k, rfl, hk, hkg, hba, hl⟩ := hrel
    replace hkg := Lib.hid hkg
    replace hba := Lib.hid hba
    by_cases hlt : k < 67
    · have hix := fun w => hidx.out k w hlt
      have hg15 := hget.out k hlt
      have BK := fun w => BC.out k w
      have WK := fun w => WC.out k (D.getD k 0) hg15 w
      have hsvk := hsV.out k
      have hszk := hsz0.out k
      have hw32 := hwz.out k 0 (D.getD k 0)
      generalize D.getD k 0 = dk at *
      generalize BN k = BX at *
      generalize wkN q k 0 BX dk = X at *
      replace BK := Lib.hid BK
      replace WK := Lib.hid WK
      go_upto_region 8 with (fail)
      refine wp_region_grow 10 63 (by kernel_rfl) (by kernel_rfl) rfl (fun w4 hl4 => ?_)
      simp only [List.take_succ_cons, List.take_zero, List.drop_succ_cons, List.drop_zero]
      generalize ha : Act.mk _ _ = a0
      have k1 : a0.eval (.tmp 1) = .string seed := by subst ha; rfl
      have k2 : a0.eval (.tmp 2) = .int .i64 q := by subst ha; rfl
      have k4 : a0.eval (.tmp 4) = .pointer (some ⟨G, 0, none⟩) := by subst ha; rfl
      have k11 : a0.eval (.tmp 11) = .int .i64 k := by subst ha; rfl
      have k12 : a0.eval (.tmp 12) = .int .i64 dk := by subst ha; rfl
      have ks : a0.tmps.size = 63 := by subst ha; rfl
      have ha0 := ha.symm
      clear ha
      refine wpG_loadW ((hl.trans hl4).whole h1) Try.underlying31 rfl (hsz) (fun a w hk => (hk 4 rfl : a.eval (.tmp 4) = a0.eval (.tmp 4)).trans k4) ?_
      refine wpG_move (fun a w hk => (hk 2 rfl : a.eval (.tmp 2) = a0.eval (.tmp 2)).trans k2) ?_
      refine wpG_move (fun a w hk => (hk 11 rfl : a.eval (.tmp 11) = a0.eval (.tmp 11)).trans k11) ?_
      refine wpG_loadW ((hl.trans hl4).whole h1) Try.underlying31 rfl (hsz) (fun a w hk => (hk 4 rfl : a.eval (.tmp 4) = a0.eval (.tmp 4)).trans k4) ?_
      refine wpG_move (fun a w hk => (hk 1 rfl : a.eval (.tmp 1) = a0.eval (.tmp 1)).trans k1) ?_
      refine wpG_move (fun a w hk => (hk 2 rfl : a.eval (.tmp 2) = a0.eval (.tmp 2)).trans k2) ?_
      refine wpG_move (fun a w hk => (hk 11 rfl : a.eval (.tmp 11) = a0.eval (.tmp 11)).trans k11) ?_
      refine wpG_call _ _ Try.func115 (by kernel_rfl) (by kernel_rfl) (fun W _ => BK.out W) (fun a w hk => by have e35 : a.eval (.tmp 35) = _ := hk 35 rfl; have e36 : a.eval (.tmp 36) = _ := hk 36 rfl; have e37 : a.eval (.tmp 37) = _ := hk 37 rfl; have e38 : a.eval (.tmp 38) = _ := hk 38 rfl; simp [e35, e36, e37, e38]) ?_
      refine wpG_move (fun a w hk => (hk 12 rfl : a.eval (.tmp 12) = a0.eval (.tmp 12)).trans k12) ?_
      refine wpG_call _ _ Try.func114 (by kernel_rfl) (by kernel_rfl) (fun W _ => WK.out W) (fun a w hk => by have e32 : a.eval (.tmp 32) = _ := hk 32 rfl; have e33 : a.eval (.tmp 33) = _ := hk 33 rfl; have e34 : a.eval (.tmp 34) = _ := hk 34 rfl; have e39 : a.eval (.tmp 39) = _ := hk 39 rfl; have e40 : a.eval (.tmp 40) = _ := hk 40 rfl; simp [e32, e33, e34, e39, e40] <;> first | rfl | exact ⟨rfl, rfl⟩ | exact ⟨rfl, rfl, rfl⟩) ?_
      refine wpG_nil (fun w4' hl4' => ?_)
      refine fin_is ?_
      refine fin_is ?_
      refine fin_is ?_
      refine fin_is ?_
      refine fin_is ?_
      refine fin_is ?_
      refine fin_is ?_
      refine fin_is ?_
      refine fin_is ?_
      refine fin_is ?_
      refine fin_nil ?_
      subst ha0
      clear k4 k2 k11 k1 k12 ks
      simp only [Act.put, List.setIfInBounds_toArray, List.set_cons_succ, List.set_cons_zero]
      have hb4 := hba.out.later (hl4.trans hl4')
      have hl5 := hl.trans (hl4.trans hl4')
      replace hb4 := Lib.hid hb4
      clear hba hl hl4 hl4' BK WK hix
      go_wp2_with ((with_reducible refine (bwO_calls _ _ _ X _ hb4.out (by rw [hszk, hw32]; omega) hl5.size).mono ?_); rintro e w6 ⟨rfl, hb6, hB6, -⟩)
      rw [← hsvk] at hb6
      replace hb6 := Lib.hid hb6
      have hl6 : Later W1 w6 := Below.trans hl5 hB6
      clear hb4 hl5 hB6 hsvk
      go_roundg (67 - k)
      case measure => go_light; rw [hkg.out]; omega
      case rel => go_light; exact ⟨k + 1, by go_num, by omega, by omega, hb6.out, hl6⟩
    · obtain rfl : k = 67 := by omega
      have hS := hsz0.out 67
      generalize hSe : SV 67 = S at *
      replace hSe := Lib.hid hSe
      go_wp2_with (first | ((with_reducible apply wl_loadW (ty := 31) (Later.whole hl h1) Try.underlying31); rfl; rfl; rfl; exact hsz) | ((with_reducible refine (LC.out _).mono ?_); rintro e w7 ⟨⟨v, rfl, hv⟩, hb7⟩; replace hba := Lib.hid (hba.out.later hb7); replace hl := Later.trans hl hb7))
      have hsib : ∀ h, (sibCat S ND q h).size = 2148 + 32 * h := by
        intro h
        induction h with
        | zero => exact hS
        | succ h ih => rw [sibCat, ByteArray.size_append, ih, hnz.out]; omega
      have hc0 : sibCat S ND q 0 = S := rfl
      have hcs : ∀ h, sibCat S ND q (h + 1) = sibCat S ND q h ++ ND h (sibN (q / 2 ^ h)) := fun _ => rfl
      generalize hSCe : sibCat S ND q = SC at *
      replace hSCe := Lib.hid hSCe
      have hba0 : BAt W1.heap.size W1.heap.size (SC 0) w7 := by rw [hc0]; exact hba.out
      have hv0 := hv.base (Nat.zero_le _)
      clear hba hc0 hv hb7
      replace hsib := Lib.hid hsib
      replace hcs := Lib.hid hcs
      go_loopg [13, 14] 9 (fun kg a x wr => ∃ (h n : Nat), a = .int .i64 (q / 2 ^ h : Nat) ∧ TextRow 9 0 ((List.range n).map (ND h)) x wr ∧ n * 2 ^ h = 8 ∧ h ≤ 3 ∧ kg = n + 1 ∧ BAt W1.heap.size W1.heap.size (SC h) wr ∧ Later W1 wr)
      case atStart => exact ⟨0, 8, by simp, hv0, rfl, by omega, rfl, hba0, hl⟩
      case round =>
        clear hv0 hba0 hl
        obtain ⟨h, n, rfl, hv, hn, hh, hkg2, hba, hl⟩ := hrel
        replace hkg2 := Lib.hid hkg2
        obtain ⟨A3, c3, hv3, hc3, hR3⟩ := textRow_read hv (by
          have : n * 1 ≤ n * 2 ^ h := Nat.mul_le_mul_left n Nat.one_le_two_pow
          simp; omega)
        simp only [List.length_map, List.length_range] at hc3 hv3
        subst hv3
        by_cases hlt2 : 1 < n
        · obtain ⟨m, rfl, hm⟩ : ∃ m, n = 2 * m ∧ m * 2 ^ (h + 1) = 8 := by
            match h, hh with
            | 0, _ => exact ⟨4, by omega, by decide⟩
            | 1, _ => exact ⟨2, by omega, by decide⟩
            | 2, _ => exact ⟨1, by omega, by decide⟩
            | 3, _ => omega
          have hh2 : h + 1 ≤ 3 := by
            rcases Nat.lt_or_ge h 3 with h' | h'
            · omega
            · obtain rfl : h = 3 := by omega
              omega
          have hm8 : m ≤ 8 := by
            have : m * 1 ≤ m * 2 ^ (h + 1) := Nat.mul_le_mul_left m (Nat.one_le_two_pow)
            omega
          have hqa : q / 2 ^ h < 2 * m := by
            rw [Nat.div_lt_iff_lt_mul (Nat.two_pow_pos h), hn]
            exact hq
          have hqs : q / 2 ^ (h + 1) = q / 2 ^ h / 2 := by rw [Nat.pow_succ, Nat.div_div_eq_div_mul]
          have hcs1 := hcs.out h
          have hsz1 := hsib.out h
          have hzn := hnz.out h (sibN (q / 2 ^ h))
          obtain ⟨ad, rfl, hadl, cc⟩ := rows_at hR3 (i := sibN (q / 2 ^ h)) (sibN_lt _ _ hqa)
          have UU := fun w hr => UC.out h m hm8 (some ad) c3 w hc3 hr
          have hat8 : q / 2 ^ h < 8 := Nat.lt_of_le_of_lt (Nat.div_le_self q (2 ^ h)) hq
          have hx1 := xor1 (q / 2 ^ h) hat8
          have hsl := sibN_lt _ _ hqa
          generalize ND h (sibN (q / 2 ^ h)) = NX at *
          generalize hat2 : q / 2 ^ (h + 1) = at2 at *
          replace hat2 := Lib.hid hat2
          generalize q / 2 ^ h = at1 at *
          generalize sibN at1 = sx at *
          generalize hS2 : SC (h + 1) = S2 at *
          replace hS2 := Lib.hid hS2
          generalize SC h = S1 at *
          have y1 : (at1 : Int) / 2 = (at2 : Int) := by omega
          clear hqs
          have q1' : (1 < 2 * m) = True := eq_true hlt2
          have qs1 : ((sx : Int) < ((2 * m : Nat) : Int)) = True := eq_true (by omega)
          have wsx : IntKind.i64.wrap (sx : Int) = sx := by simp [IntKind.wrap, IntKind.signed, IntKind.bits]; omega
          replace UU := Lib.hid UU
          replace hn := Lib.hid hn
          replace hm := Lib.hid hm
          replace hv := Lib.hid hv
          replace hba := Lib.hid hba
          clear hqa hR3
          generalize hn2 : 2 * m = n2 at *
          have h2m : n2 ≤ 8 := by
            have : n2 * 1 ≤ n2 * 2 ^ h := Nat.mul_le_mul_left n2 Nat.one_le_two_pow
            have := hn.out
            omega
          go_wp2_with (first | ((with_reducible refine (bwO_calls _ _ S1 NX _ hba.out (by rw [hsz1, hzn]; omega) hl.size).mono ?_); rintro e w6 ⟨rfl, hb6, hB6, hO6⟩; have hv6 := (hv.out).others hba.out hO6; have hl6 : Later W1 w6 := Below.trans hl hB6; have hR6 := (textRow_rows hv6 (by simp; omega)).2) | ((with_reducible apply wl_loadW (ty := 31) (Later.whole hl6 h1) Try.underlying31); rfl; rfl; rfl; exact hsz) | ((with_reducible refine (UU.out _ hR6).mono ?_); rintro e w8 ⟨⟨v8, rfl, hv8⟩, hb8⟩))
          have hb9 := hb6.later hb8
          rw [← hcs1] at hb9
          have hl9 := Later.trans hl6 hb8
          have hv9 := hv8.base (Nat.zero_le _)
          clear hb6 hb8 hv8 hl6 hR6 hv6 hO6 hB6 hba hv hl UU
          go_roundg (m + 1)
          case measure => go_light; rw [hkg2.out]; omega
          case rel => go_light; exact ⟨h + 1, m, by first | rfl | rw [hat2.out], hv9, hm.out, hh2, rfl, by rw [hS2.out]; exact hb9, hl9⟩
        · obtain rfl : n = 1 := by
            rcases Nat.eq_zero_or_pos n with h0 | h0
            · subst h0; omega
            · omega
          obtain rfl : h = 3 := by
            match h, hh with
            | 0, _ => omega
            | 1, _ => omega
            | 2, _ => omega
            | 3, _ => rfl
          have hs3 : (SC 3).size ≠ 0 := by rw [hsib.out]; decide
          generalize hS3 : SC 3 = S3 at *
          replace hS3 := Lib.hid hS3
          replace hba := Lib.hid hba
          go_wp2_with ((with_reducible refine (bs_calls _ _ S3 _ hba.out hs3).mono ?_); rintro e w9 ⟨rfl, -, hB9⟩)
          go_returns
          go_light
          have hl9 : Later W1 w9 := Below.trans hl hB9
          have e3 : sibCat (SV 67) ND q 3 = S3 := by rw [hSe.out, hSCe.out, hS3.out]
          rw [e3]
          exact ⟨by first | rfl | kernel_rfl, by first | exact below_next' (hG ▸ hB1) hl9 | (subst hG; exact below_next' hB1 hl9)⟩
end Go.Proofs.Yteipcmbbonfklaa
