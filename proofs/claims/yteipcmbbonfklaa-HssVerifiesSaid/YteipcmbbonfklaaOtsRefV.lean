/- Signatures verified: the reference's. Conditions: messages of at most 2^30 bytes. -/
import Derived.Test.YteipcmbbonfklaaOtsPlain
namespace Go.Proofs.Yteipcmbbonfklaa
open Go.RowKit
set_option linter.unusedVariables false
set_option linter.unusedSimpArgs false
theorem first4 (s : ByteArray) (hs : s.size = 2244) : beV (bytesN (s.extract 0 4)) = (((bytesN s).getD 0 0 * 256 + (bytesN s).getD 1 0) * 256 + (bytesN s).getD 2 0) * 256 + (bytesN s).getD 3 0 := by
  have hl : (bytesN s).length = 2244 := by rw [bytesN_length, hs]
  have e : bytesN (s.extract 0 4) = (bytesN s).take 4 := by
    unfold bytesN
    rw [ba_extract, List.drop_zero, Nat.sub_zero, List.map_take]
  rw [e]
  match h : bytesN s with
  | a :: b :: c :: d :: r => simp [beV]
  | [] => rw [h] at hl; simp at hl
  | [a] => rw [h] at hl; simp at hl
  | [a, b] => rw [h] at hl; simp at hl
  | [a, b, c] => rw [h] at hl; simp at hl
def verR (pub msg s : ByteArray) : Bool := decide (s.size = 2244) && decide (beV (bytesN (s.extract 0 4)) < 8) && decide (climb s (beV (bytesN (s.extract 0 4))) (cutE s (beV (bytesN (s.extract 0 4))) (dgsN (beV (bytesN (s.extract 0 4))) msg) 67) 3 = pub)
theorem byte_at (s : ByteArray) (j : Nat) (hj : j < s.size) : s[j].toNat = (bytesN s).getD j 0 := by
  unfold bytesN
  rw [List.getD_eq_getElem?_getD, List.getElem?_map, List.getElem?_eq_getElem (by simpa using hj)]
  rfl
set_option maxHeartbeats 2000000 in
set_option maxRecDepth 100000 in
theorem refVerify_bad (pub msg s : ByteArray) (h : s.size ≠ 2244 ∨ 8 ≤ beV (bytesN (s.extract 0 4))) (w : World) :
    Calls Try.prog 77 #[.string pub, .string msg, .string s] w fun e w' => e = .returned (.bool false) ∧ Below w.heap.size w w' := by
  by_cases hs : s.size = 2244
  · have h8 := h.resolve_left (fun k => k hs)
    rw [first4 s hs] at h8
    have i0 := byte_at s 0 (by omega)
    have i1 := byte_at s 1 (by omega)
    have i2 := byte_at s 2 (by omega)
    have i3 := byte_at s 3 (by omega)
    generalize (bytesN s).getD 0 0 = b0 at *
    generalize (bytesN s).getD 1 0 = b1 at *
    generalize (bytesN s).getD 2 0 = b2 at *
    generalize (bytesN s).getD 3 0 = b3 at *
    clear h
    by_cases h0 : 0 < b0
    · have q0 : (0 < b0) = True := eq_true h0
      have p0 : ((0 : Int) < b0) = True := eq_true (by omega)
      go_enter Try.func77, Try.ntmps77
      go_wp2_with (fail)
      go_returns
      go_light
      exact ⟨rfl, Later.refl w⟩
    · obtain rfl : b0 = 0 := by omega
      by_cases h1 : 0 < b1
      · have q1 : (0 < b1) = True := eq_true h1
        have p1 : ((0 : Int) < b1) = True := eq_true (by omega)
        go_enter Try.func77, Try.ntmps77
        go_wp2_with (fail)
        go_returns
        go_light
        exact ⟨rfl, Later.refl w⟩
      · obtain rfl : b1 = 0 := by omega
        by_cases h2 : 0 < b2
        · have q2 : (0 < b2) = True := eq_true h2
          have p2 : ((0 : Int) < b2) = True := eq_true (by omega)
          go_enter Try.func77, Try.ntmps77
          go_wp2_with (fail)
          go_returns
          go_light
          exact ⟨rfl, Later.refl w⟩
        · obtain rfl : b2 = 0 := by omega
          have q3 : (7 < b3) = True := eq_true (by omega)
          have p3 : ((7 : Int) < b3) = True := eq_true (by omega)
          go_enter Try.func77, Try.ntmps77
          go_wp2_with (fail)
          go_returns
          go_light
          exact ⟨rfl, Later.refl w⟩
  · have qs : ((s.size : Int) == 2244) = false := by rw [beq_eq_false_iff_ne]; omega
    have qs2 : ((s.size : Int) = 2244) = False := eq_false (by omega)
    go_enter Try.func77, Try.ntmps77
    go_wp2_with (fail)
    go_returns
    go_light
    exact ⟨rfl, Later.refl w⟩
set_option maxHeartbeats 8000000 in
set_option maxRecDepth 100000 in
theorem refVerify_ok (pub msg s : ByteArray) (hm : msg.size ≤ 1073741824) (hs : s.size = 2244) (q : Nat) (hqv : beV (bytesN (s.extract 0 4)) = q) (hq : q < 8) (w : World) :
    Calls Try.prog 77 #[.string pub, .string msg, .string s] w fun e w' => e = .returned (.bool (decide (climb s q (cutE s q (dgsN q msg) 67) 3 = pub))) ∧ Below w.heap.size w w' := by
  rw [first4 s hs] at hqv
  have i0 := byte_at s 0 (by omega)
  have i1 := byte_at s 1 (by omega)
  have i2 := byte_at s 2 (by omega)
  have i3 := byte_at s 3 (by omega)
  have hb0 : (bytesN s).getD 0 0 = 0 := by omega
  have hb1 : (bytesN s).getD 1 0 = 0 := by omega
  have hb2 : (bytesN s).getD 2 0 = 0 := by omega
  have hb3 : (bytesN s).getD 3 0 = q := by omega
  rw [hb0] at i0
  rw [hb1] at i1
  rw [hb2] at i2
  rw [hb3] at i3
  clear hb0 hb1 hb2 hb3 hqv
  have NQ := fun w => rnum_calls (q : Int) w
  have NJ := fun (j : Nat) w => rnum_calls (j : Int) w
  have DC := fun w => refDigits_calls q (by omega) msg hm w
  have hcs := cutE_succ s q (dgsN q msg)
  have hcz := cutE_size s hs q (dgsN q msg)
  have hdl : (dgsN q msg).length = 67 := dgsL_length _
  have hd15 : ∀ x ∈ dgsN q msg, x ≤ 15 := dgsL_le (bytesN_lt _)
  have hget : ∀ k, k < 67 → (dgsN q msg).getD k 0 ≤ 15 := fun k hk => by
    rw [List.getD_eq_getElem?_getD, List.getElem?_eq_getElem (show k < (dgsN q msg).length by omega)]
    exact hd15 _ (List.getElem_mem _)
  have hz54 : (arr .i64 (dgsN q msg)).size = Try.zeroCells175.size := by rw [arr_size, hdl]; kernel_rfl
  have ho54 : (arr .i64 (dgsN q msg)).toList.all (·.oneCell') = true := by unfold arr; simp [List.all_eq_true, Value.oneCell']
  have n4 := numW_size (q : Int)
  have n6 := fun (j : Nat) => numW_size (j : Int)
  have z1 : ((⟨#[112]⟩ : ByteArray) ++ numW q).size = 1 + (numW q).size := ByteArray.size_append
  have LC := fun w => refH03_calls (((⟨#[112]⟩ : ByteArray) ++ numW q) ++ cutE s q (dgsN q msg) 67) (by rw [ByteArray.size_append, z1, n4, hcz 67 (Nat.le_refl _)]; omega) w
  have eS : shaN (((⟨#[112]⟩ : ByteArray) ++ numW q) ++ cutE s q (dgsN q msg) 67) = climb s q (cutE s q (dgsN q msg) 67) 0 := rfl
  rw [eS] at LC
  have y1 : ((⟨#[99]⟩ : ByteArray) ++ numW q).size = 1 + (numW q).size := ByteArray.size_append
  have LK : ∀ (i j : Nat) (y : ByteArray), y.size ≤ 1000 → ∀ w, Calls Try.prog 121 #[.string (((((⟨#[99]⟩ : ByteArray) ++ numW q) ++ numW i) ++ numW j) ++ y)] w fun e w' => e = .returned (.string (linkN q i j y)) ∧ Below w.heap.size w w' := by
    intro i j y hy w
    refine refH03_calls (((((⟨#[99]⟩ : ByteArray) ++ numW q) ++ numW i) ++ numW j) ++ y) ?_ w
    rw [ByteArray.size_append, ByteArray.size_append, ByteArray.size_append, y1, n4, n6 i, n6 j]
    omega
  have hws : ∀ (i a : Nat) (x : ByteArray) (k : Nat), wkN q i a x (k + 1) = linkN q i (a + k) (wkN q i a x k) := fun _ _ _ _ => rfl
  have hw0 : ∀ (i a : Nat) (x : ByteArray), wkN q i a x 0 = x := fun _ _ _ => rfl
  have hwz := fun (i a : Nat) (x : ByteArray) (hx : x.size = 32) (k : Nat) => wk32 q i a x hx k
  have PC : ∀ (a b : ByteArray), a.size = 32 → b.size = 32 → ∀ w, Calls Try.prog 121 #[.string (((⟨#[116]⟩ : ByteArray) ++ a) ++ b)] w fun e w' => e = .returned (.string (pairO a b)) ∧ Below w.heap.size w w' := by
    intro a b ha hb w
    refine refH03_calls (((⟨#[116]⟩ : ByteArray) ++ a) ++ b) ?_ w
    rw [ByteArray.size_append, ByteArray.size_append, ha, hb]
    decide
  have hks : ∀ k, climb s q (cutE s q (dgsN q msg) 67) (k + 1) = if q / 2 ^ k % 2 = 0 then pairO (climb s q (cutE s q (dgsN q msg) 67) k) (s.extract (4 + 32 * (67 + k)) (36 + 32 * (67 + k))) else pairO (s.extract (4 + 32 * (67 + k)) (36 + 32 * (67 + k))) (climb s q (cutE s q (dgsN q msg) 67) k) := fun k => by
    rw [show 4 + 32 * (67 + k) = 2148 + 32 * k by omega, show 36 + 32 * (67 + k) = 2180 + 32 * k by omega]
    rfl
  have hkz := climb_size s q (cutE s q (dgsN q msg) 67)
  have hcz32 : ∀ k, k < 70 → (s.extract (4 + 32 * k) (36 + 32 * k)).size = 32 := fun k hk => by rw [show 36 + 32 * k = 4 + 32 * k + 32 by omega]; exact chunk_size s hs _ (by omega)
  generalize hP0 : ((⟨#[112]⟩ : ByteArray) ++ numW q) = P0 at *
  have hP0z : P0.size = 5 := by omega
  have hpz : ∀ k, k ≤ 67 → (P0 ++ cutE s q (dgsN q msg) k).size = 5 + 32 * k := fun k hk => by rw [ByteArray.size_append, hcz k hk, hP0z]
  have hp0 : P0 ++ cutE s q (dgsN q msg) 0 = P0 := by
    show P0 ++ (⟨#[]⟩ : ByteArray) = P0
    apply ba_ext
    rw [ba_append]
    simp
  have hps : ∀ k, P0 ++ cutE s q (dgsN q msg) (k + 1) = (P0 ++ cutE s q (dgsN q msg) k) ++ wkN q k ((dgsN q msg).getD k 0) (s.extract (4 + 32 * k) (36 + 32 * k)) (15 - (dgsN q msg).getD k 0) := fun k => by rw [hcs, ByteArray.append_assoc]
  generalize hPPe : (fun k => P0 ++ cutE s q (dgsN q msg) k) = PP
  have ePP : ∀ k, P0 ++ cutE s q (dgsN q msg) k = PP k := fun k => by rw [← hPPe]
  simp only [ePP] at hpz hp0 hps LC
  generalize hKe : climb s q (cutE s q (dgsN q msg) 67) = KL at *
  generalize dgsN q msg = D at *
  generalize wkN q = WK at *
  generalize linkN q = LN at *
  clear hcs hcz hd15 eS z1 y1 hPPe ePP
  replace NQ := Lib.hid NQ
  replace NJ := Lib.hid NJ
  replace DC := Lib.hid DC
  replace hget := Lib.hid hget
  replace LC := Lib.hid LC
  replace LK := Lib.hid LK
  replace hws := Lib.hid hws
  replace hw0 := Lib.hid hw0
  replace hwz := Lib.hid hwz
  replace PC := Lib.hid PC
  replace hks := Lib.hid hks
  replace hkz := Lib.hid hkz
  replace hcz32 := Lib.hid hcz32
  replace hpz := Lib.hid hpz
  replace hp0 := Lib.hid hp0
  replace hps := Lib.hid hps
  replace n6 := Lib.hid n6
  replace n4 := Lib.hid n4
  replace hdl := Lib.hid hdl
  replace hP0z := Lib.hid hP0z
  replace hKe := Lib.hid hKe
  have nolen1 : (9223372036854775807 < 1 + (numW (q : Int)).size) = False := eq_false (by have := n4.out; omega)
  have wq : IntKind.i64.wrap (q : Int) = q := by simp [IntKind.wrap, IntKind.signed, IntKind.bits]; omega
  have q7 : ((7 : Int) < q) = False := eq_false (by omega)
  have q7' : (7 < q) = False := eq_false (by omega)
  go_enter Try.func77, Try.ntmps77
  go_wp2_with (first | ((with_reducible refine (DC.out _).mono ?_); rintro e w3 ⟨rfl, hb3⟩; have hB : Later w w3 := hb3; have hZ := Whole.new w3 175 Try.zeroCells175; have hG3 := hB.size; replace hB := hB.alloc (.cells Try.zeroCells175 175)) | ((with_reducible apply wl_storeW (ty := 175) hZ); rfl; rfl; rfl; kernel_rfl; exact hz54; exact ho54; intro wS hT hgS hzS; replace hB := below_only' hB hgS hG3; clear hgS hzS hZ) | ((with_reducible refine (NQ.out _).mono ?_); rintro e w2 ⟨rfl, hb2⟩; replace hB := Below.trans hB (Below.mono hb2 hB.size)))
  try rw [hP0]
  have hT2 := Later.whole hb2 hT
  clear hb2 hb3 hT hP0
  generalize hG : w3.heap.size = G at *
  have hl0 : Later w2 w2 := Later.refl w2
  go_loopg [9, 10, 11, 12] 68 (fun kg e x y j wr => ∃ k : Nat, x = .int .i64 k ∧ k ≤ 67 ∧ kg = 68 - k ∧ e = .string (PP k) ∧ Later w2 wr)
  case atStart => exact ⟨0, rfl, by omega, rfl, by rw [hp0.out], hl0⟩
  case round =>
    clear hl0
    obtain ⟨k, rfl, hk, hkg, rfl, hl⟩ := hrel
    replace hkg := Lib.hid hkg
    generalize wr = V at *
    by_cases hlt : k < 67
    · have hg15 := hget.out k hlt
      have hc32 := hcz32.out k (by omega)
      have hps1 := hps.out k
      have hpz1 := hpz.out k (by omega)
      have ec := arr_cell (Later.whole hl hT2) (i := k) (by have := hdl.out; omega)
      have qk : ((k : Int) < 67) = True := eq_true (by omega)
      have x1 : IntKind.i64.wrap (32 * (k : Int)) = ((32 * k : Nat) : Int) := by simp [IntKind.wrap, IntKind.signed, IntKind.bits]; omega
      have x2 : IntKind.i64.wrap (4 + ((32 * k : Nat) : Int)) = ((4 + 32 * k : Nat) : Int) := by simp [IntKind.wrap, IntKind.signed, IntKind.bits]; omega
      have x3 : IntKind.i64.wrap (36 + ((32 * k : Nat) : Int)) = ((36 + 32 * k : Nat) : Int) := by simp [IntKind.wrap, IntKind.signed, IntKind.bits]; omega
      have hwz1 := fun j => hwz.out k (D.getD k 0) (s.extract (4 + 32 * k) (36 + 32 * k)) hc32 j
      have hw01 := hw0.out k (D.getD k 0) (s.extract (4 + 32 * k) (36 + 32 * k))
      have hws1 := hws.out k (D.getD k 0) (s.extract (4 + 32 * k) (36 + 32 * k))
      have nI := n6.out k
      generalize hFe : WK k (D.getD k 0) (s.extract (4 + 32 * k) (36 + 32 * k)) = F at *
      generalize hdk : D.getD k 0 = dk at *
      have ha1 : 4 + 32 * k ≤ 36 + 32 * k := by omega
      have ha2 : 36 + 32 * k ≤ 2244 := by omega
      have hm32 : 32 * k ≤ 2144 := by omega
      generalize 36 + 32 * k = b at *
      generalize 4 + 32 * k = a at *
      generalize 32 * k = m32 at *
      have r1 : ((a : Int) ≤ b) = True := eq_true (by omega)
      have r2 : ((b : Int) ≤ 2244) = True := eq_true (by omega)
      have r3 : (a ≤ b) = True := eq_true ha1
      have r4 : (b ≤ 2244) = True := eq_true ha2
      have r5 : IntKind.i64.wrap (a : Int) = a := by simp [IntKind.wrap, IntKind.signed, IntKind.bits]; omega
      have r6 : IntKind.i64.wrap (b : Int) = b := by simp [IntKind.wrap, IntKind.signed, IntKind.bits]; omega
      generalize hY : PP (k + 1) = Y at *
      replace hY := Lib.hid hY
      generalize PP k = P at *
      have nolen6 : (9223372036854775807 < P.size + (F (15 - dk)).size) = False := eq_false (by have := hwz1 (15 - dk); omega)
      replace hwz1 := Lib.hid hwz1
      replace hw01 := Lib.hid hw01
      replace hws1 := Lib.hid hws1
      replace hps1 := Lib.hid hps1
      replace hpz1 := Lib.hid hpz1
      replace hFe := Lib.hid hFe
      replace hdk := Lib.hid hdk
      replace nI := Lib.hid nI
      go_wp2_with (fail)
      go_loopg [11, 12] 16 (fun kg2 y j wr2 => ∃ n : Nat, j = .int .i64 ((dk + n : Nat) : Int) ∧ dk + n ≤ 15 ∧ kg2 = 16 - n ∧ y = .string (F n) ∧ Later V wr2)
      case atStart => exact ⟨0, rfl, by omega, rfl, by rw [hw01.out], Later.refl V⟩
      case round =>
        obtain ⟨n, rfl, hn, hkg2, rfl, hl2⟩ := hrel
        replace hkg2 := Lib.hid hkg2
        by_cases hln : dk + n < 15
        · have qln : (((dk + n : Nat) : Int) < 15) = True := eq_true (by omega)
          have z32 := hwz1.out n
          have LL := fun w => LK.out k (dk + n) (F n) (by omega) w
          have hws2 := hws1.out n
          rw [← hws2] at LL
          have nJ := n6.out (dk + n)
          have NI := NJ.out k
          have NK := NJ.out (dk + n)
          have wj : IntKind.i64.wrap (((dk + n : Nat) : Int) + 1) = ((dk + n + 1 : Nat) : Int) := by simp [IntKind.wrap, IntKind.signed, IntKind.bits]; omega
          generalize hFn : F (n + 1) = F1 at *
          replace hFn := Lib.hid hFn
          generalize F n = F0 at *
          generalize hj : dk + n = j at *
          replace hj := Lib.hid hj
          have nolen7 : (9223372036854775807 < 1 + (numW (q : Int)).size + (numW (k : Int)).size) = False := eq_false (by have := n4.out; have := nI.out; omega)
          have nolen8 : (9223372036854775807 < 1 + (numW (q : Int)).size + (numW (k : Int)).size + (numW (j : Int)).size) = False := eq_false (by have := n4.out; have := nI.out; omega)
          have nolen9 : (9223372036854775807 < 1 + (numW (q : Int)).size + (numW (k : Int)).size + (numW (j : Int)).size + F0.size) = False := eq_false (by have := n4.out; have := nI.out; omega)
          replace z32 := Lib.hid z32
          replace nJ := Lib.hid nJ
          replace NI := Lib.hid NI
          replace NK := Lib.hid NK
          replace LL := Lib.hid LL
          replace hws2 := Lib.hid hws2
          go_wp2_with (first | ((with_reducible refine (NQ.out _).mono ?_); rintro e w4 ⟨rfl, hb4⟩; replace hl2 := Later.trans hl2 hb4) | ((with_reducible refine (NI.out _).mono ?_); rintro e w5 ⟨rfl, hb5⟩; replace hl2 := Later.trans hl2 hb5) | ((with_reducible refine (NK.out _).mono ?_); rintro e w6 ⟨rfl, hb6⟩; replace hl2 := Later.trans hl2 hb6) | ((with_reducible refine (LL.out _).mono ?_); rintro e w7 ⟨rfl, hb7⟩; replace hl2 := Later.trans hl2 hb7))
          go_roundg (15 - n)
          case measure => go_light; rw [hkg2.out]; have := hj.out; omega
          case rel => go_light; exact ⟨n + 1, by rw [show dk + (n + 1) = j + 1 by have := hj.out; omega]; first | rfl | go_num, by have := hj.out; omega, by have := hj.out; omega, by rw [hFn.out], hl2⟩
        · have qln : (((dk + n : Nat) : Int) < 15) = False := eq_false (by omega)
          have en : n = 15 - dk := by omega
          rw [en] at *
          generalize F (15 - dk) = FX at *
          have hln2 := Later.trans hl hl2
          go_wp2_with (fail)
          go_roundg (67 - k)
          case measure => go_light; rw [hkg.out]; omega
          case rel => go_light; exact ⟨k + 1, by go_num, by omega, by omega, by rw [hY.out, hps1.out], hln2⟩
    · obtain rfl : k = 67 := by omega
      have L0 := LC.out
      generalize PP 67 = P67 at *
      go_wp2_with ((with_reducible refine (L0 _).mono ?_); rintro e w4 ⟨rfl, hb4⟩; replace hl := Later.trans hl hb4)
      go_loopg [13, 14, 15, 16] 4 (fun kg3 y a x o wr => ∃ h : Nat, x = .int .i64 h ∧ h ≤ 3 ∧ kg3 = 4 - h ∧ y = .string (KL h) ∧ a = .int .i64 (q / 2 ^ h : Nat) ∧ Later w2 wr)
      case atStart => exact ⟨0, rfl, by omega, rfl, rfl, by simp, hl⟩
      case round =>
        clear hl
        obtain ⟨h, rfl, hh, hkg3, rfl, rfl, hl⟩ := hrel
        replace hkg3 := Lib.hid hkg3
        by_cases hlt3 : h < 3
        · have hc32 := hcz32.out (67 + h) (by omega)
          have hk32 := hkz.out h
          have hks1 := hks.out h
          have P1 := fun w => PC.out (KL h) (s.extract (4 + 32 * (67 + h)) (36 + 32 * (67 + h))) hk32 hc32 w
          have P2 := fun w => PC.out (s.extract (4 + 32 * (67 + h)) (36 + 32 * (67 + h))) (KL h) hc32 hk32 w
          have qh : ((h : Int) < 3) = True := eq_true (by omega)
          have x1 : IntKind.i64.wrap (32 * (h : Int)) = ((32 * h : Nat) : Int) := by simp [IntKind.wrap, IntKind.signed, IntKind.bits]; omega
          have x2 : IntKind.i64.wrap (2148 + ((32 * h : Nat) : Int)) = ((4 + 32 * (67 + h) : Nat) : Int) := by simp [IntKind.wrap, IntKind.signed, IntKind.bits]; omega
          have x3 : IntKind.i64.wrap (2180 + ((32 * h : Nat) : Int)) = ((36 + 32 * (67 + h) : Nat) : Int) := by simp [IntKind.wrap, IntKind.signed, IntKind.bits]; omega
          have ha1 : 4 + 32 * (67 + h) ≤ 36 + 32 * (67 + h) := by omega
          have ha2 : 36 + 32 * (67 + h) ≤ 2244 := by omega
          have hm32 : 32 * h ≤ 64 := by omega
          have hqs : q / 2 ^ (h + 1) = q / 2 ^ h / 2 := by rw [Nat.pow_succ, Nat.div_div_eq_div_mul]
          generalize hK1 : KL (h + 1) = K1 at *
          replace hK1 := Lib.hid hK1
          generalize KL h = K0 at *
          generalize hCe : s.extract (4 + 32 * (67 + h)) (36 + 32 * (67 + h)) = C at *
          generalize 36 + 32 * (67 + h) = b at *
          generalize 4 + 32 * (67 + h) = a at *
          generalize 32 * h = m32 at *
          have r1 : ((a : Int) ≤ b) = True := eq_true (by omega)
          have r2 : ((b : Int) ≤ 2244) = True := eq_true (by omega)
          have r3 : (a ≤ b) = True := eq_true ha1
          have r4 : (b ≤ 2244) = True := eq_true ha2
          have r5 : IntKind.i64.wrap (a : Int) = a := by simp [IntKind.wrap, IntKind.signed, IntKind.bits]; omega
          have r6 : IntKind.i64.wrap (b : Int) = b := by simp [IntKind.wrap, IntKind.signed, IntKind.bits]; omega
          have hqb : q / 2 ^ h < 8 := Nat.lt_of_le_of_lt (Nat.div_le_self q (2 ^ h)) hq
          generalize hat2 : q / 2 ^ (h + 1) = at2 at *
          replace hat2 := Lib.hid hat2
          generalize q / 2 ^ h = at1 at *
          have y1 : (at1 : Int) / 2 = (at2 : Int) := by omega
          have y2 : (at1 : Int).tdiv 2 = (at2 : Int) := by rw [Int.tdiv_eq_ediv_of_nonneg (Int.natCast_nonneg _)]; omega
          have nolen7 : (9223372036854775807 < 1 + K0.size) = False := eq_false (by omega)
          have nolen8 : (9223372036854775807 < 1 + K0.size + C.size) = False := eq_false (by omega)
          have nolen9 : (9223372036854775807 < 1 + C.size) = False := eq_false (by omega)
          have nolen10 : (9223372036854775807 < 1 + C.size + K0.size) = False := eq_false (by omega)
          clear hqs
          replace hk32 := Lib.hid hk32
          replace hc32 := Lib.hid hc32
          by_cases hp : at1 % 2 = 0
          · rw [if_pos hp] at hks1
            rw [← hks1] at P1
            have p1 : (at1 : Int).tmod 2 = 0 := by rw [Int.tmod_eq_emod_of_nonneg (Int.natCast_nonneg _)]; omega
            have p2 : (at1 : Int) % 2 = 0 := by omega
            replace P1 := Lib.hid P1
            clear P2 hks1 hp
            go_wp2_with ((with_reducible refine (P1.out _).mono ?_); rintro e w5 ⟨rfl, hb5⟩; replace hl := Later.trans hl hb5)
            go_roundg (3 - h)
            case measure => go_light; rw [hkg3.out]; omega
            case rel => go_light; exact ⟨h + 1, by go_num, by omega, by omega, by rw [hK1.out], by rw [hat2.out], hl⟩
          · rw [if_neg hp] at hks1
            rw [← hks1] at P2
            have p1 : (at1 : Int).tmod 2 = 1 := by rw [Int.tmod_eq_emod_of_nonneg (Int.natCast_nonneg _)]; omega
            have p2 : (at1 : Int) % 2 = 1 := by omega
            replace P2 := Lib.hid P2
            clear P1 hks1 hp
            go_wp2_with ((with_reducible refine (P2.out _).mono ?_); rintro e w5 ⟨rfl, hb5⟩; replace hl := Later.trans hl hb5)
            go_roundg (3 - h)
            case measure => go_light; rw [hkg3.out]; omega
            case rel => go_light; exact ⟨h + 1, by go_num, by omega, by omega, by rw [hK1.out], by rw [hat2.out], hl⟩
        · obtain rfl : h = 3 := by omega
          have hBf := Later.trans (hB : Later w w2) hl
          go_wp2_with (fail)
          go_returns
          go_light
          exact ⟨ret_bool (by rw [beqL]), hBf⟩
end Go.Proofs.Yteipcmbbonfklaa
