/- The reference's Sum. Condition: at most 2^40 bytes. -/
import Derived.Test.YtknjbkbbhgjnlaaSha0
import Derived.Test.YtknjbkbbhgjnlaaShaR2
import Derived.OwnWalk
import Derived.StillTailTactics
import Derived.Test.YtknjbkbbhgjnlaaToolA
namespace Go.Proofs.Ytknjbkbbhgjnlaa
open Go.RowKit
set_option linter.unusedVariables false
set_option linter.unusedSimpArgs false
theorem OwnB.form {e : TypeId} {W : World} {base : Nat} {v : Value} {bs : List Nat} (h : OwnB e W base v bs) : ∃ g cap, v = .slice (some ⟨g, 0, none⟩) bs.length cap ∧ base ≤ g ∧ g < W.heap.size := by
  obtain ⟨g, cap, cur, fr, rfl, hb, hg, _⟩ := h
  exact ⟨g, cap, rfl, hb, (Array.getElem?_eq_some_iff.1 hg).1⟩
theorem below_own' {w V V' : World} {e : TypeId} {o : Obj} {v : Value} {bs : List Nat} (hB : Below w.heap.size w V) (ho : OwnB e V w.heap.size v bs) (hg : (V.alloc o).grownBy V' v.ownBlock) : Below w.heap.size w V' :=
  ⟨hg.os.trans hB.os, hg.tape.trans hB.tape, hg.output.trans hB.output, Nat.le_trans hB.size (Nat.le_trans (by simp) hg.size), fun k hk => (hg.block k (by simp; have := hB.size; omega) (fun q => by have := (ho.lt k q.symm).1; omega)).trans ((Below.heap_alloc V o k (Nat.lt_of_lt_of_le hk hB.size)).trans (hB.block k hk))⟩
def bytesN (s : ByteArray) : List Nat := s.data.toList.map (·.toNat)
theorem bytesN_length (s : ByteArray) : (bytesN s).length = s.size := by simp [bytesN]
theorem bytesN_lt (s : ByteArray) : ∀ x ∈ bytesN s, x < 256 := by
  intro x hx
  simp only [bytesN, List.mem_map] at hx
  obtain ⟨u, _, rfl⟩ := hx
  exact u.toNat_lt
/-- How many noughts are put behind n bytes and the one of 128. -/
def padZ (n : Nat) : Nat := (119 - n % 64) % 64
theorem padZ_stop (n j : Nat) (hj : j ≤ padZ n) : (n + 1 + j) % 64 = 56 ↔ j = padZ n := by unfold padZ at *; omega
/-- What is put in ahead of the length. -/
def padded (s : ByteArray) (j : Nat) : List Nat := bytesN s ++ [128] ++ List.replicate j 0
theorem padded_length (s : ByteArray) (j : Nat) : (padded s j).length = s.size + 1 + j := by simp [padded, bytesN_length]; omega
theorem padded_step (s : ByteArray) (j : Nat) : padded s j ++ [0] = padded s (j + 1) := by simp [padded, List.replicate_succ', List.append_assoc]
/-- The first i bytes of a number's eight, the greatest first. -/
def lenB (n i : Nat) : List Nat := (List.range i).map fun k => n / 256 ^ (7 - k) % 256
theorem lenB_length (n i : Nat) : (lenB n i).length = i := by simp [lenB]
theorem lenB_step (n i : Nat) : lenB n i ++ [n / 256 ^ (7 - i) % 256] = lenB n (i + 1) := by simp [lenB, List.range_succ]
/-- The blocks put in, so many. -/
def foldB (K F : List Nat) : Nat → V8
  | 0 => H8
  | t + 1 => blockN K ((F.drop (64 * t)).take 64) (foldB K F t)
theorem foldB_ok (K F : List Nat) (t : Nat) : (foldB K F t).ok := by
  cases t with
  | zero => exact H8_ok
  | succ t => exact V8.plus_ok _ _
/-- A word's four bytes; the digest. -/
def wordB (x : Nat) : List Nat := [x / 16777216, x / 65536 % 256, x / 256 % 256, x % 256]
def outB (l : List Nat) : ByteArray := ⟨(l.map UInt8.ofNat).toArray⟩
def fullB (s : ByteArray) : List Nat := padded s (padZ s.size) ++ lenB (s.size * 8) 8
def shaV (K : List Nat) (s : ByteArray) : V8 := foldB K (fullB s) ((fullB s).length / 64)
def shaN (s : ByteArray) : ByteArray := outB ((shaV K64 s).L.flatMap wordB)
theorem outB_size (l : List Nat) : (outB l).size = l.length := by simp [outB, ByteArray.size]
theorem flat_size (l : List Nat) : (l.flatMap wordB).length = 4 * l.length := by
  induction l with
  | nil => rfl
  | cons x l ih => simp only [List.flatMap_cons, List.length_append, ih, List.length_cons]; simp only [wordB, List.length_cons, List.length_nil]; omega
theorem outB_step (l : List Nat) {k : Nat} (hk : k < l.length) : outB ((l.take (k + 1)).flatMap wordB) = outB ((l.take k).flatMap wordB) ++ outB (wordB (l.getD k 0)) := by
  rw [List.take_succ_eq_append_getElem hk]
  simp only [List.flatMap_append, outB, List.map_append, List.flatMap_cons, List.flatMap_nil, List.append_nil]
  rw [List.getD_eq_getElem?_getD, List.getElem?_eq_getElem hk]
  apply ByteArray.ext
  simp
set_option maxRecDepth 100000 in
theorem convB4 (a b c d : Int) (W : World) (B : Nat) (hB : W.heap.size = B) : (convert 46 9 (.slice (some ⟨B, 0, none⟩) 4 4)).run Try.prog (W.alloc (.cells #[.int .u8 a, .int .u8 b, .int .u8 c, .int .u8 d] 5)) =
    .ok (.string (strOfNums [a, b, c, d])) (W.alloc (.cells #[.int .u8 a, .int .u8 b, .int .u8 c, .int .u8 d] 5)) := by
  subst hB
  refine run_convert_bytes_arg _ _ 5 rfl rfl _ 0 4 4 [a, b, c, d] rfl (fun i hi => ?_) _ rfl
  have hw := (Whole.new W 5 #[.int .u8 a, .int .u8 b, .int .u8 c, .int .u8 d]).cell
  rw [hw]
  match i, hi with
  | 0, _ => rfl
  | 1, _ => rfl
  | 2, _ => rfl
  | 3, _ => rfl
theorem arr_one (k : IntKind) (l : List Nat) : (arr k l).toList.all (·.oneCell') = true := by
  simp only [arr, List.all_eq_true, List.mem_map]
  rintro x ⟨n, _, rfl⟩
  rfl
theorem V8.size (k : IntKind) (v : V8) : (arr k v.L).size = 8 := by rw [arr_size]; rfl
theorem info8 : (Try.prog.info? 156).map (·.size) = some 8 := by kernel_rfl
theorem byte_info : ∃ i z, (Try.prog.info? 5) = some i ∧ i.zero = some z ∧ i.size = 1 ∧ i.bytes = 1 ∧ z.cells.size = 1 := by
  obtain ⟨i, hi, hz, h1, h2⟩ := info_parts (P := Try.prog) (e := 5) (z := .int .u8 0) (size := 1) (bytes := 1) (by kernel_rfl)
  exact ⟨i, _, hi, hz, h1, h2, rfl⟩
set_option maxHeartbeats 6000000 in
set_option maxRecDepth 100000 in
theorem sum01_calls (s : ByteArray) (hs : s.size ≤ 1099511627776) (w : World) :
    Calls Try.prog 70 #[.string s] w fun e w' => e = .returned (.string (shaN s)) ∧ Below w.heap.size w w' := by
  obtain ⟨K, hK⟩ : ∃ K, K64 = K := ⟨_, rfl⟩
  have KC : ∀ W : World, Calls Try.prog 97 #[] W (fun e w' => e = .returned (.agg (arr .u64 K)) ∧ Below W.heap.size W w') := by rw [← hK]; exact K01_calls
  have K_length : K.length = 64 := by rw [← hK]; exact K64_length
  have K_lt : ∀ x ∈ K, x < 4294967296 := by rw [← hK]; exact K64_lt
  have kz1 : (#[.int .u64 0, .int .u64 0, .int .u64 0, .int .u64 0, .int .u64 0, .int .u64 0, .int .u64 0, .int .u64 0, .int .u64 0, .int .u64 0, .int .u64 0, .int .u64 0, .int .u64 0, .int .u64 0, .int .u64 0, .int .u64 0, .int .u64 0, .int .u64 0, .int .u64 0, .int .u64 0, .int .u64 0, .int .u64 0, .int .u64 0, .int .u64 0, .int .u64 0, .int .u64 0, .int .u64 0, .int .u64 0, .int .u64 0, .int .u64 0, .int .u64 0, .int .u64 0, .int .u64 0, .int .u64 0, .int .u64 0, .int .u64 0, .int .u64 0, .int .u64 0, .int .u64 0, .int .u64 0, .int .u64 0, .int .u64 0, .int .u64 0, .int .u64 0, .int .u64 0, .int .u64 0, .int .u64 0, .int .u64 0, .int .u64 0, .int .u64 0, .int .u64 0, .int .u64 0, .int .u64 0, .int .u64 0, .int .u64 0, .int .u64 0, .int .u64 0, .int .u64 0, .int .u64 0, .int .u64 0, .int .u64 0, .int .u64 0, .int .u64 0, .int .u64 0] : Array Value).size = (arr .u64 K).size := by rw [arr_size, K_length]; rfl
  have kz3 : (Try.prog.info? 154).map (·.size) = some (arr .u64 K).size := by rw [arr_size, K_length]; kernel_rfl
  have kz2 : (arr .u64 K).toList.all (·.oneCell') = true := arr_one _ _
  unfold shaN
  rw [hK]
  obtain ⟨Z, hZ⟩ : ∃ Z, shaV K s = Z := ⟨_, rfl⟩
  rw [hZ]
  replace hZ := Lib.hid hZ
  replace hK := Lib.hid hK
  replace KC := Lib.hid KC
  replace K_length := Lib.hid K_length
  replace K_lt := Lib.hid K_lt
  replace kz1 := Lib.hid kz1
  replace kz3 := Lib.hid kz3
  replace kz2 := Lib.hid kz2
  obtain ⟨ii, iz, j1, j2, j3, j4, j5⟩ := byte_info
  have hB : Below w.heap.size w w := Below.refl _ _
  have hbl := bytesN_length s
  go_enter Try.func70, Try.ntmps70
  go_upto_region 2 with (first | ((refine wpList_bytesOf _ rfl 9 46 5 _ rfl s rfl Try.underlying9 Try.underlying46 Try.underlying5 ?_); intro v1 w1 ho1 hb1; replace ho1 : OwnB 5 w1 w.heap.size v1 (bytesN s) := ho1; replace hB := below_next' hB hb1; have hsz1 := hb1.size) | (at_builtin; refine wpList_appendB _ rfl _ _ 46 rfl w.heap.size 5 ii iz Try.underlying46 j1 j2 j3 j4 j5 v1 (bytesN s) rfl (ho1.alloc _) ⟨w1.heap.size, 0, none⟩ 1 128 rfl ((Whole.new w1 5 #[.int .u8 128]).cell 0) (by omega) (by simp; omega) ?_; intro v2 w2 ho2 hg2))
  have hB2 := below_own' hB ho1 hg2 
  replace ho2 : OwnB 5 w2 w.heap.size v2 (padded s 0) := by simpa [padded] using ho2
  clear ho1 hB hb1 hg2 hsz1
  go_loopg [3] (padZ s.size + 1) (fun kg v wr => ∃ (j : Nat), j ≤ padZ s.size ∧ kg = padZ s.size + 1 - j ∧ OwnB 5 wr w.heap.size v (padded s j) ∧ Below w.heap.size w wr)
  case atStart => exact ⟨0, Nat.zero_le _, rfl, ho2, hB2⟩
  case round =>
    clear ho2 hB2
    obtain ⟨j, hj, hkg, ho, hB⟩ := hrel
    replace hkg := Lib.hid hkg
    have hstop := padZ_stop s.size j hj
    have hz : padZ s.size < 64 := Nat.mod_lt _ (by decide)
    obtain ⟨g, cap, hv, hgb, hgl⟩ := ho.form
    obtain ⟨N, hN⟩ : ∃ N, (padded s j).length = N := ⟨_, rfl⟩
    have hN2 : N = s.size + 1 + j := by rw [← hN, padded_length]
    rw [hN] at hv
    subst hv
    have hsz := hB.size
    obtain ⟨r, hr⟩ : ∃ r, N % 64 = r := ⟨_, rfl⟩
    have u1 : (N : Int).tmod 64 = r := by rw [Int.tmod_eq_emod_of_nonneg (by omega)]; omega
    have u2 : (N : Int) % 64 = r := by omega
    by_cases hlt : j = padZ s.size
    · have hr2 : (r : Int) = 56 := by have := hstop.2 hlt; omega
      subst hlt
      have n1 : IntKind.u64.wrap (s.size : Int) = s.size := by simp [IntKind.wrap, IntKind.signed, IntKind.bits]; omega
      have n2 : IntKind.u64.wrap ((s.size : Int) * 8) = ((s.size * 8 : Nat) : Int) := by simp [IntKind.wrap, IntKind.signed, IntKind.bits]; omega
      obtain ⟨M, hM⟩ : ∃ M, s.size * 8 = M := ⟨_, rfl⟩
      rw [hM] at n2
      have lM : M < 18446744073709551616 := by omega
      obtain ⟨L0, hL0⟩ : ∃ L0, padded s (padZ s.size) = L0 := ⟨_, rfl⟩
      have lL0 : L0.length ≤ 1099511627776 + 65 := by rw [← hL0, padded_length]; omega
      rw [hL0] at ho hN
      replace hL0 := Lib.hid hL0
      replace hM := Lib.hid hM
      have hfin : ((s.size : Int) + 1 + (padZ s.size : Int)) % 64 = 56 := by omega
      replace hfin := Lib.hid hfin
      clear hstop hkg
      have ho0 : OwnB 5 wr w.heap.size (.slice (some ⟨g, 0, none⟩) N cap) (L0 ++ lenB M 0) := by simpa [lenB] using ho
      clear ho
      go_wp2_with (fail)
      rw [show (((s.size : Int) + 1 + (padZ s.size : Int)) % 64 != 56) = false by rw [hfin.out]; rfl]
      go_loopg [3, 5] 9 (fun kg v i wr => ∃ (k : Nat), k ≤ 8 ∧ kg = 9 - k ∧ i = .int .i64 k ∧ OwnB 5 wr w.heap.size v (L0 ++ lenB M k) ∧ Below w.heap.size w wr)
      case atStart => exact ⟨0, by decide, rfl, rfl, ho0, hB⟩
      case round =>
        clear ho0 hB hgb hgl hN hN2 hr u1 u2 hr2 hsz
        obtain ⟨k, hk, hkg, rfl, ho, hB⟩ := hrel
        replace hkg := Lib.hid hkg
        obtain ⟨g2, cap2, hv, hgb, hgl⟩ := ho.form
        obtain ⟨N2, hN⟩ : ∃ N2, (L0 ++ lenB M k).length = N2 := ⟨_, rfl⟩
        have hN2 : N2 = L0.length + k := by rw [← hN, List.length_append, lenB_length]
        rw [hN] at hv
        subst hv
        have hsz := hB.size
        by_cases hlt : k < 8
        · have hM0 : M / 256 ^ (k - k) = M := by simp
          go_wp2_with (fail)
          try rw [decide_eq_true (show (k : Int) < 8 by omega)]
          go_loopg [6, 7] (8 - k) (fun kg2 x jj wr => ∃ (j : Nat), k ≤ j ∧ j ≤ 7 ∧ kg2 = 8 - j ∧ jj = .int .i64 j ∧ x = .int .u64 ((M / 256 ^ (j - k) : Nat) : Int) ∧ OwnB 5 wr w.heap.size (.slice (some ⟨g2, 0, none⟩) N2 cap2) (L0 ++ lenB M k) ∧ Below w.heap.size w wr)
          case atStart => exact ⟨k, Nat.le_refl _, by omega, rfl, rfl, by rw [hM0], ho, hB⟩
          case round =>
            clear ho hB
            obtain ⟨j, hkj, hj, hkg2, rfl, rfl, ho, hB⟩ := hrel
            replace hkg2 := Lib.hid hkg2
            have hX : M / 256 ^ (j - k) < 18446744073709551616 := Nat.lt_of_le_of_lt (Nat.div_le_self _ _) lM
            by_cases hj7 : j < 7
            · have hnx : M / 256 ^ (j + 1 - k) = M / 256 ^ (j - k) / 256 := by rw [show j + 1 - k = (j - k) + 1 by omega, Nat.pow_succ, Nat.div_div_eq_div_mul]
              generalize M / 256 ^ (j - k) = X at *
              obtain ⟨Y, hY⟩ : ∃ Y, X / 256 = Y := ⟨_, rfl⟩
              have y1 : (X : Int).tdiv 256 = Y := by rw [Int.tdiv_eq_ediv_of_nonneg (Int.natCast_nonneg _)]; omega
              have y2 : (X : Int) / 256 = Y := by omega
              rw [hY] at hnx
              replace hnx := Lib.hid hnx
              go_wp2_with (fail)
              go_roundg (7 - j)
              case measure => go_light; rw [hkg2.out]; omega
              case rel => go_light; exact ⟨j + 1, by omega, by omega, by omega, by go_num, by rw [hnx.out], ho, hB⟩
            · obtain rfl : j = 7 := by omega
              have hst := lenB_step M k
              generalize M / 256 ^ (7 - k) = X at *
              obtain ⟨y, hy⟩ : ∃ y, X % 256 = y := ⟨_, rfl⟩
              rw [hy] at hst
              have ly : y < 256 := by omega
              have y1 : (X : Int).tmod 256 = y := by rw [Int.tmod_eq_emod_of_nonneg (Int.natCast_nonneg _)]; omega
              have y2 : (X : Int) % 256 = y := by omega
              have y3 : IntKind.u8.wrap (y : Int) = y := by simp [IntKind.wrap, IntKind.signed, IntKind.bits]; omega
              replace ho := Lib.hid ho
              replace hst := Lib.hid hst
              go_wp2_with (at_builtin; refine wpList_appendB _ rfl _ _ 46 rfl w.heap.size 5 ii iz Try.underlying46 j1 j2 j3 j4 j5 _ (L0 ++ lenB M k) rfl (ho.out.alloc _) ⟨wr.heap.size, 0, none⟩ 1 y rfl ((Whole.new wr 5 #[.int .u8 y]).cell 0) (by omega) (by simp; have := hB.size; omega) ?_; intro v3 w3 ho3 hg3)
              go_roundg (8 - k)
              case measure => go_light; rw [hkg.out]; omega
              case rel => go_light; exact ⟨k + 1, by omega, by omega, by go_num, by rw [← hst.out, ← List.append_assoc]; exact ho3, below_own' hB ho.out hg3⟩
        · obtain rfl : k = 8 := by omega
          obtain ⟨F, hF⟩ : ∃ F, L0 ++ lenB M 8 = F := ⟨_, rfl⟩
          rw [hF] at ho hN
          have hFl : F.length = s.size + 1 + padZ s.size + 8 := by rw [← hF, List.length_append, lenB_length, ← hL0.out, padded_length]
          have hq : F.length % 64 = 0 := by have := hfin.out; omega
          obtain ⟨q, hq2⟩ : ∃ q, F.length = 64 * q := ⟨F.length / 64, by omega⟩
          have lq : q ≤ 17179869300 := by omega
          have hN3 : N2 = 64 * q := by omega
          replace hF := Lib.hid hF
          clear hFl hq hkg hN2
          subst hN3
          have hF256 : ∀ x ∈ F, x < 256 := by
            intro x hx
            rw [← hF.out, ← hL0.out] at hx
            simp only [padded, List.mem_append, List.mem_singleton, List.mem_replicate, lenB, List.mem_map] at hx
            rcases hx with ((hx | rfl) | ⟨_, rfl⟩) | ⟨_, _, rfl⟩
            · exact bytesN_lt s x hx
            · decide
            · decide
            · exact Nat.mod_lt _ (by decide)
          replace hF256 := Lib.hid hF256
          go_upto_region 17 with (first | ((with_reducible refine (KC.out _).mono ?_); rintro e w4 ⟨rfl, hb4⟩; replace ho := ho.below hb4; replace hB := below_next' hB hb4; have k8 := Whole.new w4 154 #[.int .u64 0, .int .u64 0, .int .u64 0, .int .u64 0, .int .u64 0, .int .u64 0, .int .u64 0, .int .u64 0, .int .u64 0, .int .u64 0, .int .u64 0, .int .u64 0, .int .u64 0, .int .u64 0, .int .u64 0, .int .u64 0, .int .u64 0, .int .u64 0, .int .u64 0, .int .u64 0, .int .u64 0, .int .u64 0, .int .u64 0, .int .u64 0, .int .u64 0, .int .u64 0, .int .u64 0, .int .u64 0, .int .u64 0, .int .u64 0, .int .u64 0, .int .u64 0, .int .u64 0, .int .u64 0, .int .u64 0, .int .u64 0, .int .u64 0, .int .u64 0, .int .u64 0, .int .u64 0, .int .u64 0, .int .u64 0, .int .u64 0, .int .u64 0, .int .u64 0, .int .u64 0, .int .u64 0, .int .u64 0, .int .u64 0, .int .u64 0, .int .u64 0, .int .u64 0, .int .u64 0, .int .u64 0, .int .u64 0, .int .u64 0, .int .u64 0, .int .u64 0, .int .u64 0, .int .u64 0, .int .u64 0, .int .u64 0, .int .u64 0, .int .u64 0]; have hsz4 := hb4.size) | ((with_reducible apply wl_storeW (ty := 154) k8); rfl; rfl; rfl; kernel_rfl; exact kz1.out.symm; exact kz2.out; intro w5 hs5 hg5 hz5; replace ho := (ho.alloc (.cells #[.int .u64 0, .int .u64 0, .int .u64 0, .int .u64 0, .int .u64 0, .int .u64 0, .int .u64 0, .int .u64 0, .int .u64 0, .int .u64 0, .int .u64 0, .int .u64 0, .int .u64 0, .int .u64 0, .int .u64 0, .int .u64 0, .int .u64 0, .int .u64 0, .int .u64 0, .int .u64 0, .int .u64 0, .int .u64 0, .int .u64 0, .int .u64 0, .int .u64 0, .int .u64 0, .int .u64 0, .int .u64 0, .int .u64 0, .int .u64 0, .int .u64 0, .int .u64 0, .int .u64 0, .int .u64 0, .int .u64 0, .int .u64 0, .int .u64 0, .int .u64 0, .int .u64 0, .int .u64 0, .int .u64 0, .int .u64 0, .int .u64 0, .int .u64 0, .int .u64 0, .int .u64 0, .int .u64 0, .int .u64 0, .int .u64 0, .int .u64 0, .int .u64 0, .int .u64 0, .int .u64 0, .int .u64 0, .int .u64 0, .int .u64 0, .int .u64 0, .int .u64 0, .int .u64 0, .int .u64 0, .int .u64 0, .int .u64 0, .int .u64 0, .int .u64 0] 154)).kept hg5 (fun q => by have := (ho.lt _ q).2; omega); replace hB := below_only' (hB.alloc hB.size (.cells #[.int .u64 0, .int .u64 0, .int .u64 0, .int .u64 0, .int .u64 0, .int .u64 0, .int .u64 0, .int .u64 0, .int .u64 0, .int .u64 0, .int .u64 0, .int .u64 0, .int .u64 0, .int .u64 0, .int .u64 0, .int .u64 0, .int .u64 0, .int .u64 0, .int .u64 0, .int .u64 0, .int .u64 0, .int .u64 0, .int .u64 0, .int .u64 0, .int .u64 0, .int .u64 0, .int .u64 0, .int .u64 0, .int .u64 0, .int .u64 0, .int .u64 0, .int .u64 0, .int .u64 0, .int .u64 0, .int .u64 0, .int .u64 0, .int .u64 0, .int .u64 0, .int .u64 0, .int .u64 0, .int .u64 0, .int .u64 0, .int .u64 0, .int .u64 0, .int .u64 0, .int .u64 0, .int .u64 0, .int .u64 0, .int .u64 0, .int .u64 0, .int .u64 0, .int .u64 0, .int .u64 0, .int .u64 0, .int .u64 0, .int .u64 0, .int .u64 0, .int .u64 0, .int .u64 0, .int .u64 0, .int .u64 0, .int .u64 0, .int .u64 0, .int .u64 0] 154)) hg5 hB.size) | ((with_reducible refine (H01_calls _).mono ?_); rintro e w6 ⟨rfl, hb6⟩; replace ho := ho.below hb6; replace hB := below_next' hB hb6; replace hs5 := hs5.below hb6 hs5.lt; have k9 := Whole.new w6 156 #[.int .u64 0, .int .u64 0, .int .u64 0, .int .u64 0, .int .u64 0, .int .u64 0, .int .u64 0, .int .u64 0]; have hsz6 := hb6.size) | ((with_reducible apply wl_storeW (ty := 156) k9); rfl; rfl; rfl; kernel_rfl; kernel_rfl; kernel_rfl; intro w7 hs7 hg7 hz7; replace ho := (ho.alloc (.cells #[.int .u64 0, .int .u64 0, .int .u64 0, .int .u64 0, .int .u64 0, .int .u64 0, .int .u64 0, .int .u64 0] 156)).kept hg7 (fun q => by have := (ho.lt _ q).2; omega); replace hB := below_only' (hB.alloc hB.size (.cells #[.int .u64 0, .int .u64 0, .int .u64 0, .int .u64 0, .int .u64 0, .int .u64 0, .int .u64 0, .int .u64 0] 156)) hg7 hB.size; have hn5 := hs5.lt; replace hs5 := (hs5.alloc (.cells #[.int .u64 0, .int .u64 0, .int .u64 0, .int .u64 0, .int .u64 0, .int .u64 0, .int .u64 0, .int .u64 0] 156)).only hg7 (by simp only [ne_eq, Option.some.injEq]; omega)))
          clear k8 k9 hg5 hg7 hz5 hz7 hb4 hb6
          have hs7' : Whole w7 w6.heap.size 156 (arr .u64 (foldB K F 0).L) := hs7
          have hne89 : w4.heap.size < w6.heap.size := by omega
          have hw4 : w.heap.size ≤ w4.heap.size := by omega
          have hg24 : g2 < w4.heap.size := by omega
          clear hs7 hsz4 hsz6 hn5 hsz
          go_loopg [10] (q + 1) (fun kg i wr => ∃ (t : Nat), t ≤ q ∧ kg = q + 1 - t ∧ i = .int .i64 ((64 * t : Nat) : Int) ∧ Whole wr w6.heap.size 156 (arr .u64 (foldB K F t).L) ∧ Whole wr w4.heap.size 154 (arr .u64 K) ∧ OwnB 5 wr w.heap.size (.slice (some ⟨g2, 0, none⟩) (64 * q) cap2) F ∧ Below w.heap.size w wr)
          case atStart => exact ⟨0, Nat.zero_le _, rfl, rfl, hs7', hs5, ho, hB⟩
          case round =>
            clear hs7' hs5 ho hB
            obtain ⟨t, ht, hkg, rfl, hh, hk8, ho, hB⟩ := hrel
            replace hkg := Lib.hid hkg
            obtain ⟨oc, on, ocap, ogb, ogl⟩ := ho.cells
            have oFl : F.length = 64 * q := on.symm
            clear on
            replace hq2 := Lib.hid hq2
            have x1 : IntKind.i64.wrap (((64 * t : Nat) : Int) + 64) = ((64 * t : Nat) : Int) + 64 := by simp [IntKind.wrap, IntKind.signed, IntKind.bits]; omega
            have x2 : IntKind.i64.wrap (64 * (t : Int) + 64) = 64 * t + 64 := by simp [IntKind.wrap, IntKind.signed, IntKind.bits]; omega
            by_cases hlt : t < q
            · obtain ⟨B, hBk⟩ : ∃ B, (F.drop (64 * t)).take 64 = B := ⟨_, rfl⟩
              have hBl : B.length = 64 := by rw [← hBk, List.length_take, List.length_drop]; omega
              have hB8 : ∀ x ∈ B, x < 256 := fun x hx => hF256.out x (by rw [← hBk] at hx; exact List.mem_of_mem_drop (List.mem_of_mem_take hx))
              have hBg : ∀ j, j < 64 → B.getD j 0 = F.getD (64 * t + j) 0 := fun j hj => by
                rw [← hBk]
                simp only [List.getD_eq_getElem?_getD, List.getElem?_take, List.getElem?_drop]
                rw [if_pos hj]
              have hBy : ∀ W, Below wr.heap.size wr W → BytesAt W ⟨g2, 64 * t, none⟩ B := fun W hW => by
                refine BytesAt.below ⟨ogl, fun j hj => ?_⟩ hW
                have hadd : (⟨g2, 64 * t, none⟩ : Addr).add j = ⟨g2, 64 * t + j, none⟩ := by rw [Addr.add_lit]
                rw [hadd, oc (64 * t + j) (by omega), hBg j (by omega)]
              have hstep : foldB K F (t + 1) = blockN K B (foldB K F t) := by simp only [foldB, hBk]
              have hvok := foldB_ok K F t
              generalize foldB K F t = v at *
              have BC : ∀ W c, Below wr.heap.size wr W → Calls Try.prog 99 #[.agg (arr .u64 K), .agg (arr .u64 v.L), .slice (some ⟨g2, 64 * t, none⟩) 64 c] W (fun e w' => e = .returned (.agg (arr .u64 (blockN K B v).L)) ∧ Below W.heap.size W w') :=
                fun W c h => block_calls K B v K_length.out K_lt.out hvok hBl hB8 ⟨g2, 64 * t, none⟩ c W (hBy W h)
              generalize blockN K B v = nv at BC hstep
              replace hBy := Lib.hid hBy
              replace hstep := Lib.hid hstep
              replace BC := Lib.hid BC
              have z1 : ((0 : Int) ≤ 64 * t + 64) = True := eq_true (by omega)
              have z2 : (64 * (t : Int) + 64 ≤ cap2) = True := eq_true (by omega)
              have z3 : ((0 : Int) ≤ 64 * t) = True := eq_true (by omega)
              have z4 : (64 * (t : Int) ≤ max (64 * t + 64) 0) = True := eq_true (by omega)
              have z8 : (64 * (t : Int) ≤ 64 * t + 64) = True := eq_true (by omega)
              have z5 : (64 * (t : Int)).toNat = 64 * t := by omega
              have z6 : (64 * (t : Int) + 64).toNat = 64 * t + 64 := by omega
              have z7 : (cap2 = 64 * t) = False := eq_false (by omega)
              replace hstep := hstep
              clear hBg hBk oc
              replace oFl := Lib.hid oFl
              go_upto_region 19 with (fail)
              refine wp_region_still_tail 7 (by kernel_rfl) (by kernel_rfl) ?_
              simp only [List.take_succ_cons, List.take_zero, List.drop_succ_cons, List.drop_zero]
              rw [show ({ wr with drawn := wr.drawn + 1 } : World) = wr.drew from rfl]
              refine still_loadW hk8.drew Try.underlying154 rfl rfl kz3.out ?_
              refine still_loadW hh.drew Try.underlying156 rfl rfl (by kernel_rfl) ?_
              repeat still_step
              refine wpStill_nil ?_
              change wpList _ _ _ _ _ wr.drew
              have hi8 : (Try.prog.info? 156).map (·.size) = some (arr .u64 v.L).size := by rw [V8.size]; exact info8
              have ho8 : (arr .u64 nv.L).size = (arr .u64 v.L).size := by rw [V8.size, V8.size]
              have h18 := arr_one .u64 nv.L
              replace hi8 := Lib.hid hi8
              replace ho8 := Lib.hid ho8
              replace h18 := Lib.hid h18
              go_wp2_with (first | ((with_reducible refine (BC.out _ _ ((Below.refl _ wr).drew)).mono ?_); rintro e w8 ⟨rfl, hb8⟩; replace hh := hh.drew.below hb8 hh.lt; replace hk8 := hk8.drew.below hb8 hk8.lt; replace ho := OwnB.below (W := wr.drew) ho hb8; replace hB := below_next' hB.drew hb8) | ((with_reducible apply wl_storeW (ty := 156) hh); rfl; rfl; rfl; exact hi8.out; exact ho8.out; exact h18.out; intro w9 hs9 hg9 hz9))
              go_roundg (q - t)
              case measure => go_light; rw [hkg.out]; omega
              case rel => go_light; exact ⟨t + 1, by omega, by omega, by go_num, by rw [hstep.out]; exact hs9, hk8.only hg9 (by simp only [ne_eq, Option.some.injEq]; omega), ho.kept hg9 (by simp only [Value.ownBlock, ne_eq, Option.some.injEq]; omega), below_only' hB hg9 (by omega)⟩
            · obtain rfl : t = q := by omega
              have hV : foldB K F t = Z := by
                rw [← hZ.out]
                unfold shaV fullB
                rw [hM.out, hL0.out, hF.out, hq2.out, Nat.mul_div_cancel_left _ (by decide)]
              rw [hV] at hh
              have hVok : Z.ok := by rw [← hV]; exact foldB_ok K F t
              have hB5 := hB
              have hg9 := hh.lt
              clear hV hk8 ho hB hkg ogl ogb oFl oc hF256 hq2 x1 x2
              go_wp2_with (fail)
              go_loopg [11, 12] 9 (fun kg o i wr => ∃ (k : Nat), k ≤ 8 ∧ kg = 9 - k ∧ i = .int .i64 k ∧ o = .string (outB ((Z.L.take k).flatMap wordB)) ∧ Whole wr w6.heap.size 156 (arr .u64 Z.L) ∧ Below w.heap.size w wr)
              case atStart => exact ⟨0, by decide, rfl, rfl, rfl, hh, hB5⟩
              case round =>
                clear hh hB5
                obtain ⟨k, hk, hkg, rfl, rfl, hh, hB⟩ := hrel
                replace hkg := Lib.hid hkg
                by_cases hlt : k < 8
                · have hst := outB_step Z.L (k := k) hlt
                  have hx : Z.L.getD k 0 < 4294967296 := getD_lt (by decide) (V8.L_lt hVok) _
                  have e0 : wr.cell? ⟨w6.heap.size, k, none⟩ = some (.int .u64 ((Z.L.getD k 0 : Nat) : Int)) := arr_cell hh hlt
                  generalize Z.L.getD k 0 = x at *
                  have os : (outB ((Z.L.take k).flatMap wordB)).size ≤ 32 := by rw [outB_size, flat_size]; have := List.length_take_le k Z.L; omega
                  generalize outB ((Z.L.take k).flatMap wordB) = O at *
                  replace hst := Lib.hid hst
                  obtain ⟨X1, Z1⟩ : ∃ y, x / 65536 = y := ⟨_, rfl⟩
                  obtain ⟨X2, Z2⟩ : ∃ y, x / 256 = y := ⟨_, rfl⟩
                  obtain ⟨y0, z0⟩ : ∃ y, x / 16777216 = y := ⟨_, rfl⟩
                  obtain ⟨y1, z1⟩ : ∃ y, X1 % 256 = y := ⟨_, rfl⟩
                  obtain ⟨y2, z2⟩ : ∃ y, X2 % 256 = y := ⟨_, rfl⟩
                  obtain ⟨y3, z3⟩ : ∃ y, x % 256 = y := ⟨_, rfl⟩
                  have hwb : outB (wordB x) = strOfNums [(y0 : Int), (y1 : Int), (y2 : Int), (y3 : Int)] := by
                    simp only [wordB, Z1, Z2, z0, z1, z2, z3, outB, strOfNums, List.map_cons, List.map_nil, Int.toNat_natCast]
                  rw [hwb] at hst
                  clear hwb
                  have p1 : (x : Int) / 65536 = X1 := by omega
                  have p2 : (x : Int) / 256 = X2 := by omega
                  have p0 : (x : Int) / 16777216 = y0 := by omega
                  have q1 : (x : Int).tdiv 65536 = X1 := by rw [Int.tdiv_eq_ediv_of_nonneg (Int.natCast_nonneg _)]; omega
                  have q2 : (x : Int).tdiv 256 = X2 := by rw [Int.tdiv_eq_ediv_of_nonneg (Int.natCast_nonneg _)]; omega
                  have q0 : (x : Int).tdiv 16777216 = y0 := by rw [Int.tdiv_eq_ediv_of_nonneg (Int.natCast_nonneg _)]; omega
                  have r1 : (X1 : Int) % 256 = y1 := by omega
                  have r2 : (X2 : Int) % 256 = y2 := by omega
                  have r3 : (x : Int) % 256 = y3 := by omega
                  have t1 : (X1 : Int).tmod 256 = y1 := by rw [Int.tmod_eq_emod_of_nonneg (Int.natCast_nonneg _)]; omega
                  have t2 : (X2 : Int).tmod 256 = y2 := by rw [Int.tmod_eq_emod_of_nonneg (Int.natCast_nonneg _)]; omega
                  have t3 : (x : Int).tmod 256 = y3 := by rw [Int.tmod_eq_emod_of_nonneg (Int.natCast_nonneg _)]; omega
                  have u0 : IntKind.u8.wrap (y0 : Int) = y0 := by simp [IntKind.wrap, IntKind.signed, IntKind.bits]; omega
                  have u1 : IntKind.u8.wrap (y1 : Int) = y1 := by simp [IntKind.wrap, IntKind.signed, IntKind.bits]; omega
                  have u2 : IntKind.u8.wrap (y2 : Int) = y2 := by simp [IntKind.wrap, IntKind.signed, IntKind.bits]; omega
                  have u3 : IntKind.u8.wrap (y3 : Int) = y3 := by simp [IntKind.wrap, IntKind.signed, IntKind.bits]; omega
                  have i1 : (0 : Int) ≤ (k : Int) := by omega
                  have i2 : (k : Int) < 8 := by omega
                  have h4 : ∀ a b c d : Int, (convert 46 9 (.slice (some ⟨wr.heap.size, 0, none⟩) 4 4)).run Try.prog ((wr.alloc (.cells #[.int .u8 a, .int .u8 b, .int .u8 c, .int .u8 d] 5)).drew) = .ok (.string (strOfNums [a, b, c, d])) ((wr.alloc (.cells #[.int .u8 a, .int .u8 b, .int .u8 c, .int .u8 d] 5)).drew) := fun a b c d => convB4 a b c d wr.drew _ rfl
                  have v0 : IntKind.u64.wrap (y0 : Int) = y0 := by simp [IntKind.wrap, IntKind.signed, IntKind.bits]; omega
                  have v1' : IntKind.u64.wrap (X1 : Int) = X1 := by simp [IntKind.wrap, IntKind.signed, IntKind.bits]; omega
                  have v2' : IntKind.u64.wrap (X2 : Int) = X2 := by simp [IntKind.wrap, IntKind.signed, IntKind.bits]; omega
                  have n4 : (strOfNums [(y0 : Int), (y1 : Int), (y2 : Int), (y3 : Int)]).size = 4 := strOfNums_size _
                  have ofl : (9223372036854775807 < O.size + 4) = False := eq_false (by omega)
                  clear z0 z1 z2 z3 Z1 Z2
                  go_upto_region 24 with (fail)
                  refine wp_region_grow 27 93 (by kernel_rfl) (by kernel_rfl) rfl (fun w4 hl4 => ?_)
                  simp only [List.take_succ_cons, List.take_zero, List.drop_succ_cons, List.drop_zero]
                  generalize ha : Act.mk _ _ = a0
                  have k9 : a0.eval (.tmp 9) = .pointer (some ⟨w6.heap.size, 0, none⟩) := by subst ha; rfl
                  have k11 : a0.eval (.tmp 11) = .string O := by subst ha; rfl
                  have k12 : a0.eval (.tmp 12) = .int .i64 k := by subst ha; rfl
                  have ks : a0.tmps.size = 93 := by subst ha; rfl
                  have ha0 := ha.symm
                  clear ha
                  refine wpG_move (fun a w hk => (hk 11 rfl : a.eval (.tmp 11) = a0.eval (.tmp 11)).trans k11) ?_
                  refine wpG_move (fun a w hk => (hk 12 rfl : a.eval (.tmp 12) = a0.eval (.tmp 12)).trans k12) ?_
                  apply wpG_value'
                  · rfl
                  · (intro a wx hlx hk K hK; have e9 : a.eval (.tmp 9) = _ := (hk 9 rfl : a.eval (.tmp 9) = a0.eval (.tmp 9)).trans k9; have e67 : a.eval (.tmp 67) = _ := hk 67 rfl; simp only [execOp, e9, e67]; clear e9 e67 hk; go_simp; exact hK)
                  refine wpG_load1 (hl4.cell e0) Try.underlying105 rfl (fun a w hk => hk 68 rfl) ?_
                  apply wpG_value'
                  · rfl
                  · (intro a wx hlx hk K hK; have e69 : a.eval (.tmp 69) = _ := hk 69 rfl; simp only [execOp, e69]; clear e69 hk; go_simp; exact hK)
                  apply wpG_value'
                  · rfl
                  · (intro a wx hlx hk K hK; have e70 : a.eval (.tmp 70) = _ := hk 70 rfl; simp only [execOp, e70]; clear e70 hk; go_simp; exact hK)
                  refine wpG_move (fun a w hk => (hk 12 rfl : a.eval (.tmp 12) = a0.eval (.tmp 12)).trans k12) ?_
                  apply wpG_value'
                  · rfl
                  · (intro a wx hlx hk K hK; have e9 : a.eval (.tmp 9) = _ := (hk 9 rfl : a.eval (.tmp 9) = a0.eval (.tmp 9)).trans k9; have e72 : a.eval (.tmp 72) = _ := hk 72 rfl; simp only [execOp, e9, e72]; clear e9 e72 hk; go_simp; exact hK)
                  refine wpG_load1 (hl4.cell e0) Try.underlying105 rfl (fun a w hk => hk 73 rfl) ?_
                  apply wpG_value'
                  · rfl
                  · (intro a wx hlx hk K hK; have e74 : a.eval (.tmp 74) = _ := hk 74 rfl; simp only [execOp, e74]; clear e74 hk; go_simp; exact hK)
                  apply wpG_value'
                  · rfl
                  · (intro a wx hlx hk K hK; have e75 : a.eval (.tmp 75) = _ := hk 75 rfl; simp only [execOp, e75]; clear e75 hk; go_simp; exact hK)
                  apply wpG_value'
                  · rfl
                  · (intro a wx hlx hk K hK; have e76 : a.eval (.tmp 76) = _ := hk 76 rfl; simp only [execOp, e76]; clear e76 hk; go_simp; exact hK)
                  refine wpG_move (fun a w hk => (hk 12 rfl : a.eval (.tmp 12) = a0.eval (.tmp 12)).trans k12) ?_
                  apply wpG_value'
                  · rfl
                  · (intro a wx hlx hk K hK; have e9 : a.eval (.tmp 9) = _ := (hk 9 rfl : a.eval (.tmp 9) = a0.eval (.tmp 9)).trans k9; have e78 : a.eval (.tmp 78) = _ := hk 78 rfl; simp only [execOp, e9, e78]; clear e9 e78 hk; go_simp; exact hK)
                  refine wpG_load1 (hl4.cell e0) Try.underlying105 rfl (fun a w hk => hk 79 rfl) ?_
                  apply wpG_value'
                  · rfl
                  · (intro a wx hlx hk K hK; have e80 : a.eval (.tmp 80) = _ := hk 80 rfl; simp only [execOp, e80]; clear e80 hk; go_simp; exact hK)
                  apply wpG_value'
                  · rfl
                  · (intro a wx hlx hk K hK; have e81 : a.eval (.tmp 81) = _ := hk 81 rfl; simp only [execOp, e81]; clear e81 hk; go_simp; exact hK)
                  apply wpG_value'
                  · rfl
                  · (intro a wx hlx hk K hK; have e82 : a.eval (.tmp 82) = _ := hk 82 rfl; simp only [execOp, e82]; clear e82 hk; go_simp; exact hK)
                  refine wpG_move (fun a w hk => (hk 12 rfl : a.eval (.tmp 12) = a0.eval (.tmp 12)).trans k12) ?_
                  apply wpG_value'
                  · rfl
                  · (intro a wx hlx hk K hK; have e9 : a.eval (.tmp 9) = _ := (hk 9 rfl : a.eval (.tmp 9) = a0.eval (.tmp 9)).trans k9; have e84 : a.eval (.tmp 84) = _ := hk 84 rfl; simp only [execOp, e9, e84]; clear e9 e84 hk; go_simp; exact hK)
                  refine wpG_load1 (hl4.cell e0) Try.underlying105 rfl (fun a w hk => hk 85 rfl) ?_
                  apply wpG_value'
                  · rfl
                  · (intro a wx hlx hk K hK; have e86 : a.eval (.tmp 86) = _ := hk 86 rfl; simp only [execOp, e86]; clear e86 hk; go_simp; exact hK)
                  apply wpG_value'
                  · rfl
                  · (intro a wx hlx hk K hK; have e87 : a.eval (.tmp 87) = _ := hk 87 rfl; simp only [execOp, e87]; clear e87 hk; go_simp; exact hK)
                  refine wpG_build4 Try.underlying46 (by unfold ByteT; kernel_rfl) (fun a w hk => ⟨hk 71 rfl, hk 77 rfl, hk 83 rfl, hk 88 rfl⟩) ?_
                  refine wpG_str Try.underlying46 Try.underlying5 Try.underlying9 (fun a w hk => hk 89 rfl) ?_
                  apply wpG_value'
                  · rfl
                  · (intro a wx hlx hk K hK; have e66 : a.eval (.tmp 66) = _ := hk 66 rfl; have e90 : a.eval (.tmp 90) = _ := hk 90 rfl; simp only [execOp, e66, e90]; clear e66 e90 hk; go_simp; exact hK)
                  refine wpG_assign (fun a w hk => hk 91 rfl) ?_
                  refine wpG_nil (fun w4' hl4' => ?_)
                  refine fin_is ?_
                  refine fin_is ?_
                  refine fin_is ?_
                  refine fin_is ?_
                  refine fin_is ?_
                  refine fin_is ?_
                  refine fin_is ?_
                  refine fin_is ?_
                  refine fin_is ?_
                  refine fin_is ?_
                  refine fin_is ?_
                  refine fin_is ?_
                  refine fin_is ?_
                  refine fin_is ?_
                  refine fin_is ?_
                  refine fin_is ?_
                  refine fin_is ?_
                  refine fin_is ?_
                  refine fin_is ?_
                  refine fin_is ?_
                  refine fin_is ?_
                  refine fin_is ?_
                  refine fin_is ?_
                  refine fin_some (fun v89 hv89 => ?_)
                  refine fin_is ?_
                  refine fin_is ?_
                  refine fin_is ?_
                  refine fin_nil ?_
                  subst ha0
                  clear k9 k11 k12 ks
                  go_wp2_with (fail)
                  go_roundg (8 - k)
                  case measure => go_light; rw [hkg.out]; omega
                  case rel => go_light; exact ⟨k + 1, by omega, by omega, by go_num, by rw [hst.out], (hl4.trans hl4').whole hh, below_next' hB (hl4.trans hl4')⟩
                · obtain rfl : k = 8 := by omega
                  go_wp2_with (fail)
                  go_returns
                  go_light
                  exact ⟨rfl, hB⟩
    · have hr2 : ¬ (r : Int) = 56 := fun q => hlt (hstop.1 (by omega))
      replace ho := Lib.hid ho
      go_wp2_with (at_builtin; refine wpList_appendB _ rfl _ _ 46 rfl w.heap.size 5 ii iz Try.underlying46 j1 j2 j3 j4 j5 _ (padded s j) rfl (ho.out.alloc _) ⟨wr.heap.size, 0, none⟩ 1 0 rfl ((Whole.new wr 5 #[.int .u8 0]).cell 0) (by omega) (by simp; omega) ?_; intro v3 w3 ho3 hg3)
      go_roundg (padZ s.size - j)
      case measure => go_light; rw [hkg.out]; omega
      case rel => go_light; exact ⟨j + 1, by omega, by omega, by rw [← padded_step]; exact ho3, below_own' hB ho.out hg3⟩
end Go.Proofs.Ytknjbkbbhgjnlaa
