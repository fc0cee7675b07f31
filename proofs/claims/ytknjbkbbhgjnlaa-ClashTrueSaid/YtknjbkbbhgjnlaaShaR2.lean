/- The reference's block: its words. Conditions: bytes are bytes; words are of 32 bits. -/
import Derived.Test.YtknjbkbbhgjnlaaSha0
import Derived.StillTailTactics
import Derived.OwnWalk
namespace Go.Proofs.Ytknjbkbbhgjnlaa
open Go.RowKit
set_option linter.unusedVariables false
set_option linter.unusedSimpArgs false
theorem add_block (a : Addr) (i : Nat) : (a.add i).block = a.block := by unfold Addr.add; split <;> rfl
/-- Bytes in a row. -/
def BytesAt (W : World) (ad : Addr) (b : List Nat) : Prop := ad.block < W.heap.size ∧ ∀ j, j < b.length → W.cell? (ad.add j) = some (.int .u8 ((b.getD j 0 : Nat) : Int))
theorem BytesAt.below {W W' : World} {ad : Addr} {b : List Nat} (h : BytesAt W ad b) (hb : Below W.heap.size W W') : BytesAt W' ad b :=
  ⟨Nat.lt_of_lt_of_le h.1 hb.size, fun j hj => cell_keep (h.2 j hj) hb⟩
/-- The words so far, noughts behind them. -/
def filled (b : List Nat) (k : Nat) : List Nat := words b k ++ List.replicate (64 - k) 0
theorem filled_length (b : List Nat) {k : Nat} (hk : k ≤ 64) : (filled b k).length = 64 := by simp [filled, words_length]; omega
theorem filled_getD (b : List Nat) {k i : Nat} (hi : i < k) : (filled b k).getD i 0 = (words b k).getD i 0 := by
  simp only [filled, List.getD_eq_getElem?_getD]
  rw [List.getElem?_append_left (by rw [words_length]; exact hi)]
theorem filled_next (b : List Nat) {k : Nat} (hk : k < 64) : filled b (k + 1) = (filled b k).set k (if k < 16 then byteWord b k else nextWord (words b k) k) := by
  obtain ⟨m, hm⟩ : ∃ m, 64 - k = m + 1 := ⟨63 - k, by omega⟩
  simp only [filled, words, hm, show 64 - (k + 1) = m by omega, List.replicate_succ]
  rw [List.set_append_right _ _ (by rw [words_length]; exact Nat.le_refl _), words_length, Nat.sub_self, List.set_cons_zero, List.append_assoc]
  rfl
/-- A word, of the first j of its four bytes. -/
def partWord (b : List Nat) (k : Nat) : Nat → Nat
  | 0 => 0
  | j + 1 => partWord b k j * 256 + b.getD (4 * k + j) 0
theorem partWord_four (b : List Nat) (k : Nat) : partWord b k 4 = byteWord b k := by simp [partWord, byteWord]
theorem partWord_lt {b : List Nat} (hb : ∀ x ∈ b, x < 256) (k j : Nat) (hj : j ≤ 4) : partWord b k j < 4294967296 := by
  have h : ∀ i, b.getD i 0 < 256 := getD_lt (by decide) hb
  match j, hj with
  | 0, _ => show 0 < 4294967296; decide
  | 1, _ => have := h (4 * k); simp only [partWord, Nat.add_zero]; omega
  | 2, _ => have := h (4 * k); have := h (4 * k + 1); simp only [partWord, Nat.add_zero]; omega
  | 3, _ => have := h (4 * k); have := h (4 * k + 1); have := h (4 * k + 2); simp only [partWord, Nat.add_zero]; omega
  | 4, _ => have := h (4 * k); have := h (4 * k + 1); have := h (4 * k + 2); have := h (4 * k + 3); simp only [partWord, Nat.add_zero]; omega
theorem filled_zero (b : List Nat) {k : Nat} (hk : k < 64) : (filled b k).set k 0 = filled b k := by
  obtain ⟨m, hm⟩ : ∃ m, 64 - k = m + 1 := ⟨63 - k, by omega⟩
  simp only [filled, hm, List.replicate_succ]
  rw [List.set_append_right _ _ (by rw [words_length]; exact Nat.le_refl _), words_length, Nat.sub_self, List.set_cons_zero]
/-- The words moved up by one, from the last down to number j. -/
def V8.shl (u : V8) : Nat → List Nat
  | 0 => [u.a, u.a, u.b, u.c, u.d, u.e, u.f, u.g]
  | 1 => [u.a, u.b, u.b, u.c, u.d, u.e, u.f, u.g]
  | 2 => [u.a, u.b, u.c, u.c, u.d, u.e, u.f, u.g]
  | 3 => [u.a, u.b, u.c, u.d, u.d, u.e, u.f, u.g]
  | 4 => [u.a, u.b, u.c, u.d, u.e, u.e, u.f, u.g]
  | 5 => [u.a, u.b, u.c, u.d, u.e, u.f, u.f, u.g]
  | 6 => [u.a, u.b, u.c, u.d, u.e, u.f, u.g, u.g]
  | _ => [u.a, u.b, u.c, u.d, u.e, u.f, u.g, u.h]
theorem V8.shl_length (u : V8) (j : Nat) : (u.shl j).length = 8 := by
  match j with
  | 0 | 1 | 2 | 3 | 4 | 5 | 6 => rfl
  | n + 7 => rfl
theorem V8.shl_step (u : V8) {j : Nat} (hj : j < 7) : (u.shl (j + 1)).set (j + 1) ((u.shl (j + 1)).getD j 0) = u.shl j := by
  match j, hj with
  | 0, _ | 1, _ | 2, _ | 3, _ | 4, _ | 5, _ | 6, _ => rfl
/-- The sums so far. -/
def V8.sums (v u : V8) (i : Nat) : List Nat := (v.plus u).L.take i ++ v.L.drop i
theorem V8.sums_length (v u : V8) {i : Nat} (hi : i ≤ 8) : (v.sums u i).length = 8 := by
  match i, hi with
  | 0, _ | 1, _ | 2, _ | 3, _ | 4, _ | 5, _ | 6, _ | 7, _ | 8, _ => rfl
theorem V8.sums_step (v u : V8) {i : Nat} (hi : i < 8) : (v.sums u i).set i (((v.sums u i).getD i 0 + u.L.getD i 0) % 4294967296) = v.sums u (i + 1) ∧ (v.sums u i).getD i 0 = v.L.getD i 0 := by
  match i, hi with
  | 0, _ | 1, _ | 2, _ | 3, _ | 4, _ | 5, _ | 6, _ | 7, _ => exact ⟨rfl, rfl⟩
theorem V8.L_lt {v : V8} (h : v.ok) : ∀ x ∈ v.L, x < 4294967296 := by
  obtain ⟨h1, h2, h3, h4, h5, h6, h7, h8⟩ := h
  intro x hx
  simp [V8.L] at hx
  rcases hx with rfl | rfl | rfl | rfl | rfl | rfl | rfl | rfl <;> assumption
/-- What the four blocks of a call hold. -/
theorem block_blocks (w : World) (a : Array Value) (v : V8) :
    ∃ W, W = (((w.alloc (.cells a 154)).alloc (.cells #[.int .u64 v.a, .int .u64 v.b, .int .u64 v.c, .int .u64 v.d, .int .u64 v.e, .int .u64 v.f, .int .u64 v.g, .int .u64 v.h] 156)).alloc (.cells #[.int .u64 0, .int .u64 0, .int .u64 0, .int .u64 0, .int .u64 0, .int .u64 0, .int .u64 0, .int .u64 0] 156)).alloc (.cells #[.int .u64 0, .int .u64 0, .int .u64 0, .int .u64 0, .int .u64 0, .int .u64 0, .int .u64 0, .int .u64 0, .int .u64 0, .int .u64 0, .int .u64 0, .int .u64 0, .int .u64 0, .int .u64 0, .int .u64 0, .int .u64 0, .int .u64 0, .int .u64 0, .int .u64 0, .int .u64 0, .int .u64 0, .int .u64 0, .int .u64 0, .int .u64 0, .int .u64 0, .int .u64 0, .int .u64 0, .int .u64 0, .int .u64 0, .int .u64 0, .int .u64 0, .int .u64 0, .int .u64 0, .int .u64 0, .int .u64 0, .int .u64 0, .int .u64 0, .int .u64 0, .int .u64 0, .int .u64 0, .int .u64 0, .int .u64 0, .int .u64 0, .int .u64 0, .int .u64 0, .int .u64 0, .int .u64 0, .int .u64 0, .int .u64 0, .int .u64 0, .int .u64 0, .int .u64 0, .int .u64 0, .int .u64 0, .int .u64 0, .int .u64 0, .int .u64 0, .int .u64 0, .int .u64 0, .int .u64 0, .int .u64 0, .int .u64 0, .int .u64 0, .int .u64 0] 154) ∧
      Whole W w.heap.size 154 a ∧ Whole W (w.heap.size + 1) 156 #[.int .u64 v.a, .int .u64 v.b, .int .u64 v.c, .int .u64 v.d, .int .u64 v.e, .int .u64 v.f, .int .u64 v.g, .int .u64 v.h] ∧ Whole W (w.heap.size + 1 + 1) 156 #[.int .u64 0, .int .u64 0, .int .u64 0, .int .u64 0, .int .u64 0, .int .u64 0, .int .u64 0, .int .u64 0] ∧ Whole W (w.heap.size + 1 + 1 + 1) 154 #[.int .u64 0, .int .u64 0, .int .u64 0, .int .u64 0, .int .u64 0, .int .u64 0, .int .u64 0, .int .u64 0, .int .u64 0, .int .u64 0, .int .u64 0, .int .u64 0, .int .u64 0, .int .u64 0, .int .u64 0, .int .u64 0, .int .u64 0, .int .u64 0, .int .u64 0, .int .u64 0, .int .u64 0, .int .u64 0, .int .u64 0, .int .u64 0, .int .u64 0, .int .u64 0, .int .u64 0, .int .u64 0, .int .u64 0, .int .u64 0, .int .u64 0, .int .u64 0, .int .u64 0, .int .u64 0, .int .u64 0, .int .u64 0, .int .u64 0, .int .u64 0, .int .u64 0, .int .u64 0, .int .u64 0, .int .u64 0, .int .u64 0, .int .u64 0, .int .u64 0, .int .u64 0, .int .u64 0, .int .u64 0, .int .u64 0, .int .u64 0, .int .u64 0, .int .u64 0, .int .u64 0, .int .u64 0, .int .u64 0, .int .u64 0, .int .u64 0, .int .u64 0, .int .u64 0, .int .u64 0, .int .u64 0, .int .u64 0, .int .u64 0, .int .u64 0] ∧ Below w.heap.size w W ∧ w.heap.size + 4 = W.heap.size := by
  refine ⟨_, rfl, (((Whole.new w _ _).alloc _).alloc _).alloc _, (((Whole.new1 w _ _ _)).alloc _).alloc _, ?_, ?_, ((((Below.refl _ _).alloc (Nat.le_refl _) _).alloc (by simp) _).alloc (by simp; omega) _).alloc (by simp; omega) _, by simp⟩
  · have := Whole.new1 (w.alloc (.cells a 154)) (.cells #[.int .u64 v.a, .int .u64 v.b, .int .u64 v.c, .int .u64 v.d, .int .u64 v.e, .int .u64 v.f, .int .u64 v.g, .int .u64 v.h] 156) 156 #[.int .u64 0, .int .u64 0, .int .u64 0, .int .u64 0, .int .u64 0, .int .u64 0, .int .u64 0, .int .u64 0]
    rw [show (w.alloc (.cells a 154)).heap.size + 1 = w.heap.size + 1 + 1 by simp] at this
    exact this.alloc _
  · have := Whole.new1 ((w.alloc (.cells a 154)).alloc (.cells #[.int .u64 v.a, .int .u64 v.b, .int .u64 v.c, .int .u64 v.d, .int .u64 v.e, .int .u64 v.f, .int .u64 v.g, .int .u64 v.h] 156)) (.cells #[.int .u64 0, .int .u64 0, .int .u64 0, .int .u64 0, .int .u64 0, .int .u64 0, .int .u64 0, .int .u64 0] 156) 154 #[.int .u64 0, .int .u64 0, .int .u64 0, .int .u64 0, .int .u64 0, .int .u64 0, .int .u64 0, .int .u64 0, .int .u64 0, .int .u64 0, .int .u64 0, .int .u64 0, .int .u64 0, .int .u64 0, .int .u64 0, .int .u64 0, .int .u64 0, .int .u64 0, .int .u64 0, .int .u64 0, .int .u64 0, .int .u64 0, .int .u64 0, .int .u64 0, .int .u64 0, .int .u64 0, .int .u64 0, .int .u64 0, .int .u64 0, .int .u64 0, .int .u64 0, .int .u64 0, .int .u64 0, .int .u64 0, .int .u64 0, .int .u64 0, .int .u64 0, .int .u64 0, .int .u64 0, .int .u64 0, .int .u64 0, .int .u64 0, .int .u64 0, .int .u64 0, .int .u64 0, .int .u64 0, .int .u64 0, .int .u64 0, .int .u64 0, .int .u64 0, .int .u64 0, .int .u64 0, .int .u64 0, .int .u64 0, .int .u64 0, .int .u64 0, .int .u64 0, .int .u64 0, .int .u64 0, .int .u64 0, .int .u64 0, .int .u64 0, .int .u64 0, .int .u64 0]
    rw [show ((w.alloc (.cells a 154)).alloc (.cells #[.int .u64 v.a, .int .u64 v.b, .int .u64 v.c, .int .u64 v.d, .int .u64 v.e, .int .u64 v.f, .int .u64 v.g, .int .u64 v.h] 156)).heap.size + 1 = w.heap.size + 1 + 1 + 1 by simp] at this
    exact this
set_option maxHeartbeats 6000000 in
set_option maxRecDepth 100000 in
theorem block_calls (K b : List Nat) (v : V8) (hK : K.length = 64) (hK32 : ∀ x ∈ K, x < 4294967296) (hv : v.ok) (hb : b.length = 64) (hb8 : ∀ x ∈ b, x < 256) (ad : Addr) (cap : Nat) (w : World) (hbytes : BytesAt w ad b) :
    Calls Try.prog 99 #[.agg (arr .u64 K), .agg #[.int .u64 v.a, .int .u64 v.b, .int .u64 v.c, .int .u64 v.d, .int .u64 v.e, .int .u64 v.f, .int .u64 v.g, .int .u64 v.h], .slice (some ad) 64 cap] w fun e w' => e = .returned (.agg (arr .u64 (blockN K b v).L)) ∧ Below w.heap.size w w' := by
  obtain ⟨W, hW, h3, h4, h6, h7, hB, hsz⟩ := block_blocks w (arr .u64 K) v
  have hbW := hbytes.below hB
  have hg0 : W.grownBy W (some (w.heap.size + 1 + 1 + 1)) := only_same _ _
  go_enter Try.func99, Try.ntmps99
  go_wp2_with fail
  rw [← hW]
  clear hW
  replace h7 : Whole W (w.heap.size + 1 + 1 + 1) 154 (arr .u64 (filled b 0)) := h7
  go_loopg [8] 65 (fun kg i wr => ∃ (k : Nat), k ≤ 64 ∧ kg = 65 - k ∧ i = .int .i64 k ∧ Whole wr (w.heap.size + 1 + 1 + 1) 154 (arr .u64 (filled b k)) ∧ W.grownBy wr (some (w.heap.size + 1 + 1 + 1)))
  case atStart => exact ⟨0, by decide, rfl, rfl, h7, hg0⟩
  case round =>
    clear h7 hg0
    obtain ⟨k, hk, hkg, rfl, h7, hg⟩ := hrel
    replace hkg := Lib.hid hkg
    by_cases hlt : k < 64
    · by_cases h16 : k < 16
      · have hnext := filled_next b hlt
        rw [if_pos h16, ← partWord_four] at hnext
        rw [← filled_zero b hlt] at h7
        replace hnext := Lib.hid hnext
        go_wp2_with (fail)
        rw [decide_eq_true (show (k : Int) < 64 by omega), decide_eq_true (show (k : Int) < 16 by omega)]
        go_loopg [9] 5 (fun kg2 jj wr => ∃ (j : Nat), j ≤ 4 ∧ kg2 = 5 - j ∧ jj = .int .i64 j ∧ Whole wr (w.heap.size + 1 + 1 + 1) 154 (arr .u64 ((filled b k).set k (partWord b k j))) ∧ W.grownBy wr (some (w.heap.size + 1 + 1 + 1)))
        case atStart => exact ⟨0, by decide, rfl, rfl, h7, hg⟩
        case round =>
          clear h7 hg
          obtain ⟨j, hj, hkg2, rfl, h7, hg⟩ := hrel
          replace hkg2 := Lib.hid hkg2
          by_cases hj4 : j < 4
          · have e0 : wr.drew.cell? ⟨w.heap.size + 1 + 1 + 1, k, none⟩ = some (.int .u64 ((partWord b k j : Nat) : Int)) := by
              have := arr_cell h7.drew (i := k) (by rw [List.length_set, filled_length b hk]; exact hlt)
              rw [getD_set, if_pos ⟨rfl, by rw [filled_length b hk]; exact hlt⟩] at this
              exact this
            have f0 := h7.drew.frozen k
            have e1 : wr.drew.cell? (ad.add (4 * k + j)) = some (.int .u8 ((b.getD (4 * k + j) 0 : Nat) : Int)) := cell_only (hbW.2 (4 * k + j) (by omega)) (only_drew hg) (by rw [add_block]; have := hbytes.1; omega)
            have hp := partWord_lt hb8 k j hj
            have hy : b.getD (4 * k + j) 0 < 256 := getD_lt (by decide) hb8 _
            have h7n := arr_put h7.drew k (partWord b k (j + 1))
            rw [List.set_set] at h7n
            have hpn : partWord b k (j + 1) = partWord b k j * 256 + b.getD (4 * k + j) 0 := rfl
            rw [hpn] at h7n
            have hgn := only_put (only_drew hg) (p := ⟨w.heap.size + 1 + 1 + 1, k, none⟩) (.inl rfl) (.int .u64 ((partWord b k j * 256 + b.getD (4 * k + j) 0 : Nat) : Int))
            generalize partWord b k j = p at *
            generalize b.getD (4 * k + j) 0 = y at *
            have q1 : IntKind.u64.wrap ((p : Int) * 256) = p * 256 := by simp [IntKind.wrap, IntKind.signed, IntKind.bits]; omega
            have q2 : IntKind.i64.wrap (4 * (k : Int)) = 4 * k := by simp [IntKind.wrap, IntKind.signed, IntKind.bits]; omega
            have q3 : IntKind.i64.wrap (4 * (k : Int) + j) = 4 * k + j := by simp [IntKind.wrap, IntKind.signed, IntKind.bits]; omega
            have q4 : IntKind.u64.wrap (y : Int) = y := by simp [IntKind.wrap, IntKind.signed, IntKind.bits]; omega
            have q5 : IntKind.u64.wrap ((p : Int) * 256 + y) = p * 256 + y := by simp [IntKind.wrap, IntKind.signed, IntKind.bits]; omega
            have q6 : ((4 : Int) * k + j < 64) = True := eq_true (by omega)
            have q7 : ((0 : Int) ≤ 4 * k + j) = True := eq_true (by omega)
            have q8 : ((4 : Int) * k + j).toNat = 4 * k + j := by omega
            have q9 : ((k : Int) < 64) = True := eq_true (by omega)
            go_upto_region 9 with (fail)
            go_still_tail 15, (by kernel_rfl)
            change wpList _ _ _ _ _ wr.drew
            go_wp2
            go_roundg (4 - j)
            case measure => go_light; rw [hkg2.out]; omega
            case rel => go_light; exact ⟨j + 1, by omega, by omega, by go_num, by rw [hpn]; exact h7n, hgn⟩
          · obtain rfl : j = 4 := by omega
            rw [← hnext.out] at h7
            go_wp2
            go_roundg (64 - k)
            case measure => go_light; rw [hkg.out]; omega
            case rel => go_light; exact ⟨k + 1, by omega, by omega, by go_num, h7, hg⟩
      · have hnext := filled_next b hlt
        rw [if_neg h16] at hnext
        have hwl := words_lt hb8 k
        have hget : ∀ d, d < k → k ≤ 64 → wr.cell? ⟨w.heap.size + 1 + 1 + 1, d, none⟩ = some (.int .u64 (((words b k).getD d 0 : Nat) : Int)) := fun d hd hk => by
          have := arr_cell h7 (i := d) (by rw [filled_length b hk]; omega)
          rw [filled_getD b hd] at this
          exact this
        have c15 := hget (k - 15) (by omega) hk
        have c2 := hget (k - 2) (by omega) hk
        have c16 := hget (k - 16) (by omega) hk
        have c7 := hget (k - 7) (by omega) hk
        have l15 : (words b k).getD (k - 15) 0 < 4294967296 := getD_lt (by decide) hwl _
        have l2 : (words b k).getD (k - 2) 0 < 4294967296 := getD_lt (by decide) hwl _
        have l16 : (words b k).getD (k - 16) 0 < 4294967296 := getD_lt (by decide) hwl _
        have l7 : (words b k).getD (k - 7) 0 < 4294967296 := getD_lt (by decide) hwl _
        unfold nextWord at hnext
        generalize (words b k).getD (k - 15) 0 = x15 at *
        generalize (words b k).getD (k - 2) 0 = x2 at *
        generalize (words b k).getD (k - 16) 0 = x16 at *
        generalize (words b k).getD (k - 7) 0 = x7 at *
        clear hget hwl
        have R7 := fun w => right01_calls x15 7 l15 (by decide) w
        have R18 := fun w => right01_calls x15 18 l15 (by decide) w
        have R17 := fun w => right01_calls x2 17 l2 (by decide) w
        have R19 := fun w => right01_calls x2 19 l2 (by decide) w
        have m7 := rr_lt 7 x15
        have m18 := rr_lt 18 x15
        have m17 := rr_lt 17 x2
        have m19 := rr_lt 19 x2
        generalize rr 7 x15 = r7 at *
        generalize rr 18 x15 = r18 at *
        generalize rr 17 x2 = r17 at *
        generalize rr 19 x2 = r19 at *
        obtain ⟨d8, e8⟩ : ∃ d8, x15 / 8 = d8 := ⟨_, rfl⟩
        obtain ⟨d10, e10⟩ : ∃ d10, x2 / 1024 = d10 := ⟨_, rfl⟩
        have n8 : d8 < 4294967296 := by omega
        have n10 : d10 < 4294967296 := by omega
        have t8 : (x15 : Int).tdiv 8 = d8 := by rw [Int.tdiv_eq_ediv_of_nonneg (Int.natCast_nonneg _)]; omega
        have t10 : (x2 : Int).tdiv 1024 = d10 := by rw [Int.tdiv_eq_ediv_of_nonneg (Int.natCast_nonneg _)]; omega
        rw [e8, e10] at hnext
        have xx : ∀ a b : Nat, a < 4294967296 → b < 4294967296 → a ^^^ b < 4294967296 := fun a b ha hb => Nat.xor_lt_two_pow (n := 32) ha hb
        have b1 := u64_xor_nat r7 r18 (by omega) (by omega)
        have b2 := u64_xor_nat r17 r19 (by omega) (by omega)
        have n1 := xx r7 r18 m7 m18
        have n2 := xx r17 r19 m17 m19
        generalize r7 ^^^ r18 = y1 at *
        generalize r17 ^^^ r19 = y2 at *
        have b3 := u64_xor_nat y1 d8 (by omega) (by omega)
        have b4 := u64_xor_nat y2 d10 (by omega) (by omega)
        have n3 := xx y1 d8 n1 n8
        have n4 := xx y2 d10 n2 n10
        generalize y1 ^^^ d8 = y3 at *
        generalize y2 ^^^ d10 = y4 at *
        clear xx
        replace hnext := Lib.hid hnext
        replace R7 := Lib.hid R7
        replace R18 := Lib.hid R18
        replace R17 := Lib.hid R17
        replace R19 := Lib.hid R19
        have g15 : IntKind.i64.wrap ((k : Int) - 15) = k - 15 := by simp [IntKind.wrap, IntKind.signed, IntKind.bits]; omega
        have g2 : IntKind.i64.wrap ((k : Int) - 2) = k - 2 := by simp [IntKind.wrap, IntKind.signed, IntKind.bits]; omega
        have g16 : IntKind.i64.wrap ((k : Int) - 16) = k - 16 := by simp [IntKind.wrap, IntKind.signed, IntKind.bits]; omega
        have g7 : IntKind.i64.wrap ((k : Int) - 7) = k - 7 := by simp [IntKind.wrap, IntKind.signed, IntKind.bits]; omega
        have j15 : ((k : Int) - 15).toNat = k - 15 := by omega
        have j2 : ((k : Int) - 2).toNat = k - 2 := by omega
        have j16 : ((k : Int) - 16).toNat = k - 16 := by omega
        have j7 : ((k : Int) - 7).toNat = k - 7 := by omega
        have i15 : ((k : Int) - 15 < 64) = True := eq_true (by omega)
        have i2 : ((k : Int) - 2 < 64) = True := eq_true (by omega)
        have i16 : ((k : Int) - 16 < 64) = True := eq_true (by omega)
        have i7 : ((k : Int) - 7 < 64) = True := eq_true (by omega)
        have o15 : ((0 : Int) ≤ (k : Int) - 15) = True := eq_true (by omega)
        have o2 : ((0 : Int) ≤ (k : Int) - 2) = True := eq_true (by omega)
        have o16 : ((0 : Int) ≤ (k : Int) - 16) = True := eq_true (by omega)
        have o7 : ((0 : Int) ≤ (k : Int) - 7) = True := eq_true (by omega)
        have q9 : ((k : Int) < 64) = True := eq_true (by omega)
        have p16 : ((k : Int) < 16) = False := eq_false (by omega)
        have r16 : ((16 : Int) ≤ k) = True := eq_true (by omega)
        have r7' : ((7 : Int) ≤ k) = True := eq_true (by omega)
        go_upto_region 10 with (fail)
        go_quiet (fail)
        go_upto_region 11 with (fail)
        have h7q := (h7.drewN nq).drew
        have hgq := only_drew (only_drewN hg nq)
        have z16 : (wr.drewN nq).drew.cell? ⟨w.heap.size + 1 + 1 + 1, k - 16, none⟩ = some (.int .u64 (x16 : Int)) := c16
        have z7 : (wr.drewN nq).drew.cell? ⟨w.heap.size + 1 + 1 + 1, k - 7, none⟩ = some (.int .u64 (x7 : Int)) := c7
        clear h7 hg c16 c7 c15 c2
        generalize wr.drewN nq = W2 at *
        have f0 := h7q.frozen k
        have e0 : W2.drew.cell? ⟨w.heap.size + 1 + 1 + 1, k, none⟩ = some (.int .u64 (((filled b k).getD k 0 : Nat) : Int)) := arr_cell h7q (i := k) (by rw [filled_length b hk]; exact hlt)
        generalize (filled b k).getD k 0 = old at e0
        have u1 : IntKind.u64.wrap ((x16 : Int) + x7) = x16 + x7 := by simp [IntKind.wrap, IntKind.signed, IntKind.bits]; omega
        have u2 : IntKind.u64.wrap ((x16 : Int) + x7 + y3) = x16 + x7 + y3 := by simp [IntKind.wrap, IntKind.signed, IntKind.bits]; omega
        have u3 : IntKind.u64.wrap ((x16 : Int) + x7 + y3 + y4) = x16 + x7 + y3 + y4 := by simp [IntKind.wrap, IntKind.signed, IntKind.bits]; omega
        obtain ⟨z, ez⟩ : ∃ z, (x16 + x7 + y3 + y4) % 4294967296 = z := ⟨_, rfl⟩
        have ez2 : ((x16 : Int) + x7 + y3 + y4) % 4294967296 = z := by omega
        have u4 : ((x16 : Int) + x7 + y3 + y4).tmod 4294967296 = z := by rw [Int.tmod_eq_emod_of_nonneg (by omega)]; omega
        have h7n := arr_put h7q k z
        have hgn := only_put hgq (p := ⟨w.heap.size + 1 + 1 + 1, k, none⟩) (.inl rfl) (.int .u64 (z : Int))
        refine wp_region_still_tail 30 (by kernel_rfl) (by kernel_rfl) ?_
        simp only [List.take_succ_cons, List.take_zero, List.drop_succ_cons, List.drop_zero]
        repeat still_step
        still_call (R7.out _)
        repeat still_step
        still_call (R18.out _)
        repeat still_step
        still_call (R17.out _)
        repeat still_step
        still_call (R19.out _)
        repeat still_step
        refine wpStill_nil ?_
        change wpList _ _ _ _ _ W2.drew
        go_wp2
        go_roundg (64 - k)
        case measure => go_light; rw [hkg.out]; omega
        case rel => go_light; exact ⟨k + 1, by omega, by omega, by go_num, by rw [hnext.out, ez]; exact h7n, hgn⟩
    · obtain rfl : k = 64 := by omega
      clear hkg
      have hgs := hg.size
      have h3' := h3.only hg (by simp only [ne_eq, Option.some.injEq]; omega)
      have h4' := h4.only hg (by simp only [ne_eq, Option.some.injEq]; omega)
      have h6' := h6.only hg (by simp only [ne_eq, Option.some.injEq]; omega)
      have hB' := below_only' hB hg (by omega)
      go_upto_region 13 with (first | (first | ((with_reducible apply wl_loadW (ty := 156) h4' Try.underlying156); rfl; rfl; rfl; kernel_rfl) | ((with_reducible apply wl_loadW (ty := 156) (h4'.alloc _) Try.underlying156); rfl; rfl; rfl; kernel_rfl) | ((with_reducible apply wl_loadW (ty := 156) ((h4'.alloc _).alloc _) Try.underlying156); rfl; rfl; rfl; kernel_rfl)) | fail)
      have h12 := Whole.new wr 156 #[.int .u64 v.a, .int .u64 v.b, .int .u64 v.c, .int .u64 v.d, .int .u64 v.e, .int .u64 v.f, .int .u64 v.g, .int .u64 v.h]
      have hne := h7.lt
      replace h3' := h3'.alloc (.cells #[.int .u64 v.a, .int .u64 v.b, .int .u64 v.c, .int .u64 v.d, .int .u64 v.e, .int .u64 v.f, .int .u64 v.g, .int .u64 v.h] 156)
      replace h4' := h4'.alloc (.cells #[.int .u64 v.a, .int .u64 v.b, .int .u64 v.c, .int .u64 v.d, .int .u64 v.e, .int .u64 v.f, .int .u64 v.g, .int .u64 v.h] 156)
      replace h6' := h6'.alloc (.cells #[.int .u64 v.a, .int .u64 v.b, .int .u64 v.c, .int .u64 v.d, .int .u64 v.e, .int .u64 v.f, .int .u64 v.g, .int .u64 v.h] 156)
      replace h7 := h7.alloc (.cells #[.int .u64 v.a, .int .u64 v.b, .int .u64 v.c, .int .u64 v.d, .int .u64 v.e, .int .u64 v.f, .int .u64 v.g, .int .u64 v.h] 156)
      replace hB' := hB'.alloc hB'.size (.cells #[.int .u64 v.a, .int .u64 v.b, .int .u64 v.c, .int .u64 v.d, .int .u64 v.e, .int .u64 v.f, .int .u64 v.g, .int .u64 v.h] 156)
      have hsz2 : wr.heap.size < (wr.alloc (.cells #[.int .u64 v.a, .int .u64 v.b, .int .u64 v.c, .int .u64 v.d, .int .u64 v.e, .int .u64 v.f, .int .u64 v.g, .int .u64 v.h] 156)).heap.size := by simp
      obtain ⟨G, eG⟩ : ∃ G, wr.heap.size = G := ⟨_, rfl⟩
      rw [eG] at h12 hsz2 hne ⊢
      generalize wr.alloc (.cells #[.int .u64 v.a, .int .u64 v.b, .int .u64 v.c, .int .u64 v.d, .int .u64 v.e, .int .u64 v.f, .int .u64 v.g, .int .u64 v.h] 156) = W2 at *
      have hg0 : W2.grownBy W2 (some G) := only_same _ _
      clear hg h3 h4 h6 hB hbW hgs
      replace h12 : Whole W2 G 156 (arr .u64 (rounds K (words b 64) v 0).L) := h12
      go_wp2_with (fail)
      go_loopg [13] 65 (fun kg i wr => ∃ (n : Nat), n ≤ 64 ∧ kg = 65 - n ∧ i = .int .i64 n ∧ Whole wr G 156 (arr .u64 (rounds K (words b 64) v n).L) ∧ W2.grownBy wr (some G))
      case atStart => exact ⟨0, by decide, rfl, rfl, h12, hg0⟩
      case round =>
        clear h12 hg0
        obtain ⟨n, hn, hkg, rfl, h12, hg⟩ := hrel
        replace hkg := Lib.hid hkg
        by_cases hlt : n < 64
        · have hnx : rounds K (words b 64) v (n + 1) = (rounds K (words b 64) v n).round (K.getD n 0) ((words b 64).getD n 0) := rfl
          have hok := rounds_ok K (words b 64) hv n
          have kc : wr.cell? ⟨w.heap.size, n, none⟩ = some (.int .u64 ((K.getD n 0 : Nat) : Int)) := arr_cell (h3'.only hg (by simp only [ne_eq, Option.some.injEq]; omega)) (by omega)
          have wc : wr.cell? ⟨w.heap.size + 1 + 1 + 1, n, none⟩ = some (.int .u64 (((words b 64).getD n 0 : Nat) : Int)) := by
            have := arr_cell (h7.only hg (by simp only [ne_eq, Option.some.injEq]; omega)) (i := n) (by rw [filled_length b (Nat.le_refl _)]; omega)
            rw [filled_getD b hlt] at this
            exact this
          have kl : K.getD n 0 < 4294967296 := getD_lt (by decide) hK32 _
          have wl : (words b 64).getD n 0 < 4294967296 := getD_lt (by decide) (words_lt hb8 64) _
          generalize (words b 64).getD n 0 = wn at *
          generalize K.getD n 0 = kn at *
          generalize rounds K (words b 64) v n = u at *
          obtain ⟨ua, ub, uc, ud, ue, uf, ug, uh⟩ := u
          obtain ⟨la, lb, lc, ld, le, lf, lg, lh⟩ := hok
          simp only at la lb lc ld le lf lg lh
          simp only [V8.round, V8.t1, V8.t2, chN, majN] at hnx
          have a0 : wr.cell? ⟨G, 0, none⟩ = some (.int .u64 (ua : Int)) := h12.cell 0
          have a1 : wr.cell? ⟨G, 1, none⟩ = some (.int .u64 (ub : Int)) := h12.cell 1
          have a2 : wr.cell? ⟨G, 2, none⟩ = some (.int .u64 (uc : Int)) := h12.cell 2
          have a4 : wr.cell? ⟨G, 4, none⟩ = some (.int .u64 (ue : Int)) := h12.cell 4
          have a5 : wr.cell? ⟨G, 5, none⟩ = some (.int .u64 (uf : Int)) := h12.cell 5
          have a6 : wr.cell? ⟨G, 6, none⟩ = some (.int .u64 (ug : Int)) := h12.cell 6
          have a7 : wr.cell? ⟨G, 7, none⟩ = some (.int .u64 (uh : Int)) := h12.cell 7
          have xx : ∀ x y : Nat, x < 4294967296 → y < 4294967296 → x ^^^ y < 4294967296 := fun x y hx hy => Nat.xor_lt_two_pow (n := 32) hx hy
          have oo : ∀ x y : Nat, x < 4294967296 → y < 4294967296 → x ||| y < 4294967296 := fun x y hx hy => Nat.or_lt_two_pow (n := 32) hx hy
          have nn : ∀ x y : Nat, x < 4294967296 → x &&& y < 4294967296 := fun x y hx => Nat.lt_of_le_of_lt Nat.and_le_left hx
          -- ch
          obtain ⟨m, em⟩ : ∃ m, 4294967295 - ue = m := ⟨_, rfl⟩
          have lm : m < 4294967296 := by omega
          have c0 : IntKind.u64.wrap (4294967295 - (ue : Int)) = m := by simp [IntKind.wrap, IntKind.signed, IntKind.bits]; omega
          have c0' : (4294967295 - (ue : Int)) = m := by omega
          have c1 := u64_and_nat ue uf (by omega) (by omega)
          have c2 := u64_and_nat m ug (by omega) (by omega)
          have d1 := nn ue uf le
          have d2 := nn m ug lm
          rw [em] at hnx
          generalize ue &&& uf = x1 at *
          generalize m &&& ug = x2 at *
          have c3 := u64_xor_nat x1 x2 (by omega) (by omega)
          have d3 := xx x1 x2 d1 d2
          generalize x1 ^^^ x2 = x3 at *
          -- maj
          have c4 := u64_and_nat ua ub (by omega) (by omega)
          have c5 := u64_and_nat ua uc (by omega) (by omega)
          have c6 := u64_and_nat ub uc (by omega) (by omega)
          have d4 := nn ua ub la
          have d5 := nn ua uc la
          have d6 := nn ub uc lb
          generalize ua &&& ub = y1 at *
          generalize ua &&& uc = y2 at *
          generalize ub &&& uc = y4 at *
          have c7 := u64_or_nat y1 y2 (by omega) (by omega)
          have d7 := oo y1 y2 d4 d5
          generalize y1 ||| y2 = y3 at *
          have c8 := u64_or_nat y3 y4 (by omega) (by omega)
          have d8 := oo y3 y4 d7 d6
          generalize y3 ||| y4 = y5 at *
          -- sigmas
          have R6 := fun w => right01_calls ue 6 le (by decide) w
          have R11 := fun w => right01_calls ue 11 le (by decide) w
          have R25 := fun w => right01_calls ue 25 le (by decide) w
          have R2 := fun w => right01_calls ua 2 la (by decide) w
          have R13 := fun w => right01_calls ua 13 la (by decide) w
          have R22 := fun w => right01_calls ua 22 la (by decide) w
          have m6 := rr_lt 6 ue
          have m11 := rr_lt 11 ue
          have m25 := rr_lt 25 ue
          have m2 := rr_lt 2 ua
          have m13 := rr_lt 13 ua
          have m22 := rr_lt 22 ua
          generalize rr 6 ue = r6 at *
          generalize rr 11 ue = r11 at *
          generalize rr 25 ue = r25 at *
          generalize rr 2 ua = r2 at *
          generalize rr 13 ua = r13 at *
          generalize rr 22 ua = r22 at *
          have c9 := u64_xor_nat r6 r11 (by omega) (by omega)
          have d9 := xx r6 r11 m6 m11
          generalize r6 ^^^ r11 = s1 at *
          have c10 := u64_xor_nat s1 r25 (by omega) (by omega)
          have d10 := xx s1 r25 d9 m25
          generalize s1 ^^^ r25 = s2 at *
          have c11 := u64_xor_nat r2 r13 (by omega) (by omega)
          have d11 := xx r2 r13 m2 m13
          generalize r2 ^^^ r13 = s3 at *
          have c12 := u64_xor_nat s3 r22 (by omega) (by omega)
          have d12 := xx s3 r22 d11 m22
          generalize s3 ^^^ r22 = s4 at *
          clear xx oo nn
          have w1 : IntKind.u64.wrap ((uh : Int) + s2) = uh + s2 := by simp [IntKind.wrap, IntKind.signed, IntKind.bits]; omega
          have w2 : IntKind.u64.wrap ((uh : Int) + s2 + x3) = uh + s2 + x3 := by simp [IntKind.wrap, IntKind.signed, IntKind.bits]; omega
          have w3 : IntKind.u64.wrap ((uh : Int) + s2 + x3 + kn) = uh + s2 + x3 + kn := by simp [IntKind.wrap, IntKind.signed, IntKind.bits]; omega
          have w4 : IntKind.u64.wrap ((uh : Int) + s2 + x3 + kn + wn) = uh + s2 + x3 + kn + wn := by simp [IntKind.wrap, IntKind.signed, IntKind.bits]; omega
          have w5 : IntKind.u64.wrap ((s4 : Int) + y5) = s4 + y5 := by simp [IntKind.wrap, IntKind.signed, IntKind.bits]; omega
          have q9 : ((n : Int) < 64) = True := eq_true (by omega)
          replace hnx := Lib.hid hnx
          replace R6 := Lib.hid R6
          replace R11 := Lib.hid R11
          replace R25 := Lib.hid R25
          replace R2 := Lib.hid R2
          replace R13 := Lib.hid R13
          replace R22 := Lib.hid R22
          go_upto_region 18 with (fail)
          have A4 : wr.drew.cell? ⟨G, 4, none⟩ = some (.int .u64 (ue : Int)) := a4
          have A7 : wr.drew.cell? ⟨G, 7, none⟩ = some (.int .u64 (uh : Int)) := a7
          have KC : wr.drew.cell? ⟨w.heap.size, n, none⟩ = some (.int .u64 (kn : Int)) := kc
          have WC : wr.drew.cell? ⟨w.heap.size + 1 + 1 + 1, n, none⟩ = some (.int .u64 (wn : Int)) := wc
          refine wp_region_still_lit (by kernel_rfl) (by kernel_rfl) ?_
          rw [show ({ wr with drawn := wr.drawn + 1 } : World) = wr.drew from rfl]
          repeat still_step
          still_call (R6.out _)
          repeat still_step
          still_call (R11.out _)
          repeat still_step
          still_call (R25.out _)
          repeat still_step
          refine wpStill_nil ?_
          clear a1 a2 a4 a5 a6 a7 kc wc A4 A7 KC WC
          replace h12 := h12.drew
          replace hg := only_drew hg
          replace a0 : wr.drew.cell? ⟨G, 0, none⟩ = some (.int .u64 (ua : Int)) := a0
          go_upto_region 19 with (fail)
          generalize wr.drew = W3 at *
          have A0 : W3.drew.cell? ⟨G, 0, none⟩ = some (.int .u64 (ua : Int)) := a0
          refine wp_region_still_lit (by kernel_rfl) (by kernel_rfl) ?_
          rw [show ({ W3 with drawn := W3.drawn + 1 } : World) = W3.drew from rfl]
          repeat still_step
          still_call (R2.out _)
          repeat still_step
          still_call (R13.out _)
          repeat still_step
          still_call (R22.out _)
          repeat still_step
          refine wpStill_nil ?_
          replace h12 := h12.drew
          replace hg := only_drew hg
          clear a0 A0
          generalize W3.drew = W4 at *
          go_wp2_with (fail)
          clear c0 c0' c1 c2 c3 c4 c5 c6 c7 c8 c9 c10 c11 c12 w1 w2 w3 w4 w5 R6 R11 R25 R2 R13 R22
          obtain ⟨T1, eT1⟩ : ∃ T1, uh + s2 + x3 + kn + wn = T1 := ⟨_, rfl⟩
          obtain ⟨T2, eT2⟩ : ∃ T2, s4 + y5 = T2 := ⟨_, rfl⟩
          rw [show ((uh : Int) + s2 + x3 + kn + wn) = (T1 : Int) by omega, show ((s4 : Int) + y5) = (T2 : Int) by omega]
          have lT1 : T1 < 21474836480 := by omega
          have lT2 : T2 < 8589934592 := by omega
          replace hnx := hnx.out
          rw [eT1, eT2] at hnx
          replace hnx := Lib.hid hnx
          clear eT1 eT2 d1 d2 d3 d4 d5 d6 d7 d8 d9 d10 d11 d12 m6 m11 m25 m2 m13 m22 kl wl lm
          go_loopg [18] 8 (fun kg2 jj wr => ∃ (j : Nat), j ≤ 7 ∧ kg2 = j + 1 ∧ jj = .int .i64 j ∧ Whole wr G 156 (arr .u64 ((⟨ua, ub, uc, ud, ue, uf, ug, uh⟩ : V8).shl j)) ∧ W2.grownBy wr (some G))
          case atStart => exact ⟨7, by decide, rfl, rfl, h12, hg⟩
          case round =>
            clear h12 hg
            obtain ⟨j, hj, hkg2, rfl, h12, hg⟩ := hrel
            replace hkg2 := Lib.hid hkg2
            cases j with
            | zero =>
              have a4 : wr.cell? ⟨G, 4, none⟩ = some (.int .u64 (ud : Int)) := h12.cell 4
              have a0 : wr.cell? ⟨G, 0, none⟩ = some (.int .u64 (ua : Int)) := h12.cell 0
              have f4 := h12.frozen 4
              have f0 := h12.frozen 0
              have v1 : IntKind.u64.wrap ((ud : Int) + T1) = ud + T1 := by simp [IntKind.wrap, IntKind.signed, IntKind.bits]; omega
              have v2 : IntKind.u64.wrap ((T1 : Int) + T2) = T1 + T2 := by simp [IntKind.wrap, IntKind.signed, IntKind.bits]; omega
              obtain ⟨z4, e4⟩ : ∃ z, (ud + T1) % 4294967296 = z := ⟨_, rfl⟩
              obtain ⟨z0, e0⟩ : ∃ z, (T1 + T2) % 4294967296 = z := ⟨_, rfl⟩
              have v3 : ((ud : Int) + T1) % 4294967296 = z4 := by omega
              have v4 : ((T1 : Int) + T2) % 4294967296 = z0 := by omega
              have v5 : ((ud : Int) + T1).tmod 4294967296 = z4 := by rw [Int.tmod_eq_emod_of_nonneg (by omega)]; omega
              have v6 : ((T1 : Int) + T2).tmod 4294967296 = z0 := by rw [Int.tmod_eq_emod_of_nonneg (by omega)]; omega
              have h12n := (arr_put (arr_put h12 4 z4) 0 z0)
              have hgn := only_put (only_put hg (p := ⟨G, 4, none⟩) (.inl rfl) (.int .u64 (z4 : Int))) (p := ⟨G, 0, none⟩) (.inl rfl) (.int .u64 (z0 : Int))
              have hnx2 := hnx.out
              rw [e4, e0] at hnx2
              replace hnx2 := Lib.hid hnx2
              go_wp2
              go_roundg (64 - n)
              case measure => go_light; rw [hkg.out]; omega
              case rel => go_light; exact ⟨n + 1, by omega, by omega, by go_num, by rw [hnx2.out]; exact h12n, hgn⟩
            | succ j =>
              have hl8 := V8.shl_length (⟨ua, ub, uc, ud, ue, uf, ug, uh⟩ : V8) (j + 1)
              have hst := V8.shl_step (⟨ua, ub, uc, ud, ue, uf, ug, uh⟩ : V8) (j := j) (by omega)
              have e1 : wr.cell? ⟨G, j, none⟩ = some (.int .u64 ((((⟨ua, ub, uc, ud, ue, uf, ug, uh⟩ : V8).shl (j + 1)).getD j 0 : Nat) : Int)) := arr_cell h12 (by rw [hl8]; omega)
              have e2 := arr_cell h12 (i := j + 1) (by rw [hl8]; omega)
              have f2 := h12.frozen (j + 1)
              have h12n := arr_put h12 (j + 1) (((⟨ua, ub, uc, ud, ue, uf, ug, uh⟩ : V8).shl (j + 1)).getD j 0)
              rw [hst] at h12n
              have hgn := only_put hg (p := ⟨G, j + 1, none⟩) (.inl rfl) (.int .u64 ((((⟨ua, ub, uc, ud, ue, uf, ug, uh⟩ : V8).shl (j + 1)).getD j 0 : Nat) : Int))
              clear hst
              generalize ((⟨ua, ub, uc, ud, ue, uf, ug, uh⟩ : V8).shl (j + 1)).getD j 0 = x at *
              generalize ((⟨ua, ub, uc, ud, ue, uf, ug, uh⟩ : V8).shl (j + 1)).getD (j + 1) 0 = y at *
              go_wp2
              go_roundg (j + 1)
              case measure => go_light; rw [hkg2.out]; omega
              case rel => go_light; exact ⟨j, by omega, by omega, by go_num, h12n, hgn⟩
        · obtain rfl : n = 64 := by omega
          obtain ⟨u, eu⟩ : ∃ u, rounds K (words b 64) v 64 = u := ⟨_, rfl⟩
          have hou := rounds_ok K (words b 64) hv 64
          rw [eu] at h12 hou
          replace eu := Lib.hid eu
          have h4n : Whole wr (w.heap.size + 1) 156 (arr .u64 (v.sums u 0)) := h4'.only hg (by simp only [ne_eq, Option.some.injEq]; omega)
          have h6n := h6'.only hg (by simp only [ne_eq, Option.some.injEq]; omega)
          have hBn := below_only' hB' hg (by omega)
          have hgs := hg.size
          clear h3' h4' h6' h7 hB' hkg hg
          generalize wr = W5 at *
          have hg1 : W5.grownBy W5 (some (w.heap.size + 1)) := only_same _ _
          go_wp2_with (fail)
          go_loopg [19] 9 (fun kg i wr => ∃ (n : Nat), n ≤ 8 ∧ kg = 9 - n ∧ i = .int .i64 n ∧ Whole wr (w.heap.size + 1) 156 (arr .u64 (v.sums u n)) ∧ W5.grownBy wr (some (w.heap.size + 1)))
          case atStart => exact ⟨0, by decide, rfl, rfl, h4n, hg1⟩
          case round =>
            clear h4n hg1
            obtain ⟨n, hn, hkg, rfl, h4n, hg⟩ := hrel
            replace hkg := Lib.hid hkg
            by_cases hlt : n < 8
            · obtain ⟨hst, hgd⟩ := V8.sums_step v u hlt
              have e0 : wr.drew.cell? ⟨w.heap.size + 1, n, none⟩ = some (.int .u64 (((v.sums u n).getD n 0 : Nat) : Int)) := arr_cell h4n.drew (by rw [V8.sums_length v u hn]; omega)
              have e1 : wr.drew.cell? ⟨G, n, none⟩ = some (.int .u64 ((u.L.getD n 0 : Nat) : Int)) := arr_cell (h12.only hg (by simp only [ne_eq, Option.some.injEq]; omega)).drew (by show n < 8; omega)
              have f0 := h4n.drew.frozen n
              have l0 : (v.sums u n).getD n 0 < 4294967296 := by rw [hgd]; exact getD_lt (by decide) (V8.L_lt hv) _
              have l1 : u.L.getD n 0 < 4294967296 := getD_lt (by decide) (V8.L_lt hou) _
              clear hgd
              generalize (v.sums u n).getD n 0 = x at *
              generalize u.L.getD n 0 = y at *
              obtain ⟨z, ez⟩ : ∃ z, (x + y) % 4294967296 = z := ⟨_, rfl⟩
              rw [ez] at hst
              have h4m := arr_put h4n.drew n z
              rw [hst] at h4m
              have hgn := only_put (only_drew hg) (p := ⟨w.heap.size + 1, n, none⟩) (.inl rfl) (.int .u64 (z : Int))
              have v1 : IntKind.u64.wrap ((x : Int) + y) = x + y := by simp [IntKind.wrap, IntKind.signed, IntKind.bits]; omega
              have v3 : ((x : Int) + y) % 4294967296 = z := by omega
              have v5 : ((x : Int) + y).tmod 4294967296 = z := by rw [Int.tmod_eq_emod_of_nonneg (by omega)]; omega
              have q9 : ((n : Int) < 8) = True := eq_true (by omega)
              clear hst
              go_upto_region 29 with (fail)
              go_still_tail 10, (by kernel_rfl)
              change wpList _ _ _ _ _ wr.drew
              go_wp2
              go_roundg (8 - n)
              case measure => go_light; rw [hkg.out]; omega
              case rel => go_light; exact ⟨n + 1, by omega, by omega, by go_num, h4m, hgn⟩
            · obtain rfl : n = 8 := by omega
              replace h4n : Whole wr (w.heap.size + 1) 156 (arr .u64 (v.plus u).L) := h4n
              have h6m := h6n.only hg (by simp only [ne_eq, Option.some.injEq]; omega)
              have hBm := below_only' hBn hg (by omega)
              go_wp2_with (first | (first | ((with_reducible apply wl_loadW (ty := 156) h4n Try.underlying156); rfl; rfl; rfl; kernel_rfl) | ((with_reducible apply wl_loadW (ty := 156) (h4n.alloc _) Try.underlying156); rfl; rfl; rfl; kernel_rfl) | ((with_reducible apply wl_loadW (ty := 156) ((h4n.alloc _).alloc _) Try.underlying156); rfl; rfl; rfl; kernel_rfl)) | ((with_reducible apply wl_storeW (ty := 156) h6m); rfl; rfl; rfl; kernel_rfl; rfl; rfl; intro w9 hs9 hg9 hz9))
              refine bodyPost_ret (results_cell_row rfl _ _ _ _ _ _ _ (by rfl) hs9 Try.underlying156 rfl (by kernel_rfl)) rfl ?_
              go_light
              exact ⟨by rw [blockN, eu.out], below_only' hBm hg9 (by omega)⟩
end Go.Proofs.Ytknjbkbbhgjnlaa
