/- Several texts in one. No conditions. -/
import Derived.Test.YtknjbkbbhgjnlaaToolA
import Derived.Laws.BitsAllLaws
import Derived.Laws.IdiomStrings
import Derived.Maps.AppendAt
import Derived.ArgAppend
import Derived.StillTactics
/- SHA-256 as plain functions over natural numbers. No conditions. -/
namespace Go.Proofs.Ytknjbkbbhgjnlaa
open Go.RowKit
set_option linter.unusedVariables false
/-- A word turned right. -/
def rr (n x : Nat) : Nat := (x * 4294967296 + x) / 2 ^ n % 4294967296
theorem rr_lt (n x : Nat) : rr n x < 4294967296 := Nat.mod_lt _ (by decide)
/-- The eight words on their way. -/
structure V8 where
  a : Nat
  b : Nat
  c : Nat
  d : Nat
  e : Nat
  f : Nat
  g : Nat
  h : Nat
def V8.ok (v : V8) : Prop := v.a < 4294967296 ∧ v.b < 4294967296 ∧ v.c < 4294967296 ∧ v.d < 4294967296 ∧ v.e < 4294967296 ∧ v.f < 4294967296 ∧ v.g < 4294967296 ∧ v.h < 4294967296
def V8.L (v : V8) : List Nat := [v.a, v.b, v.c, v.d, v.e, v.f, v.g, v.h]
def chN (e f g : Nat) : Nat := (e &&& f) ^^^ ((4294967295 - e) &&& g)
def majN (a b c : Nat) : Nat := ((a &&& b) ||| (a &&& c)) ||| (b &&& c)
def V8.t1 (v : V8) (k w : Nat) : Nat := v.h + ((rr 6 v.e ^^^ rr 11 v.e) ^^^ rr 25 v.e) + chN v.e v.f v.g + k + w
def V8.t2 (v : V8) : Nat := ((rr 2 v.a ^^^ rr 13 v.a) ^^^ rr 22 v.a) + majN v.a v.b v.c
def V8.round (v : V8) (k w : Nat) : V8 := ⟨(v.t1 k w + v.t2) % 4294967296, v.a, v.b, v.c, (v.d + v.t1 k w) % 4294967296, v.e, v.f, v.g⟩
theorem V8.round_ok {v : V8} (h : v.ok) (k w : Nat) : (v.round k w).ok := by
  obtain ⟨h1, h2, h3, h4, h5, h6, h7, h8⟩ := h
  exact ⟨Nat.mod_lt _ (by decide), h1, h2, h3, Nat.mod_lt _ (by decide), h5, h6, h7⟩
def V8.plus (v u : V8) : V8 := ⟨(v.a + u.a) % 4294967296, (v.b + u.b) % 4294967296, (v.c + u.c) % 4294967296, (v.d + u.d) % 4294967296, (v.e + u.e) % 4294967296, (v.f + u.f) % 4294967296, (v.g + u.g) % 4294967296, (v.h + u.h) % 4294967296⟩
theorem V8.plus_ok (v u : V8) : (v.plus u).ok := ⟨Nat.mod_lt _ (by decide), Nat.mod_lt _ (by decide), Nat.mod_lt _ (by decide), Nat.mod_lt _ (by decide), Nat.mod_lt _ (by decide), Nat.mod_lt _ (by decide), Nat.mod_lt _ (by decide), Nat.mod_lt _ (by decide)⟩
/-- A block's word number i, of the bytes; a later one, of those ahead. -/
def byteWord (b : List Nat) (i : Nat) : Nat := ((b.getD (4 * i) 0 * 256 + b.getD (4 * i + 1) 0) * 256 + b.getD (4 * i + 2) 0) * 256 + b.getD (4 * i + 3) 0
def nextWord (w : List Nat) (i : Nat) : Nat :=
  (w.getD (i - 16) 0 + w.getD (i - 7) 0 + ((rr 7 (w.getD (i - 15) 0) ^^^ rr 18 (w.getD (i - 15) 0)) ^^^ w.getD (i - 15) 0 / 8) + ((rr 17 (w.getD (i - 2) 0) ^^^ rr 19 (w.getD (i - 2) 0)) ^^^ w.getD (i - 2) 0 / 1024)) % 4294967296
/-- The first n words. -/
def words (b : List Nat) : Nat → List Nat
  | 0 => []
  | n + 1 => words b n ++ [if n < 16 then byteWord b n else nextWord (words b n) n]
theorem words_length (b : List Nat) (n : Nat) : (words b n).length = n := by
  induction n with
  | zero => rfl
  | succ n ih => simp [words, ih]
theorem byteWord_lt {b : List Nat} (hb : ∀ x ∈ b, x < 256) (i : Nat) : byteWord b i < 4294967296 := by
  have h : ∀ j, b.getD j 0 < 256 := fun j => by
    rw [List.getD_eq_getElem?_getD]
    cases hj : b[j]? with
    | none => simp
    | some x => exact hb x (List.mem_of_getElem? hj)
  have := h (4 * i); have := h (4 * i + 1); have := h (4 * i + 2); have := h (4 * i + 3)
  unfold byteWord
  omega
theorem words_lt {b : List Nat} (hb : ∀ x ∈ b, x < 256) (n : Nat) : ∀ x ∈ words b n, x < 4294967296 := by
  induction n with
  | zero => intro x hx; cases hx
  | succ n ih =>
    intro x hx
    simp only [words, List.mem_append, List.mem_singleton] at hx
    rcases hx with hx | rfl
    · exact ih x hx
    · split
      · exact byteWord_lt hb n
      · exact Nat.mod_lt _ (by decide)
/-- So many rounds. -/
def rounds (K w : List Nat) (v : V8) : Nat → V8
  | 0 => v
  | n + 1 => (rounds K w v n).round (K.getD n 0) (w.getD n 0)
theorem rounds_ok (K w : List Nat) {v : V8} (h : v.ok) (n : Nat) : (rounds K w v n).ok := by
  induction n with
  | zero => exact h
  | succ n ih => exact V8.round_ok ih _ _
/-- A block put in. -/
def blockN (K b : List Nat) (h : V8) : V8 := h.plus (rounds K (words b 64) h 64)
/-- Numbers in a row of one block. -/
def arr (k : IntKind) (l : List Nat) : Array Value := (l.map fun (n : Nat) => Value.int k (n : Int)).toArray
theorem arr_size (k : IntKind) (l : List Nat) : (arr k l).size = l.length := by simp [arr]
theorem arr_cell {W : World} {g : Nat} {T : TypeId} {k : IntKind} {l : List Nat} (h : Whole W g T (arr k l)) {i : Nat} (hi : i < l.length) : W.cell? ⟨g, i, none⟩ = some (.int k ((l.getD i 0 : Nat) : Int)) := by
  rw [h.cell i]
  simp [arr, hi]
theorem arr_put {W : World} {g : Nat} {T : TypeId} {k : IntKind} {l : List Nat} (h : Whole W g T (arr k l)) (i n : Nat) : Whole (W.setCell ⟨g, i, none⟩ (.int k (n : Int))) g T (arr k (l.set i n)) := by
  refine h.put' i _ ?_
  apply Array.ext_getElem?
  intro j
  simp only [arr, List.setIfInBounds_toArray, List.getElem?_toArray, List.map_set]
theorem getD_set (l : List Nat) (i j n : Nat) : (l.set i n).getD j 0 = if i = j ∧ i < l.length then n else l.getD j 0 := by
  simp only [List.getD_eq_getElem?_getD, List.getElem?_set]
  by_cases h : i = j
  · subst h
    by_cases h2 : i < l.length
    · simp [h2]
    · simp [h2]
  · simp [h]
theorem getD_lt {l : List Nat} {m : Nat} (hm : 0 < m) (h : ∀ x ∈ l, x < m) (j : Nat) : l.getD j 0 < m := by
  rw [List.getD_eq_getElem?_getD]
  cases hj : l[j]? with
  | none => simpa using hm
  | some x => exact h x (List.mem_of_getElem? hj)
end Go.Proofs.Ytknjbkbbhgjnlaa

/- The reference's turning right. No conditions. -/
namespace Go.Proofs.Ytknjbkbbhgjnlaa
open Go.RowKit
set_option linter.unusedVariables false
set_option linter.unusedSimpArgs false
set_option maxRecDepth 100000 in
theorem right01_calls (x n : Nat) (hx : x < 4294967296) (hn : n < 32) (w : World) :
    Calls Try.prog 119 #[.int .u64 x, .int .u64 n] w fun e w' => e = .returned (.int .u64 (rr n x)) ∧ w' = w := by
  have hm : x * 4294967296 + x < 18446744073709551616 := by omega
  go_enter Try.func119, Try.ntmps119
  go_wp2
  go_returns
  refine ⟨?_, rfl⟩
  have e : (((x : Int) * 4294967296 + x) / 2 ^ n).tmod 4294967296 = ((rr n x : Nat) : Int) := by
    have e1 : ((x : Int) * 4294967296 + x) / 2 ^ n = (((x * 4294967296 + x) / 2 ^ n : Nat) : Int) := by simp
    rw [e1, Int.tmod_eq_emod_of_nonneg (Int.natCast_nonneg _)]
    unfold rr
    omega
  rw [e]
  rfl
end Go.Proofs.Ytknjbkbbhgjnlaa

/- The reference's tables. No conditions. -/
namespace Go.Proofs.Ytknjbkbbhgjnlaa
open Go.RowKit
set_option linter.unusedVariables false
set_option linter.unusedSimpArgs false
def K64 : List Nat := [0x428a2f98, 0x71374491, 0xb5c0fbcf, 0xe9b5dba5, 0x3956c25b, 0x59f111f1, 0x923f82a4, 0xab1c5ed5, 0xd807aa98, 0x12835b01, 0x243185be, 0x550c7dc3, 0x72be5d74, 0x80deb1fe, 0x9bdc06a7, 0xc19bf174, 0xe49b69c1, 0xefbe4786, 0x0fc19dc6, 0x240ca1cc, 0x2de92c6f, 0x4a7484aa, 0x5cb0a9dc, 0x76f988da, 0x983e5152, 0xa831c66d, 0xb00327c8, 0xbf597fc7, 0xc6e00bf3, 0xd5a79147, 0x06ca6351, 0x14292967, 0x27b70a85, 0x2e1b2138, 0x4d2c6dfc, 0x53380d13, 0x650a7354, 0x766a0abb, 0x81c2c92e, 0x92722c85, 0xa2bfe8a1, 0xa81a664b, 0xc24b8b70, 0xc76c51a3, 0xd192e819, 0xd6990624, 0xf40e3585, 0x106aa070, 0x19a4c116, 0x1e376c08, 0x2748774c, 0x34b0bcb5, 0x391c0cb3, 0x4ed8aa4a, 0x5b9cca4f, 0x682e6ff3, 0x748f82ee, 0x78a5636f, 0x84c87814, 0x8cc70208, 0x90befffa, 0xa4506ceb, 0xbef9a3f7, 0xc67178f2]
theorem K64_length : K64.length = 64 := rfl
theorem K64_lt : ∀ x ∈ K64, x < 4294967296 := by decide
def H8 : V8 := ⟨0x6a09e667, 0xbb67ae85, 0x3c6ef372, 0xa54ff53a, 0x510e527f, 0x9b05688c, 0x1f83d9ab, 0x5be0cd19⟩
theorem H8_ok : H8.ok := by refine ⟨?_, ?_, ?_, ?_, ?_, ?_, ?_, ?_⟩ <;> decide
set_option maxRecDepth 100000 in
theorem H01_calls (w : World) : Calls Try.prog 98 #[] w fun e w' => e = .returned (.agg (arr .u64 H8.L)) ∧ Below w.heap.size w w' := by
  have h1 := Whole.new w 156 (arr .u64 H8.L)
  have hB : Below w.heap.size w (w.alloc (.cells (arr .u64 H8.L) 156)) := by go_grown
  go_enter Try.func98, Try.ntmps98
  go_wp2
  refine bodyPost_ret (results_cell_row rfl _ _ _ _ _ _ _ (by rfl) h1 Try.underlying156 rfl (by kernel_rfl)) rfl ?_
  go_light
  exact ⟨rfl, hB⟩
set_option maxRecDepth 100000 in
theorem K01_calls (w : World) : Calls Try.prog 97 #[] w fun e w' => e = .returned (.agg (arr .u64 K64)) ∧ Below w.heap.size w w' := by
  have h1 := Whole.new w 154 #[.int .u64 0, .int .u64 0, .int .u64 0, .int .u64 0, .int .u64 0, .int .u64 0, .int .u64 0, .int .u64 0, .int .u64 0, .int .u64 0, .int .u64 0, .int .u64 0, .int .u64 0, .int .u64 0, .int .u64 0, .int .u64 0, .int .u64 0, .int .u64 0, .int .u64 0, .int .u64 0, .int .u64 0, .int .u64 0, .int .u64 0, .int .u64 0, .int .u64 0, .int .u64 0, .int .u64 0, .int .u64 0, .int .u64 0, .int .u64 0, .int .u64 0, .int .u64 0, .int .u64 0, .int .u64 0, .int .u64 0, .int .u64 0, .int .u64 0, .int .u64 0, .int .u64 0, .int .u64 0, .int .u64 0, .int .u64 0, .int .u64 0, .int .u64 0, .int .u64 0, .int .u64 0, .int .u64 0, .int .u64 0, .int .u64 0, .int .u64 0, .int .u64 0, .int .u64 0, .int .u64 0, .int .u64 0, .int .u64 0, .int .u64 0, .int .u64 0, .int .u64 0, .int .u64 0, .int .u64 0, .int .u64 0, .int .u64 0, .int .u64 0, .int .u64 0]
  have hB : Below w.heap.size w (w.alloc (.cells #[.int .u64 0, .int .u64 0, .int .u64 0, .int .u64 0, .int .u64 0, .int .u64 0, .int .u64 0, .int .u64 0, .int .u64 0, .int .u64 0, .int .u64 0, .int .u64 0, .int .u64 0, .int .u64 0, .int .u64 0, .int .u64 0, .int .u64 0, .int .u64 0, .int .u64 0, .int .u64 0, .int .u64 0, .int .u64 0, .int .u64 0, .int .u64 0, .int .u64 0, .int .u64 0, .int .u64 0, .int .u64 0, .int .u64 0, .int .u64 0, .int .u64 0, .int .u64 0, .int .u64 0, .int .u64 0, .int .u64 0, .int .u64 0, .int .u64 0, .int .u64 0, .int .u64 0, .int .u64 0, .int .u64 0, .int .u64 0, .int .u64 0, .int .u64 0, .int .u64 0, .int .u64 0, .int .u64 0, .int .u64 0, .int .u64 0, .int .u64 0, .int .u64 0, .int .u64 0, .int .u64 0, .int .u64 0, .int .u64 0, .int .u64 0, .int .u64 0, .int .u64 0, .int .u64 0, .int .u64 0, .int .u64 0, .int .u64 0, .int .u64 0, .int .u64 0] 154)) := by go_grown
  go_enter Try.func97, Try.ntmps97
  go_wp2_with (first | (refine wpList_build rfl _ _ rfl (by kernel_rfl) ?_) | ((with_reducible apply wl_storeW (ty := 154) h1); rfl; rfl; rfl; kernel_rfl; kernel_rfl; kernel_rfl; intro w5 hs5 hg5 hz5))
  generalize hc : (Program.built _ _ _).getD #[] = cs at hs5 ⊢
  have hcs : cs = arr .u64 K64 := by rw [← hc]; kernel_rfl
  clear hc
  subst hcs
  refine bodyPost_ret (results_cell_row rfl _ _ _ _ _ _ _ (by rfl) hs5 Try.underlying154 rfl (by kernel_rfl)) rfl ?_
  go_light
  exact ⟨rfl, below_only' hB hg5 (Nat.le_refl _)⟩
end Go.Proofs.Ytknjbkbbhgjnlaa

/- A buffer of bytes that a call owns: []byte(s) and what is appended. Condition: at most 2^41 bytes. -/
namespace Go.Proofs.Ytknjbkbbhgjnlaa
open Go.RowKit
set_option linter.unusedVariables false
set_option linter.unusedSimpArgs false
def bt (l : List Nat) : List Value := l.map fun (n : Nat) => Value.int .u8 (n : Int)
/-- A slice of bytes in a block of the call's own, of which no cell in use is frozen. -/
def OwnB (e : TypeId) (W : World) (base : Nat) (v : Value) (bs : List Nat) : Prop :=
  ∃ (g cap : Nat) (cur : Array Value) (fr : Nat × Nat), v = .slice (some ⟨g, 0, none⟩) bs.length cap ∧ base ≤ g ∧ W.heap[g]? = some (.cells cur e fr) ∧ (fr = (0, 0) ∨ cap ≤ fr.1) ∧ bs.length ≤ cap ∧ cur.size = cap ∧ ∀ (j : Nat) (u : Value), (bt bs)[j]? = some u → cur[j]? = some u
theorem OwnB.lt {e : TypeId} {W : World} {base : Nat} {v : Value} {bs : List Nat} (h : OwnB e W base v bs) : ∀ k, v.ownBlock = some k → base ≤ k ∧ k < W.heap.size := by
  obtain ⟨g, cap, cur, fr, rfl, hb, hg, _⟩ := h
  intro k hk
  simp [Value.ownBlock] at hk
  subst hk
  exact ⟨hb, (Array.getElem?_eq_some_iff.1 hg).1⟩
theorem OwnB.kept {e : TypeId} {W W' : World} {base : Nat} {v : Value} {bs : List Nat} {row : Option Nat} (h : OwnB e W base v bs) (hg : W.grownBy W' row) (hne : v.ownBlock ≠ row) : OwnB e W' base v bs := by
  obtain ⟨g, cap, cur, fr, rfl, hb, hgg, rest⟩ := h
  exact ⟨g, cap, cur, fr, rfl, hb, (hg.block g (Array.getElem?_eq_some_iff.1 hgg).1 hne).trans hgg, rest⟩
theorem OwnB.alloc {e : TypeId} {W : World} {base : Nat} {v : Value} {bs : List Nat} (h : OwnB e W base v bs) (o : Obj) : OwnB e (W.alloc o) base v bs := by
  obtain ⟨g, cap, cur, fr, rfl, hb, hgg, rest⟩ := h
  exact ⟨g, cap, cur, fr, rfl, hb, (Below.heap_alloc W o g (Array.getElem?_eq_some_iff.1 hgg).1).trans hgg, rest⟩
theorem OwnB.below {e : TypeId} {W W' : World} {base : Nat} {v : Value} {bs : List Nat} (h : OwnB e W base v bs) (hb : Below W.heap.size W W') : OwnB e W' base v bs := by
  obtain ⟨g, cap, cur, fr, rfl, hbb, hgg, rest⟩ := h
  exact ⟨g, cap, cur, fr, rfl, hbb, (hb.block g (Array.getElem?_eq_some_iff.1 hgg).1).trans hgg, rest⟩
theorem OwnB.cells {e : TypeId} {W : World} {base g n cap : Nat} {bs : List Nat} (h : OwnB e W base (.slice (some ⟨g, 0, none⟩) n cap) bs) : (∀ j, j < bs.length → W.cell? ⟨g, j, none⟩ = some (.int .u8 ((bs.getD j 0 : Nat) : Int))) ∧ n = bs.length ∧ n ≤ cap ∧ base ≤ g ∧ g < W.heap.size := by
  obtain ⟨g', cap', cur, fr, hv, hb, hgg, _, hl, _, hc⟩ := h
  simp only [Value.slice.injEq, Option.some.injEq, Addr.mk.injEq] at hv
  obtain ⟨⟨rfl, _, _⟩, rfl, rfl⟩ := hv
  refine ⟨fun j hj => ?_, rfl, hl, hb, (Array.getElem?_eq_some_iff.1 hgg).1⟩
  rw [cell_of_row W g j cur e fr hgg]
  exact hc j _ (by simp [bt, hj])
/-- What []byte(s) lays. -/
theorem OwnB.ofString (w : World) (s : ByteArray) (e : TypeId) :
    OwnB e (w.drew.alloc (.cells (bytesRow s (grownCap w s.size 0 e)) e ((bytesRow s (grownCap w s.size 0 e)).size, (bytesRow s (grownCap w s.size 0 e)).size + 1))) w.heap.size (.slice (some ⟨w.heap.size, 0, none⟩) s.size (grownCap w s.size 0 e)) (s.data.toList.map (·.toNat)) := by
  have hc := grownCap_ge w s.size 0 e
  have hsz : (bytesRow s (grownCap w s.size 0 e)).size = grownCap w s.size 0 e := by
    simp [bytesRow]
    have : s.data.size = s.size := rfl
    omega
  refine ⟨w.heap.size, _, _, _, by simp, Nat.le_refl _, heap_alloc_new w.drew _, .inr (by rw [hsz]; exact Nat.le_refl _), by simp; exact hc, hsz, fun j u hu => ?_⟩
  simp only [bt, List.map_map] at hu
  have hj : j < s.data.toList.length := by
    rcases Nat.lt_or_ge j s.data.toList.length with h | h
    · exact h
    · rw [List.getElem?_eq_none (by simpa using h)] at hu; cases hu
  simp only [Array.length_toList] at hj
  simp only [bytesRow]
  rw [Array.getElem?_append_left (by simpa using hj)]
  simp [hj] at hu ⊢
  exact hu
section
variable {P : Program}
theorem run_appendB (w : World) (base : Nat) (t ty e : TypeId) (i : TypeInfo) (z : Value) (ht : P.underlying t = some (.slice e)) (hi : P.info? e = some i) (hz : i.zero = some z)
    (hsize : i.size = 1) (hby : i.bytes = 1) (hzs : z.cells.size = 1) (v : Value) (bs : List Nat) (hown : OwnB e w base v bs) (ad : Addr) (c y : Nat) (hy : w.cell? ad = some (.int .u8 (y : Int)))
    (hlen : bs.length + 1 ≤ 2199023255552) (hbase : base ≤ w.heap.size) :
    ∃ v' w', (Builtin.append_ #[t, t] ty #[v, .slice (some ad) 1 c]).run P w = .ok v' w' ∧ OwnB e w' base v' (bs ++ [y]) ∧ w.grownBy w' v.ownBlock := by
  obtain ⟨g, cap, cur, fr, rfl, hb, hg, hfr, hl, hsz, hc⟩ := hown
  have hbl : (bt bs).length = bs.length := by simp [bt]
  have hnews : ∀ j u, [Value.int .u8 (y : Int)][j]? = some u → w.cell? (ad.add j) = some u := fun j u hj => by
    match j, hj with
    | 0, hj =>
      simp at hj
      subst hj
      have : ad.add 0 = ad := by unfold Addr.add; split <;> simp_all
      rw [this]; exact hy
  by_cases hroom : bs.length + 1 ≤ cap
  · have hcell : w.cell? ⟨g, bs.length, none⟩ = some (cur[bs.length]'(by omega)) := by
      rw [cell_of_row w g _ cur e fr hg, Array.getElem?_eq_getElem (by omega)]
    have hfro : w.frozen? ⟨g, bs.length, none⟩ = false := by
      simp only [World.frozen?, hg]
      rcases hfr with rfl | h
      · simp
      · simp; omega
    have hr := run_append_room_cells (P := P) w t ty e i ht hi g 0 bs.length cap ad 1 c [Value.int .u8 (y : Int)] (by simp [hsize]) hnews (by simp; rfl) hroom (fun j hj => by
      have : j = 0 := by simp at hj; omega
      subst this
      rw [show 0 + bs.length * i.size + 0 = bs.length by rw [hsize]; omega, hcell]
      rfl) (fun j hj => by
      have : j = 0 := by simp at hj; omega
      subst this
      rw [show 0 + bs.length * i.size + 0 = bs.length by rw [hsize]; omega]
      exact hfro)
    rw [show 0 + bs.length * i.size = bs.length by rw [hsize]; omega] at hr
    refine ⟨_, _, hr, ⟨g, cap, cur.setIfInBounds bs.length (.int .u8 (y : Int)), fr, by simp, hb, ?_, hfr, by simpa using hroom, by simpa using hsz, fun j u hu => ?_⟩, ?_⟩
    · simp only [World.setCells]
      simp [World.setCell, Array.getElem?_modify, hg]
    · simp only [bt, List.map_append, List.map_cons, List.map_nil] at hu
      rw [Array.getElem?_setIfInBounds]
      by_cases hj : bs.length = j
      · subst hj
        rw [List.getElem?_append_right (by simp)] at hu
        simp at hu
        rw [if_pos rfl, if_pos (by omega), hu]
      · rw [if_neg hj]
        rcases Nat.lt_or_ge j bs.length with h | h
        · rw [List.getElem?_append_left (by simpa using h)] at hu
          exact hc j u hu
        · rw [List.getElem?_append_right (by simpa using h), List.getElem?_eq_none (by simp; omega)] at hu
          cases hu
    · simp only [World.setCells]
      exact only_put (only_same w _) (.inl rfl) _
  · have holds : ∀ j u, (bt bs)[j]? = some u → w.cell? ((⟨g, 0, none⟩ : Addr).add j) = some u := fun j u hu => by
      have hadd : (⟨g, 0, none⟩ : Addr).add j = ⟨g, j, none⟩ := by unfold Addr.add; split <;> simp_all
      rw [hadd, cell_of_row w g j cur e fr hg]
      exact hc j u hu
    have hr := run_append_grow (P := P) w t ty e i z ht hi hz ⟨g, 0, none⟩ bs.length cap (bt bs) (by rw [hbl, hsize]; omega) holds ad 1 c [Value.int .u8 (y : Int)] (by simp [hsize]) hnews (by omega) (by omega) (growslice_fits (by omega) (by rw [hby]; omega))
    have hge := grownCap_ge w (bs.length + 1) cap e
    refine ⟨_, _, hr, ⟨w.heap.size, _, _, _, by simp; rfl, hbase, heap_alloc_new w.drew _, .inl rfl, by simpa using hge, ?_, fun j u hu => ?_⟩, ⟨rfl, rfl, rfl, by simp, fun k hk _ => heap_alloc_old w.drew _ hk⟩⟩
    · simp only [Array.size_append, List.size_toArray, size_zeroCells, hzs, hbl, List.length_cons, List.length_nil]
      omega
    · rw [show bt (bs ++ [y]) = bt bs ++ [Value.int .u8 (y : Int)] by simp [bt]] at hu
      have hj : j < (bt bs ++ [Value.int .u8 (y : Int)]).length := by
        rcases Nat.lt_or_ge j (bt bs ++ [Value.int .u8 (y : Int)]).length with h | h
        · exact h
        · rw [List.getElem?_eq_none h] at hu; cases hu
      rw [Array.getElem?_append_left (by simpa using hj)]
      simpa using hu
theorem wpList_appendB (w : World) {ops : Array Oper} {rest : List Oper} {o : Oper} {a : Act} {Q : Exit → Act → World → Prop} (hgd : o.guard = none) (s x : Operand) (t : TypeId)
    (ho : o.op = .call { callee := .builtin .append, args := #[s, x], argTypes := #[t, t] }) (base : Nat) (e : TypeId) (i : TypeInfo) (z : Value) (ht : P.underlying t = some (.slice e)) (hi : P.info? e = some i) (hz : i.zero = some z)
    (hsize : i.size = 1) (hby : i.bytes = 1) (hzs : z.cells.size = 1) (v : Value) (bs : List Nat) (hs : a.eval s = v) (hown : OwnB e w base v bs) (ad : Addr) (c y : Nat) (hx : a.eval x = .slice (some ad) 1 c) (hy : w.cell? ad = some (.int .u8 (y : Int)))
    (hlen : bs.length + 1 ≤ 2199023255552) (hbase : base ≤ w.heap.size)
    (h : ∀ v' w', OwnB e w' base v' (bs ++ [y]) → w.grownBy w' v.ownBlock → wpList P ops Q rest (a.put o.dst v') w') : wpList P ops Q (o :: rest) a w := by
  refine wpList_plain hgd fun K hK => ?_
  obtain ⟨v', w', hr, h2, h3⟩ := run_appendB (P := P) w base t o.type e i z ht hi hz hsize hby hzs v bs hown ad c y hy hlen hbase
  unfold Oper.wp execOp
  simp only [ho, resolve, invoke, builtin, Sem.run_bind, Sem.run_pure, Result.andThen_ok, List.map_toArray, List.map_cons, List.map_nil, hs, hx, hr]
  exact hK _ _ (h v' w' h2 h3)
theorem wpList_bytesOf (w : World) {ops : Array Oper} {rest : List Oper} {o : Oper} {a : Act} {Q : Exit → Act → World → Prop} (hgd : o.guard = none) (src dst e : TypeId) (x : Operand) (ho : o.op = .convert src dst x) (s : ByteArray) (hx : a.eval x = .string s)
    (hs : P.underlying src = some .string) (hd : P.underlying dst = some (.slice e)) (he : P.underlying e = some (.int .u8))
    (h : ∀ v' w', OwnB e w' w.heap.size v' (s.data.toList.map (·.toNat)) → Below w.heap.size w w' → wpList P ops Q rest (a.put o.dst v') w') : wpList P ops Q (o :: rest) a w := by
  refine wpList_plain hgd fun K hK => ?_
  unfold Oper.wp execOp
  simp only [ho, hx, Sem.run_bind, run_bytes_of_string w src dst e s hs hd he, Result.andThen_ok, Sem.run_pure]
  exact hK _ _ (h _ _ (OwnB.ofString w s e) ((Below.refl _ w).drew.alloc (Nat.le_refl _) _))
/-- A whole struct read, in a region whose operations only read. -/
theorem still_loadW {ops : Array Oper} {rest : List Oper} {Q : Act → Prop} {d : Option Tmp} {ty ty' : TypeId} {x : Operand} {pos : String} {after : Array Edge} {a : Act} {w : World}
    {g : Nat} {t : TypeId} {cs : Array Value} {u : TypeDesc} (hg : Whole w g t cs) (hu : P.underlying ty = some u) (hx : a.eval x = .pointer (some ⟨g, 0, none⟩))
    (hd : (match u with | .struct _ | .array _ _ => true | _ => false) = true) (hi : (P.info? ty).map (·.size) = some cs.size)
    (h : wpStill P ops w Q rest (a.put d (.agg cs))) :
    wpStill P ops w Q ({ dst := d, op := .load ty x, type := ty', pos := pos, after := after, guard := none } :: rest) a := by
  unfold wpStill
  rw [if_pos (by simp [Region.wanted])]
  unfold Oper.still execOp
  simp only [hx, Instr.loadAt, Instr.sureAddr, Sem.run_bind, Sem.run_pure, Result.andThen_ok, run_loadVar_row w g t ty cs (0, 0) u hg hu hd hi, Oper.stillUpon_value]
  exact h
end
end Go.Proofs.Ytknjbkbbhgjnlaa
