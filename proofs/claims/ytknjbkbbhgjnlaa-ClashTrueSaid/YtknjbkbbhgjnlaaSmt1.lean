/- Package smt: path, bit, node, own, the empty roots. Conditions: at most 2^30 bytes; keys of less than 256. -/
import Derived.Test.YtknjbkbbhgjnlaaSmtPlain
import Derived.Test.YtknjbkbbhgjnlaaPShaS
import Derived.Test.YtknjbkbbhgjnlaaConv1
import Derived.Test.YtknjbkbbhgjnlaaToolA
namespace Go.Proofs.Ytknjbkbbhgjnlaa
open Go.RowKit
set_option linter.unusedVariables false
set_option linter.unusedSimpArgs false
theorem tb_size : (Try.prog.info? 29).map (·.size) = some (arr .u32 (K64 ++ H8.L)).size := by kernel_rfl
set_option maxRecDepth 100000 in
theorem spath_calls (key : ByteArray) (hk : key.size ≤ 1073741824) (w : World) :
    Calls Try.prog 64 #[.agg (arr .u32 (K64 ++ H8.L)), .string key] w fun e w' => e = .returned (.string (pathN key)) ∧ Later w w' := by
  have C := fun w => shaSum_calls (⟨#[75]⟩ ++ key) (by rw [ByteArray.size_append]; show 1 + key.size ≤ _; omega) w
  have hp : pathN key = shaN (⟨#[75]⟩ ++ key) := rfl
  rw [← hp] at C
  have hsz := tb_size
  generalize pathN key = P at *
  generalize arr .u32 (K64 ++ H8.L) = tb at *
  have h1 := Whole.new w 29 tb
  have hB1 : Below w.heap.size w (w.alloc (.cells tb 29)) := by go_grown
  clear hp
  replace C := Lib.hid C
  go_enter Try.func64, Try.ntmps64
  go_wp2_with (first | ((with_reducible apply wl_loadW (ty := 29) h1 Try.underlying29); rfl; rfl; rfl; exact hsz) | ((with_reducible refine (C.out _).mono ?_); rintro e wN ⟨rfl, hbN⟩; replace hB1 := below_next' hB1 hbN))
  go_returns
  go_light
  exact ⟨rfl, hB1⟩
set_option maxRecDepth 100000 in
theorem snode_calls (a b : ByteArray) (ha : a.size ≤ 1073741824) (hb : b.size ≤ 1073741824) (w : World) :
    Calls Try.prog 66 #[.agg (arr .u32 (K64 ++ H8.L)), .string a, .string b] w fun e w' => e = .returned (.string (shaN (NT a b))) ∧ Later w w' := by
  have C := fun w => shaSum_calls ((⟨#[78]⟩ ++ a) ++ b) (by rw [ByteArray.size_append, ByteArray.size_append]; show 1 + a.size + b.size ≤ _; omega) w
  have hp : shaN (NT a b) = shaN ((⟨#[78]⟩ ++ a) ++ b) := rfl
  rw [← hp] at C
  have hsz := tb_size
  generalize shaN (NT a b) = P at *
  generalize arr .u32 (K64 ++ H8.L) = tb at *
  have h1 := Whole.new w 29 tb
  have hB1 : Below w.heap.size w (w.alloc (.cells tb 29)) := by go_grown
  clear hp
  replace C := Lib.hid C
  go_enter Try.func66, Try.ntmps66
  go_wp2_with (first | ((with_reducible apply wl_loadW (ty := 29) h1 Try.underlying29); rfl; rfl; rfl; exact hsz) | ((with_reducible refine (C.out _).mono ?_); rintro e wN ⟨rfl, hbN⟩; replace hB1 := below_next' hB1 hbN))
  go_returns
  go_light
  exact ⟨rfl, hB1⟩
set_option maxRecDepth 100000 in
theorem sown_calls (k v : ByteArray) (hk : k.size < 256) (hv : v.size ≤ 1073741824) (w : World) :
    Calls Try.prog 63 #[.agg (arr .u32 (K64 ++ H8.L)), .string k, .string v] w fun e w' => e = .returned (.string (ownN (k, v))) ∧ Later w w' := by
  have n1 : ∀ x : Int, (strOfNums [x]).size = 1 := fun x => strOfNums_size _
  have C := fun w => shaSum_calls (((⟨#[86]⟩ ++ strOfNums [(k.size : Int)]) ++ k) ++ v) (by rw [ByteArray.size_append, ByteArray.size_append, ByteArray.size_append, strOfNums_size]; show 1 + 1 + k.size + v.size ≤ _; omega) w
  have hp : ownN (k, v) = shaN (((⟨#[86]⟩ ++ strOfNums [(k.size : Int)]) ++ k) ++ v) := rfl
  rw [← hp] at C
  have hsz := tb_size
  generalize ownN (k, v) = P at *
  generalize arr .u32 (K64 ++ H8.L) = tb at *
  have h1 := Whole.new w 29 tb
  have hB1 : Below w.heap.size w (w.alloc (.cells tb 29)) := by go_grown
  have k1 := fun x W => conv1 x W _ rfl
  clear hp
  replace C := Lib.hid C
  go_enter Try.func63, Try.ntmps63
  go_upto_region 1 with (fail)
  generalize w.alloc (.cells tb 29) = W1 at *
  have hB2 := hB1.alloc hB1.size (.cells #[.int .u8 (k.size : Int)] 5)
  go_wp2_with (first | ((with_reducible apply wl_loadW (ty := 29) h1 Try.underlying29); rfl; rfl; rfl; exact hsz) | ((with_reducible refine (C.out _).mono ?_); rintro e wN ⟨rfl, hbN⟩; replace hB2 := below_next' hB2 hbN))
  go_returns
  go_light
  exact ⟨rfl, hB2⟩
theorem and1 (a : Nat) : bits .and .i64 (a : Int) 1 = ((a % 2 : Nat) : Int) := by
  have h15 : (BitVec.ofInt 64 1).toNat = 2 ^ 1 - 1 := by decide
  have key : (BitVec.ofInt 64 (a : Int) &&& BitVec.ofInt 64 1).toNat = ((a : Int) % ((2 ^ 64 : Nat) : Int)).toNat % 2 ^ 1 := by
    rw [BitVec.toNat_and, BitVec.toNat_ofInt, h15, Nat.and_two_pow_sub_one_eq_mod]
  show IntKind.i64.wrap ((BitVec.ofInt 64 (a : Int) &&& BitVec.ofInt 64 1).toNat : Nat) = _
  rw [key, IntKind.wrap_i64]
  omega
set_option maxRecDepth 100000 in
theorem sbit_calls (p : ByteArray) (i : Nat) (hi : i < 8 * p.size) (hp : p.size ≤ 1099511627776) (w : World) :
    Calls Try.prog 65 #[.string p, .int .i64 i] w fun e w' => e = .returned (.int .i64 ((bitN p i : Nat) : Int)) ∧ w' = w := by
  have hlt : i / 8 < p.size := by omega
  have hq : bitN p i = p[i / 8].toNat / 2 ^ (7 - i % 8) % 2 := by
    unfold bitN
    rw [List.getD_eq_getElem?_getD, List.getElem?_eq_getElem (by simpa using hlt)]
    rfl
  obtain ⟨j, hj⟩ : ∃ j, i / 8 = j := ⟨_, rfl⟩
  obtain ⟨r, hr⟩ : ∃ r, i % 8 = r := ⟨_, rfl⟩
  have j1 : (i : Int) / 8 = j := by omega
  have j2 : (i : Int).tdiv 8 = j := by rw [Int.tdiv_eq_ediv_of_nonneg (Int.natCast_nonneg _)]; omega
  have r1 : (i : Int) % 8 = r := by omega
  have r2 : (i : Int).tmod 8 = r := by rw [Int.tmod_eq_emod_of_nonneg (Int.natCast_nonneg _)]; omega
  have hr8 : r < 8 := by omega
  simp only [hj, hr] at hq hlt
  have hy8 : (p[j].toNat : Int) < 256 := by have := p[j].toNat_lt; omega
  replace hq := Lib.hid hq
  go_enter Try.func65, Try.ntmps65
  go_wp2
  go_returns
  refine ⟨ret_int ?_, rfl⟩
  rw [hq.out]
  generalize p[j].toNat = y at *
  have e1 : (y : Int) / 2 ^ (7 - r) = ((y / 2 ^ (7 - r) : Nat) : Int) := by simp
  have h1 : y / 2 ^ (7 - r) ≤ y := Nat.div_le_self _ _
  rw [e1]
  generalize y / 2 ^ (7 - r) = z at *
  exact and1 z
theorem res_cell1 {P : Program} {fn : Func} {p : Tmp} {ty : TypeId} (h : fn.results = #[.cell p ty]) (tmps : Array Value) (w : World) (g : Nat) (t : TypeId) (cs : Array Value) (d : TypeDesc)
    (hp : tmps.getD p undef = .pointer (some ⟨g, 0, none⟩)) (hg : Whole w g t cs)
    (hu : P.underlying ty = some d) (hd : (match d with | .struct _ | .array _ _ => true | _ => false) = true) (hi : (P.info? ty).map (·.size) = some cs.size) :
    (results fn tmps).run P w = .ok (.agg cs) w := by
  have hp' : tmps[p]?.getD undef = .pointer (some ⟨g, 0, none⟩) := by simpa using hp
  simp [results, h, hp', asAddr, run_loadVar_row w g t ty cs (0, 0) d hg hu hd hi]
theorem sarr_one (l : List ByteArray) : (sarr l).toList.all (·.oneCell') = true := by
  rw [List.all_eq_true]
  intro v hv
  simp only [sarr, List.mem_map] at hv
  obtain ⟨s, _, rfl⟩ := hv
  rfl
theorem NT_len (a b : ByteArray) : (NT a b).size = 1 + a.size + b.size := by simp only [NT, ByteArray.size_append]; rfl
theorem emp_len (k : Nat) : (emp shaN k).size = 32 := by cases k <;> exact shaN_len _
theorem zero257s (w : World) : (zeroValue 41).run Try.prog w = .ok (.agg (sarr e257)) w := by kernel_rfl
end Go.Proofs.Ytknjbkbbhgjnlaa
