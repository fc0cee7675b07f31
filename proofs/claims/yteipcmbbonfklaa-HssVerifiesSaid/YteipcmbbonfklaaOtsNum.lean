/- A number of its bytes: the program's. Condition: at most four bytes. -/
import Derived.Test.YteipcmbbonfklaaOts2
import Derived.Test.YteipcmbbonfklaaToolA
namespace Go.Proofs.Yteipcmbbonfklaa
open Go.RowKit
set_option linter.unusedVariables false
set_option linter.unusedSimpArgs false
def beV (l : List Nat) : Nat := l.foldl (fun n c => n * 256 + c) 0
theorem beV_snoc (l : List Nat) (c : Nat) : beV (l ++ [c]) = beV l * 256 + c := by simp [beV]
theorem beV_lt : ∀ (k : Nat) (l : List Nat), l.length = k → (∀ x ∈ l, x < 256) → beV l < 256 ^ k
  | 0, l, h, _ => by
    obtain rfl : l = [] := List.length_eq_zero_iff.1 h
    decide
  | k + 1, l, h, hb => by
    rcases List.eq_nil_or_concat l with rfl | ⟨q, x, rfl⟩
    · cases h
    · rw [List.concat_eq_append] at *
      rw [beV_snoc]
      have h1 := beV_lt k q (by simpa using h) (fun y hy => hb y (by simp [hy]))
      have h2 := hb x (by simp)
      rw [Nat.pow_succ]
      omega
theorem orN (a c : Nat) (ha : a < 4294967296) (hc : c < 256) : bits .or .i64 ((a * 256 : Nat) : Int) (c : Int) = ((a * 256 + c : Nat) : Int) := by
  rw [or64 _ _ (by omega) (by omega)]
  have := Nat.two_pow_add_eq_or_of_lt (i := 8) (b := c) (by omega) a
  rw [show 2 ^ 8 = 256 from rfl] at this
  rw [Nat.mul_comm a 256, ← this]
set_option maxHeartbeats 1000000 in
set_option maxRecDepth 100000 in
theorem number3_calls (s : ByteArray) (hs : s.size ≤ 4) (w : World) :
    Calls Try.prog 117 #[.string s] w fun e w' => e = .returned (.int .i64 (beV (bytesN s) : Nat)) ∧ Below w.heap.size w w' := by
  have kb := fun W s => Lib.run_convert_string_bytes (P := Try.prog) W 9 67 5 s Try.underlying9 Try.underlying67 Try.underlying5
  have hc : ∀ j, j < s.size → (Lib.bytesWorld w 5 s).cell? ⟨w.heap.size, j, none⟩ = some (.int .u8 (((bytesN s).getD j 0 : Nat) : Int)) := fun j hj => by
    rw [Lib.bytesWorld_cell w 5 s j hj]
    unfold bytesN
    rw [List.getD_eq_getElem?_getD, List.getD_eq_getElem?_getD, List.getElem?_map]
    have : j < s.data.toList.length := by simpa using hj
    rw [List.getElem?_eq_getElem this]
    rfl
  have hB : Below w.heap.size w (Lib.bytesWorld w 5 s) := Lib.bytesWorld_below w _ s
  have hlen := bytesN_length s
  have hb := bytesN_lt s
  have hbt : ∀ k, beV ((bytesN s).take k) < 4294967296 := fun k => by
    have h1 := beV_lt _ ((bytesN s).take k) rfl (fun x hx => hb x (List.mem_of_mem_take hx))
    have h2 : ((bytesN s).take k).length ≤ 4 := by rw [List.length_take]; omega
    exact Nat.lt_of_lt_of_le h1 (Nat.pow_le_pow_right (by decide) h2)
  have hbs : ∀ k, k < s.size → beV ((bytesN s).take (k + 1)) = beV ((bytesN s).take k) * 256 + (bytesN s).getD k 0 := fun k hk => by
    rw [List.take_succ_eq_append_getElem (by omega), beV_snoc, List.getD_eq_getElem?_getD, List.getElem?_eq_getElem (by omega)]
    rfl
  have hc256 : ∀ k, (bytesN s).getD k 0 < 256 := fun k => by
    rw [List.getD_eq_getElem?_getD]
    cases hx : (bytesN s)[k]? with
    | none => decide
    | some x => exact hb x (List.mem_of_getElem? hx)
  have hall : beV ((bytesN s).take s.size) = beV (bytesN s) := by rw [List.take_of_length_le (by omega)]
  have h0 : beV ((bytesN s).take 0) = 0 := rfl
  obtain ⟨V, hV⟩ : ∃ V : Nat → Nat, ∀ k, beV ((bytesN s).take k) = V k := ⟨_, fun _ => rfl⟩
  simp only [hV] at hbt hbs hall h0
  rw [← hall]
  generalize bytesN s = bb at *
  clear hV hb hlen
  replace hc := Lib.hid hc
  replace hbt := Lib.hid hbt
  replace hbs := Lib.hid hbs
  replace hc256 := Lib.hid hc256
  replace hall := Lib.hid hall
  go_enter Try.func117, Try.ntmps117
  go_wp2_with (fail)
  go_loopg [3, 5, 9] (s.size + 1) (fun kg n c x wr => ∃ k : Nat, x = .int .i64 k ∧ k ≤ s.size ∧ kg = s.size + 1 - k ∧ n = .int .i64 (V k : Nat) ∧ wr = Lib.bytesWorld w 5 s)
  case atStart => exact ⟨0, rfl, by omega, rfl, by rw [h0]; rfl, rfl⟩
  case round =>
    obtain ⟨k, rfl, hk, hkg, rfl, rfl⟩ := hrel
    replace hkg := Lib.hid hkg
    by_cases hlt : k < s.size
    · have hck := hc.out k hlt
      have v1 := hbs.out k hlt
      have b1 := hbt.out k
      have b2 := hbt.out (k + 1)
      have b3 := hc256.out k
      generalize bb.getD k 0 = c at *
      have o1 := orN (V k) c b1 b3
      rw [← v1] at o1
      generalize hv2 : V (k + 1) = v2 at *
      generalize V k = v at *
      replace hv2 := Lib.hid hv2
      have o2 : ((v * 256 : Nat) : Int) = (v : Int) * 256 := by omega
      rw [o2] at o1
      have o3 : IntKind.i64.wrap ((v : Int) * 256) = (v : Int) * 256 := by simp [IntKind.wrap, IntKind.signed, IntKind.bits]; omega
      have o4 : wrap64 ((v : Int) * 256) = (v : Int) * 256 := by unfold wrap64; omega
      have o5 : wrap64 (c : Int) = (c : Int) := by unfold wrap64; omega
      clear o2 v1
      go_wp2_with (fail)
      go_roundg (s.size - k)
      case measure => go_light; rw [hkg.out]; omega
      case rel => go_light; exact ⟨k + 1, by go_num, by omega, by omega, by rw [hv2.out], rfl⟩
    · obtain rfl : k = s.size := by omega
      go_wp2_with (fail)
      go_returns
      go_light
      exact ⟨rfl, hB⟩
end Go.Proofs.Yteipcmbbonfklaa
