/- What a map tells of a key. No conditions. -/
import Derived.Test.YtknjbkbbhgjnlaaSmt20
import Derived.Test.YtknjbkbbhgjnlaaSmt21
namespace Go.Proofs.Ytknjbkbbhgjnlaa
open Go.RowKit
set_option linter.unusedVariables false
set_option linter.unusedSimpArgs false
def tellV (f : ByteArray → Option ByteArray) (k : ByteArray) : ByteArray := (f k).getD ByteArray.empty
theorem MapF.tell {D : MD} {f : ByteArray → Option ByteArray} (h : MapF D f) (k : ByteArray) : D.atKey (keyL k) (valD ByteArray.empty) = valD (tellV f k) := by
  rw [(h k).2]
  unfold tellV
  cases f k <;> rfl
theorem zeroStr (w : World) : (zeroValue 9).run Try.prog w = .ok (.string ByteArray.empty) w := by kernel_rfl
theorem MapW.look {w : World} {b n : Nat} {f : ByteArray → Option ByteArray} (h : MapW w b n f) (k : ByteArray) (hk : k.size ≤ 1099511627776) : (Instr.lookup 36 (.map (some b)) (.string k) false).run Try.prog w = .ok (.string (tellV f k)) w := by
  obtain ⟨D, ho, hf⟩ := h
  obtain ⟨v, ps, hrun, hv⟩ := ho.lookup (Maps.string_keyed Try.underlying9) Try.underlying36 (zeroStr w) (plainElem_string Try.underlying9 (by decide)) (WideMaps.keyOf_string_mk Try.underlying9 (s := k) (by unfold maxLen; omega))
  obtain ⟨s, rfl, hs, -⟩ := plainElem_string_inv Try.underlying9 hv
  have h1 : D.atKey (keyL k) (valD ByteArray.empty) = valD s := congrArg Prod.fst hs
  rw [hf.tell] at h1
  rw [hrun, valD_inj h1]
theorem MapW.lookOk {w : World} {b n : Nat} {f : ByteArray → Option ByteArray} (h : MapW w b n f) (k : ByteArray) (hk : k.size ≤ 1099511627776) : (Instr.lookup 36 (.map (some b)) (.string k) true).run Try.prog w = .ok (.tuple #[.string (tellV f k), .bool (f k).isSome]) w := by
  obtain ⟨D, ho, hf⟩ := h
  obtain ⟨v, ps, hrun, hv⟩ := ho.look_ok (Maps.string_keyed Try.underlying9) Try.underlying36 (zeroStr w) (plainElem_string Try.underlying9 (by decide)) (WideMaps.keyOf_string_mk Try.underlying9 (s := k) (by unfold maxLen; omega))
  obtain ⟨s, rfl, hs, -⟩ := plainElem_string_inv Try.underlying9 hv
  have h1 : D.atKey (keyL k) (valD ByteArray.empty) = valD s := congrArg Prod.fst hs
  rw [hf.tell] at h1
  rw [hrun, valD_inj h1, ← (hf k).1]
  rfl
theorem told_of (l : List KV) (k : ByteArray) : Told (lastK l) k (lastV l k).isSome (tellV (lastV l) k) := by
  unfold Told tellV
  have hL := (lastK_listed l).2
  cases h : lastV l k with
  | some v => exact (hL k v).2 h
  | none =>
    intro p hp e
    have := (hL p.1 p.2).1 hp
    rw [e, h] at this
    cases this
theorem apart_of {l : List KV} {key k : ByteArray} (h : ApartL (key :: l.map (·.1))) (hk : k ∈ key :: l.map (·.1)) : ∀ p ∈ lastK l, pathN p.1 = pathN k → p.1 = k := fun p hp e =>
  h p.1 (List.mem_cons_of_mem _ (List.mem_map.2 ⟨p, lastK_mem l p hp, rfl⟩)) k hk e
theorem tellV_small {l : List KV} (h : ∀ p ∈ l, p.1.size ≤ 60 ∧ p.2.size ≤ 60) (k : ByteArray) : (tellV (lastV l) k).size ≤ 60 := by
  unfold tellV
  cases hv : lastV l k with
  | none => decide
  | some v =>
    have : k.size ≤ 60 ∧ v.size ≤ 60 := h (k, v) (lastK_mem l (k, v) (((lastK_listed l).2 k v).2 hv))
    exact this.2
theorem lastV_mem {l : List KV} {p : KV} (hp : p ∈ l) : (lastV l p.1).isSome = true := by
  cases h : lastV l p.1 with
  | some v => rfl
  | none => exact absurd rfl (lastV_none.1 h p hp)
end Go.Proofs.Ytknjbkbbhgjnlaa
