/- The law SlotPlays: whatever calls come in, the call returns true. No conditions. -/
import Derived.Test.YtdohmkanpdhmaaaSlotPlays
import Derived.Test.YtdohmkanpdhmaaaSlotKinds
namespace Go.Proofs.Ytdohmkanpdhmaaa.slotPlays
open Go.ChangeShapes Go.WideShapes Go.ChangeAt Go.RowKit
set_option linter.unusedVariables false
theorem own : ownKnob Try.prog.godebug = none := by kernel_rfl
theorem laidOut : laidOutB Try.prog = true := by kernel_rfl
theorem fine : ∀ t ∈ Try.f4.params.toList, Try.prog.readableRec t = true ∧ t < Try.prog.types.size := by
  have h : (Try.f4.params.toList.all fun t => Try.prog.readableRec t && decide (t < Try.prog.types.size)) = true := by kernel_rfl
  intro t ht
  have := List.all_eq_true.1 h t ht
  simpa using this
set_option maxRecDepth 100000 in
theorem lifted (os : Os) (started : os.Started) (H : Type) (enc : TypeId × Value → H) :
    ReturnsInHanded {} Try.checked os 4 .any (Rows.slotPlaysSpec.pre6 enc Try.prog Try.f4 Rows.slotPlaysRow.domain false) (Rows.slotPlaysSpec.post enc Try.prog Try.f4 false true false false) := by
  refine returnsInHanded_of_change_sized (C := Try.checked) own started (by kernel_rfl) Try.func4
    (ChangeSpec.witness6 (enc := enc) (C := Try.checked) false ⟨#[], #[.slice none 0 0], []⟩ 8 (by kernel_rfl) (by kernel_rfl) (by kernel_rfl) (by kernel_rfl)) ?_
  intro W base args ds gs before hval0 hW hcnd hsz0 _
  have hsz : (DataW.weightsEach Try.prog (Try.f4.params.toList ++ Rows.slotPlaysSpec.plain.varTypes Try.prog) (ds ++ gs)).all (· ≤ reachBytes) = true := hsz0
  have hval : ∀ (j : Nat) t v, Try.f4.params[j]? = some t → args[j]? = some v → Value.okWide Try.prog W .any base t v := hval0
  have hlt0 := fun x hx => hW.lt x hx
  have hW' := hW
  obtain ⟨p, q, hA0, hV, rfl, hfz, hnd⟩ := hW
  obtain ⟨rfl, rfl⟩ := trodVars_none hV
  have hlt : ∀ x ∈ p, x.block < W.heap.size := fun x hx => hlt0 x (by simpa using hx)
  have hA : DataW.TrodAll enc Try.prog W 0 (fun _ => true) true Try.f4.params.toList args.toList ds p := hA0
  have hB := hA
  rw [Try.params4] at hB hval hsz
  obtain ⟨v1, vs1, d1, ds1, p1, q1, hargs, rfl, rfl, h1, r1⟩ := trodAll_cons hB
  obtain ⟨rfl, rfl, rfl⟩ := trodAll_nil r1
  obtain rfl : args = #[v1] := by cases args; simp_all
  obtain ⟨A, n, cap, rfl⟩ := okWide_slice Try.underlying31 (hval 0 31 v1 rfl rfl)
  obtain ⟨f1, h1⟩ := h1
  obtain ⟨l, ⟨A', c', hc, _, hr⟩, _⟩ := opsKind.out h1
  simp only [Value.cells, List.cons.injEq, Value.slice.injEq, and_true] at hc
  obtain ⟨rfl, rfl, rfl⟩ := hc
  refine (slotPlays_calls A l cap W hr).mono fun e W' ⟨he, bel⟩ => ?_
  subst he
  exact ⟨_, rfl, _, _, _, [], _, [], hW', trodAll_mk1 (shut_bool Try.underlying4 _), trodAll_kept laidOut bel _ _ _ _ fine hlt hA, rfl, bel.frame _, fun h => by cases h⟩
theorem over : Rows.slotPlaysRow.holds Try.pinned (OpenSpec.ofChange Rows.slotPlaysSpec) :=
  OpenClaim.holds_of_wide 4 Try.f4 rfl rfl rfl rfl rfl rfl rfl ⟨rfl, rfl, rfl, rfl, rfl⟩ rfl rfl rfl rfl rfl (by kernel_rfl) Try.func4 (by kernel_rfl)
    (of_decide_eq_true (by kernel_rfl)) (by unfold Func.isWrapper; first | (rw [if_pos (by decide +kernel)]; kernel_rfl) | (rw [if_neg (by decide +kernel)]; exact ⟨rfl, rfl⟩))
    (fun os started H enc _ => lifted os started H enc)
theorem proved : Rows.SlotPlaysSaid := over
end Go.Proofs.Ytdohmkanpdhmaaa.slotPlays
namespace Go.Proofs.Ytdohmkanpdhmaaa
/-- The row, under a short name, for the claim. -/
theorem slotPlays_holds : Rows.SlotPlaysSaid := slotPlays.proved
#print axioms slotPlays_holds
end Go.Proofs.Ytdohmkanpdhmaaa
