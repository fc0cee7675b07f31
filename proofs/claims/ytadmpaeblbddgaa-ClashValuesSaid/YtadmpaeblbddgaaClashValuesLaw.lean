/- The law ClashValues: whatever number, key and two answers come in, the call returns true. No conditions. -/
import Derived.Test.YtadmpaeblbddgaaClashValues
import Derived.Test.YtadmpaeblbddgaaClashKinds
import Derived.ChangeMaps5
namespace Go.Proofs.Ytadmpaeblbddgaa.clashValues
open Go.ChangeShapes Go.WideShapes Go.ChangeAt Go.RowKit
set_option linter.unusedVariables false
theorem own : ownKnob Try.prog.godebug = none := by kernel_rfl
theorem laidOut : laidOutB Try.prog = true := by kernel_rfl
theorem fine : ∀ t ∈ Try.f4.params.toList, Try.prog.readableRec t = true ∧ t < Try.prog.types.size := by
  have h : (Try.f4.params.toList.all fun t => Try.prog.readableRec t && decide (t < Try.prog.types.size)) = true := by kernel_rfl
  intro t ht
  have := List.all_eq_true.1 h t ht
  simpa using this
set_option maxRecDepth 100000 in
theorem lifted (os : Os) (started : os.Started) (H : Type) (enc : TypeId × Value → H) :
    ReturnsInHanded {} Try.checked os 4 .any (Rows.clashValuesSpec.pre6 enc Try.prog Try.f4 Rows.clashValuesRow.domain false) (Rows.clashValuesSpec.post enc Try.prog Try.f4 false true false false) := by
  refine returnsInHanded_of_change_sized (C := Try.checked) own started (by kernel_rfl) Try.func4
    (ChangeSpec.witness6 (enc := enc) (C := Try.checked) false ⟨#[], #[.int .u8 0, .string ByteArray.empty, .agg #[.bool false, .string ByteArray.empty, .string ByteArray.empty, .bool false, .string ByteArray.empty, .string ByteArray.empty]], []⟩ 8 (by kernel_rfl) (by kernel_rfl) (by kernel_rfl) (by kernel_rfl)) ?_
  intro W base args ds gs before hval0 hW hcnd hsz0 _
  have hsz : (DataW.weightsEach Try.prog (Try.f4.params.toList ++ Rows.clashValuesSpec.plain.varTypes Try.prog) (ds ++ gs)).all (· ≤ reachBytes) = true := hsz0
  have hval : ∀ (j : Nat) t v, Try.f4.params[j]? = some t → args[j]? = some v → Value.okWide Try.prog W .any base t v := hval0
  have hlt0 := fun x hx => hW.lt x hx
  have hW' := hW
  obtain ⟨p, q, hA0, hV, rfl, hfz, hnd⟩ := hW
  obtain ⟨rfl, rfl⟩ := trodVars_none hV
  have hlt : ∀ x ∈ p, x.block < W.heap.size := fun x hx => hlt0 x (by simpa using hx)
  have hA : DataW.TrodAll enc Try.prog W 0 (fun _ => true) true Try.f4.params.toList args.toList ds p := hA0
  have hB := hA
  rw [Try.params4] at hB hval hsz
  obtain ⟨v0, vs0, d0, ds0, p0, q0, hargs, rfl, rfl, h0, r0⟩ := trodAll_cons hB
  obtain ⟨v1, vs1, d1, ds1, p1, q1, rfl, rfl, rfl, h1, r1⟩ := trodAll_cons r0
  obtain ⟨v2, vs2, d2, ds2, p2, q2, rfl, rfl, rfl, h2, r2⟩ := trodAll_cons r1
  obtain ⟨rfl, rfl, rfl⟩ := trodAll_nil r2
  obtain rfl : args = #[v0, v1, v2] := by cases args; simp_all
  obtain ⟨a, rfl, rfl, rfl, hwf⟩ := open_int Try.underlying5 (hval 0 5 v0 rfl rfl) h0
  obtain ⟨k, rfl, hk⟩ := fits_u8n hwf
  obtain ⟨s, rfl, rfl, rfl, _⟩ := Go.ChangeMaps.open_string Try.underlying9 (hval 1 9 v1 rfl rfl) h1
  obtain ⟨cs2, rfl, _⟩ := okWide_array Try.underlying29 (hval 2 29 v2 rfl rfl)
  obtain ⟨f2, h2⟩ := h2
  obtain ⟨x, k2, _⟩ := (Opens.arr (d := Kn.ans) Try.underlying29 (by kernel_rfl) (by kernel_rfl) ansOpens).out h2
  obtain ⟨xa, xb, hcs⟩ : ∃ a b : An, cs2.toList = (a.A ++ b.A).toList := by
    obtain ⟨hl, css, hcl, he, hk⟩ := k2
    match x, hl, css, hcl with
    | [a, b], _, [c, d], _ =>
      have h1 := ans_cells (hk 0 a c rfl rfl)
      have h2 := ans_cells (hk 1 b d rfl rfl)
      refine ⟨a, b, ?_⟩
      refine Eq.trans he ?_
      rw [h1, h2]
      simp
  rw [agg_of hcs] at hW' hA ⊢
  refine (clashValues_calls k hk s xa xb W).mono fun e W' ⟨he, bel⟩ => ?_
  subst he
  exact ⟨_, rfl, _, _, _, [], _, [], hW', trodAll_mk1 (shut_bool Try.underlying4 _), trodAll_kept laidOut bel _ _ _ _ fine hlt hA, rfl, bel.frame _, fun h => by cases h⟩
theorem over : Rows.clashValuesRow.holds Try.pinned (OpenSpec.ofChange Rows.clashValuesSpec) :=
  OpenClaim.holds_of_wide 4 Try.f4 rfl rfl rfl rfl rfl rfl rfl ⟨rfl, rfl, rfl, rfl, rfl⟩ rfl rfl rfl rfl rfl (by kernel_rfl) Try.func4 (by kernel_rfl)
    (of_decide_eq_true (by kernel_rfl)) (by unfold Func.isWrapper; first | (rw [if_pos (by decide +kernel)]; kernel_rfl) | (rw [if_neg (by decide +kernel)]; exact ⟨rfl, rfl⟩))
    (fun os started H enc _ => lifted os started H enc)
theorem proved : Rows.ClashValuesSaid := over
end Go.Proofs.Ytadmpaeblbddgaa.clashValues
namespace Go.Proofs.Ytadmpaeblbddgaa
/-- The row, under a short name, for the claim. -/
theorem clashValues_holds : Rows.ClashValuesSaid := clashValues.proved
#print axioms clashValues_holds
end Go.Proofs.Ytadmpaeblbddgaa
