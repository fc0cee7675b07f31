/- The law StateQuota: whatever four bytes come in, the call returns true. No conditions. -/
import Derived.Test.YtdohmkanpdhmaaaStateQuota
import Derived.Test.YtdohmkanpdhmaaaSlotKinds
namespace Go.Proofs.Ytdohmkanpdhmaaa
open Go.ChangeShapes Go.WideShapes Go.RowKit Go.Deep
theorem fits_u8 {n : Int} (h : fits .u8 n) : 0 ≤ n ∧ n < 256 := by
  have h1 := h
  simp [fits, Lit.wf, IntKind.min, IntKind.max, IntKind.signed, IntKind.bits] at h1
  omega
theorem fourKind {H : Type} {enc : TypeId × Value → H} {w : World} {fuel : Nat} {cs : List Value} {x : DataW H × List MemPlace} (h : DataW.trod enc Try.prog w 0 (fun _ => true) true fuel 42 cs = some x) :
    ∃ a b c d : Int, cs = [.int .u8 a, .int .u8 b, .int .u8 c, .int .u8 d] ∧ (0 ≤ a ∧ a < 256) ∧ (0 ≤ b ∧ b < 256) ∧ (0 ≤ c ∧ c < 256) ∧ (0 ≤ d ∧ d < 256) := by
  obtain ⟨l, hk, hf⟩ := (Opens.arr (d := Kn.int .u8) Try.underlying42 (by kernel_rfl) (by kernel_rfl) (Opens.int Try.underlying5)).out h
  obtain ⟨hl, rfl⟩ := Kn.vec_one hk
  match l, hl with
  | [a, b, c, d], _ =>
    exact ⟨a, b, c, d, rfl, fits_u8 (hf a (by simp)), fits_u8 (hf b (by simp)), fits_u8 (hf c (by simp)), fits_u8 (hf d (by simp))⟩
end Go.Proofs.Ytdohmkanpdhmaaa
namespace Go.Proofs.Ytdohmkanpdhmaaa.stateQuota
open Go.ChangeShapes Go.WideShapes Go.ChangeAt Go.RowKit
set_option linter.unusedVariables false
theorem own : ownKnob Try.prog.godebug = none := by kernel_rfl
theorem laidOut : laidOutB Try.prog = true := by kernel_rfl
theorem fine : ∀ t ∈ Try.f6.params.toList, Try.prog.readableRec t = true ∧ t < Try.prog.types.size := by
  have h : (Try.f6.params.toList.all fun t => Try.prog.readableRec t && decide (t < Try.prog.types.size)) = true := by kernel_rfl
  intro t ht
  have := List.all_eq_true.1 h t ht
  simpa using this
set_option maxRecDepth 100000 in
theorem lifted (os : Os) (started : os.Started) (H : Type) (enc : TypeId × Value → H) :
    ReturnsInHanded {} Try.checked os 6 .any (Rows.stateQuotaSpec.pre6 enc Try.prog Try.f6 Rows.stateQuotaRow.domain false) (Rows.stateQuotaSpec.post enc Try.prog Try.f6 false true false false) := by
  refine returnsInHanded_of_change_sized (C := Try.checked) own started (by kernel_rfl) Try.func6
    (ChangeSpec.witness6 (enc := enc) (C := Try.checked) false ⟨#[], #[.agg #[.int .u8 0, .int .u8 0, .int .u8 0, .int .u8 0]], []⟩ 8 (by kernel_rfl) (by kernel_rfl) (by kernel_rfl) (by kernel_rfl)) ?_
  intro W base args ds gs before hval0 hW hcnd hsz0 _
  have hsz : (DataW.weightsEach Try.prog (Try.f6.params.toList ++ Rows.stateQuotaSpec.plain.varTypes Try.prog) (ds ++ gs)).all (· ≤ reachBytes) = true := hsz0
  have hval : ∀ (j : Nat) t v, Try.f6.params[j]? = some t → args[j]? = some v → Value.okWide Try.prog W .any base t v := hval0
  have hlt0 := fun x hx => hW.lt x hx
  have hW' := hW
  obtain ⟨p, q, hA0, hV, rfl, hfz, hnd⟩ := hW
  obtain ⟨rfl, rfl⟩ := trodVars_none hV
  have hlt : ∀ x ∈ p, x.block < W.heap.size := fun x hx => hlt0 x (by simpa using hx)
  have hA : DataW.TrodAll enc Try.prog W 0 (fun _ => true) true Try.f6.params.toList args.toList ds p := hA0
  have hB := hA
  rw [Try.params6] at hB hval hsz
  obtain ⟨v0, vs0, d0, ds0, p0, q0, hargs, rfl, rfl, h0, r0⟩ := trodAll_cons hB
  obtain ⟨rfl, rfl, rfl⟩ := trodAll_nil r0
  obtain rfl : args = #[v0] := by cases args; simp_all
  obtain ⟨cs0, rfl, _⟩ := okWide_array Try.underlying42 (hval 0 42 v0 rfl rfl)
  obtain ⟨f0, h0⟩ := h0
  obtain ⟨a, b, c, d, k0, ha, hb, hc, hd⟩ := fourKind h0
  rw [agg_of k0] at hW' hA ⊢
  refine (stateQuota_calls a b c d ha hb hc hd W).mono fun e W' ⟨he, bel⟩ => ?_
  subst he
  exact ⟨_, rfl, _, _, _, [], _, [], hW', trodAll_mk1 (shut_bool Try.underlying4 _), trodAll_kept laidOut bel _ _ _ _ fine hlt hA, rfl, bel.frame _, fun h => by cases h⟩
theorem over : Rows.stateQuotaRow.holds Try.pinned (OpenSpec.ofChange Rows.stateQuotaSpec) :=
  OpenClaim.holds_of_wide 6 Try.f6 rfl rfl rfl rfl rfl rfl rfl ⟨rfl, rfl, rfl, rfl, rfl⟩ rfl rfl rfl rfl rfl (by kernel_rfl) Try.func6 (by kernel_rfl)
    (of_decide_eq_true (by kernel_rfl)) (by unfold Func.isWrapper; first | (rw [if_pos (by decide +kernel)]; kernel_rfl) | (rw [if_neg (by decide +kernel)]; exact ⟨rfl, rfl⟩))
    (fun os started H enc _ => lifted os started H enc)
theorem proved : Rows.StateQuotaSaid := over
end Go.Proofs.Ytdohmkanpdhmaaa.stateQuota
namespace Go.Proofs.Ytdohmkanpdhmaaa
/-- The row, under a short name, for the claim. -/
theorem stateQuota_holds : Rows.StateQuotaSaid := stateQuota.proved
#print axioms stateQuota_holds
end Go.Proofs.Ytdohmkanpdhmaaa
