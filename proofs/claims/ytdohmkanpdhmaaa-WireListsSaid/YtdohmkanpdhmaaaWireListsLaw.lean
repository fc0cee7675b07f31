/- The law WireLists: whatever list and number come in, the call returns true. No conditions. -/
import Derived.Test.YtdohmkanpdhmaaaWireLists
import Derived.Test.YtdohmkanpdhmaaaKinds
namespace Go.Proofs.Ytdohmkanpdhmaaa
open Go.RowKit
theorem strsKind : Opens Try.prog 33 Kn.str.sl (fun _ => True) := by
  have K3 := Opens.slice (d := Kn.str) Try.underlying33 (by kernel_rfl) (by decide) (Opens.str Try.underlying9)
  exact ⟨fun h => by obtain ⟨a, h1, _⟩ := K3.out h; exact ⟨a, h1, trivial⟩⟩
theorem fits_u16 {n : Int} (h : fits .u16 n) : 0 ≤ n ∧ n ≤ 65535 := by
  simp only [fits, Lit.wf, IntKind.min, IntKind.max, IntKind.signed, IntKind.bits, Bool.and_eq_true, decide_eq_true_eq, Bool.false_eq_true, if_false] at h
  omega
theorem wireLists_calls (A : Option Addr) (l : List ByteArray) (cap : Nat) (m : Int) (w : World) (hr : Kn.str.Rows w A l) (hm : 0 ≤ m ∧ m ≤ 65535) :
    Calls Try.prog 11 #[.slice A l.length cap, .int .u16 m] w fun e w' => e = .returned (.bool true) ∧ Below w.heap.size w w' := by
  obtain ⟨n, rfl⟩ : ∃ n : Nat, m = n := ⟨m.toNat, by omega⟩
  by_cases hl : (l.length : Int) ≤ 40
  · exact wireLists_short A l cap n w hr hl hm.2
  · exact wireLists_long A l cap n w (by omega)
end Go.Proofs.Ytdohmkanpdhmaaa
namespace Go.Proofs.Ytdohmkanpdhmaaa.wireLists
open Go.ChangeShapes Go.WideShapes Go.ChangeAt Go.RowKit
set_option linter.unusedVariables false
theorem own : ownKnob Try.prog.godebug = none := by kernel_rfl
theorem laidOut : laidOutB Try.prog = true := by kernel_rfl
theorem fine : ∀ t ∈ Try.f11.params.toList, Try.prog.readableRec t = true ∧ t < Try.prog.types.size := by
  have h : (Try.f11.params.toList.all fun t => Try.prog.readableRec t && decide (t < Try.prog.types.size)) = true := by kernel_rfl
  intro t ht
  have := List.all_eq_true.1 h t ht
  simpa using this
set_option maxRecDepth 100000 in
theorem lifted (os : Os) (started : os.Started) (H : Type) (enc : TypeId × Value → H) :
    ReturnsInHanded {} Try.checked os 11 .any (Rows.wireListsSpec.pre6 enc Try.prog Try.f11 Rows.wireListsRow.domain false) (Rows.wireListsSpec.post enc Try.prog Try.f11 false true false false) := by
  refine returnsInHanded_of_change_sized (C := Try.checked) own started (by kernel_rfl) Try.func11
    (ChangeSpec.witness6 (enc := enc) (C := Try.checked) false ⟨#[], #[.slice none 0 0, .int .u16 0], []⟩ 8 (by kernel_rfl) (by kernel_rfl) (by kernel_rfl) (by kernel_rfl)) ?_
  intro W base args ds gs before hval0 hW hcnd hsz0 _
  have hsz : (DataW.weightsEach Try.prog (Try.f11.params.toList ++ Rows.wireListsSpec.plain.varTypes Try.prog) (ds ++ gs)).all (· ≤ reachBytes) = true := hsz0
  have hval : ∀ (j : Nat) t v, Try.f11.params[j]? = some t → args[j]? = some v → Value.okWide Try.prog W .any base t v := hval0
  have hlt0 := fun x hx => hW.lt x hx
  have hW' := hW
  obtain ⟨p, q, hA0, hV, rfl, hfz, hnd⟩ := hW
  obtain ⟨rfl, rfl⟩ := trodVars_none hV
  have hlt : ∀ x ∈ p, x.block < W.heap.size := fun x hx => hlt0 x (by simpa using hx)
  have hA : DataW.TrodAll enc Try.prog W 0 (fun _ => true) true Try.f11.params.toList args.toList ds p := hA0
  have hB := hA
  rw [Try.params11] at hB hval hsz
  obtain ⟨v0, vs0, d0, ds0, p0, q0, hargs, rfl, rfl, h0, r0⟩ := trodAll_cons hB
  obtain ⟨v1, vs1, d1, ds1, p1, q1, rfl, rfl, rfl, h1, r1⟩ := trodAll_cons r0
  obtain ⟨rfl, rfl, rfl⟩ := trodAll_nil r1
  obtain rfl : args = #[v0, v1] := by cases args; simp_all
  obtain ⟨A, n, cap, rfl⟩ := okWide_slice Try.underlying33 (hval 0 33 v0 rfl rfl)
  obtain ⟨f0, h0⟩ := h0
  obtain ⟨l, ⟨A', c', hc, _, hr⟩, _⟩ := strsKind.out h0
  simp only [Value.cells, List.cons.injEq, Value.slice.injEq, and_true] at hc
  obtain ⟨rfl, rfl, rfl⟩ := hc
  obtain ⟨m, rfl, rfl, rfl, hfit⟩ := open_int Try.underlying73 (hval 1 73 v1 rfl rfl) h1
  refine (wireLists_calls A l cap m W hr (fits_u16 hfit)).mono fun e W' ⟨he, bel⟩ => ?_
  subst he
  exact ⟨_, rfl, _, _, _, [], _, [], hW', trodAll_mk1 (shut_bool Try.underlying4 _), trodAll_kept laidOut bel _ _ _ _ fine hlt hA, rfl, bel.frame _, fun h => by cases h⟩
theorem over : Rows.wireListsRow.holds Try.pinned (OpenSpec.ofChange Rows.wireListsSpec) :=
  OpenClaim.holds_of_wide 11 Try.f11 rfl rfl rfl rfl rfl rfl rfl ⟨rfl, rfl, rfl, rfl, rfl⟩ rfl rfl rfl rfl rfl (by kernel_rfl) Try.func11 (by kernel_rfl)
    (of_decide_eq_true (by kernel_rfl)) (by unfold Func.isWrapper; first | (rw [if_pos (by decide +kernel)]; kernel_rfl) | (rw [if_neg (by decide +kernel)]; exact ⟨rfl, rfl⟩))
    (fun os started H enc _ => lifted os started H enc)
theorem proved : Rows.WireListsSaid := over
end Go.Proofs.Ytdohmkanpdhmaaa.wireLists
namespace Go.Proofs.Ytdohmkanpdhmaaa
/-- The row, under a short name, for the claim. -/
theorem wireLists_holds : Rows.WireListsSaid := wireLists.proved
#print axioms wireLists_holds
end Go.Proofs.Ytdohmkanpdhmaaa
