/-
  No cell of these rows narrows 'for every input' (looked for: loops, veiled, ifaces, maps, wideKeys, modest, calm, conditions, laid).
  DERIVED. THE GIVEN ROWS OF THIS SEAT. 12 by the template 'for every input the law returns true; each argument reads behind the call as it read before'; 0 by the template 'total and deterministic' (their statements: YtfkafejoacpclaaTotals.lean).
  GIVEN WITH THE SEED: the statements are not yours to turn. If you find one false, say at which input.
  Laid BY PROGRAM, IN A SANDBOX (cutbox-rows.mjs): the forced cells as the released guide's own fill.sh prints them over the translation 086a477173d72b05… (all of the seat's roots in one cut). By AI agents, Wed Nov 11 2026. No macro, syntax, notation, axiom, sorry.
-/
import Derived.Test.YtfkafejoacpclaaChecked
import GoSem.Claim
import GoSem.ClaimJoined
import GoSem.ClaimMapViews
import Derived.JoinedTies
import Derived.KernelRfl
namespace Go.Proofs.Ytfkafejoacpclaa
/- THE CELL 'sum', in the pinned program and in every row, IS THE sha256 OF THE DUMP (.gsa) THAT YtfkafejoacpclaaProg.lean LOADS. Nothing in Lean hashes anything: it is a label: what it is worth is what the hold of that sum in a sandbox is worth. -/
noncomputable def Try.pinned : Pinned := { name := "ytfkafejoacpclaa", sum := "086a477173d72b05afba0256c10c0cfa5e9bb9063623dc356644cc930771df5c", checked := Try.checked }
namespace Rows
def none {H : Type} : Left H := { results := [], args := [] }

/-- 'annalistlaw04.MerkleEach': WHATEVER THE INPUT: true; the input reads as it did. -/
def merkleEachSpec : ChangeSpec := { name := "merkleEach", fn := fun _ => fun
  | [d] => { results := [.lit (.bool true)], args := [d] }
  | _ => none }
def merkleEachRow : OpenClaim := { program := "ytfkafejoacpclaa", sum := "086a477173d72b05afba0256c10c0cfa5e9bb9063623dc356644cc930771df5c", func := "annalist/annalistlaw04.MerkleEach", spec := "merkleEach", inPlace := ["internal/abi.NoEscape", "internal/bytealg.MakeNoZero"], unfollowed := true, recurses := true, apart := false }
def MerkleEachSaid : Prop := merkleEachRow.holds Try.pinned (OpenSpec.ofChange merkleEachSpec)

/-- ITS FALSE NEIGHBOUR: 'it returns false'. Refute it at one input. -/
def merkleEachWrong : ChangeSpec := { name := "merkleEach", fn := fun _ => fun
  | [d] => { results := [.lit (.bool false)], args := [d] }
  | _ => none }
def MerkleEachWrongFalsely : Prop := merkleEachRow.holds Try.pinned (OpenSpec.ofChange merkleEachWrong)

/-- 'annalistlaw04.MerkleIncluded': WHATEVER THE INPUT: true; the input reads as it did. -/
def merkleIncludedSpec : ChangeSpec := { name := "merkleIncluded", fn := fun _ => fun
  | [d1, d2, d3] => { results := [.lit (.bool true)], args := [d1, d2, d3] }
  | _ => none }
def merkleIncludedRow : OpenClaim := { program := "ytfkafejoacpclaa", sum := "086a477173d72b05afba0256c10c0cfa5e9bb9063623dc356644cc930771df5c", func := "annalist/annalistlaw04.MerkleIncluded", spec := "merkleIncluded", inPlace := ["internal/abi.NoEscape", "internal/bytealg.MakeNoZero"], unfollowed := true, recurses := true, apart := false }
def MerkleIncludedSaid : Prop := merkleIncludedRow.holds Try.pinned (OpenSpec.ofChange merkleIncludedSpec)

/-- ITS FALSE NEIGHBOUR: 'it returns false'. Refute it at one input. -/
def merkleIncludedWrong : ChangeSpec := { name := "merkleIncluded", fn := fun _ => fun
  | [d1, d2, d3] => { results := [.lit (.bool false)], args := [d1, d2, d3] }
  | _ => none }
def MerkleIncludedWrongFalsely : Prop := merkleIncludedRow.holds Try.pinned (OpenSpec.ofChange merkleIncludedWrong)

/-- 'annalistlaw04.MerkleConsistent': WHATEVER THE INPUT: true; the input reads as it did. -/
def merkleConsistentSpec : ChangeSpec := { name := "merkleConsistent", fn := fun _ => fun
  | [d1, d2, d3] => { results := [.lit (.bool true)], args := [d1, d2, d3] }
  | _ => none }
def merkleConsistentRow : OpenClaim := { program := "ytfkafejoacpclaa", sum := "086a477173d72b05afba0256c10c0cfa5e9bb9063623dc356644cc930771df5c", func := "annalist/annalistlaw04.MerkleConsistent", spec := "merkleConsistent", inPlace := ["internal/abi.NoEscape", "internal/bytealg.MakeNoZero"], unfollowed := true, recurses := true, apart := false }
def MerkleConsistentSaid : Prop := merkleConsistentRow.holds Try.pinned (OpenSpec.ofChange merkleConsistentSpec)

/-- ITS FALSE NEIGHBOUR: 'it returns false'. Refute it at one input. -/
def merkleConsistentWrong : ChangeSpec := { name := "merkleConsistent", fn := fun _ => fun
  | [d1, d2, d3] => { results := [.lit (.bool false)], args := [d1, d2, d3] }
  | _ => none }
def MerkleConsistentWrongFalsely : Prop := merkleConsistentRow.holds Try.pinned (OpenSpec.ofChange merkleConsistentWrong)

/-- 'annalistlaw04.MerkleChain': WHATEVER THE INPUT: true; the input reads as it did. -/
def merkleChainSpec : ChangeSpec := { name := "merkleChain", fn := fun _ => fun
  | [d1, d2] => { results := [.lit (.bool true)], args := [d1, d2] }
  | _ => none }
def merkleChainRow : OpenClaim := { program := "ytfkafejoacpclaa", sum := "086a477173d72b05afba0256c10c0cfa5e9bb9063623dc356644cc930771df5c", func := "annalist/annalistlaw04.MerkleChain", spec := "merkleChain", inPlace := ["internal/abi.NoEscape", "internal/bytealg.MakeNoZero"], unfollowed := true, recurses := true, apart := false }
def MerkleChainSaid : Prop := merkleChainRow.holds Try.pinned (OpenSpec.ofChange merkleChainSpec)

/-- ITS FALSE NEIGHBOUR: 'it returns false'. Refute it at one input. -/
def merkleChainWrong : ChangeSpec := { name := "merkleChain", fn := fun _ => fun
  | [d1, d2] => { results := [.lit (.bool false)], args := [d1, d2] }
  | _ => none }
def MerkleChainWrongFalsely : Prop := merkleChainRow.holds Try.pinned (OpenSpec.ofChange merkleChainWrong)

/-- 'annalistlaw04.MerkleProofs': WHATEVER THE INPUT: true; the input reads as it did. -/
def merkleProofsSpec : ChangeSpec := { name := "merkleProofs", fn := fun _ => fun
  | [d1, d2, d3] => { results := [.lit (.bool true)], args := [d1, d2, d3] }
  | _ => none }
def merkleProofsRow : OpenClaim := { program := "ytfkafejoacpclaa", sum := "086a477173d72b05afba0256c10c0cfa5e9bb9063623dc356644cc930771df5c", func := "annalist/annalistlaw04.MerkleProofs", spec := "merkleProofs", inPlace := ["internal/abi.NoEscape", "internal/bytealg.MakeNoZero"], unfollowed := true, recurses := true, apart := false }
def MerkleProofsSaid : Prop := merkleProofsRow.holds Try.pinned (OpenSpec.ofChange merkleProofsSpec)

/-- ITS FALSE NEIGHBOUR: 'it returns false'. Refute it at one input. -/
def merkleProofsWrong : ChangeSpec := { name := "merkleProofs", fn := fun _ => fun
  | [d1, d2, d3] => { results := [.lit (.bool false)], args := [d1, d2, d3] }
  | _ => none }
def MerkleProofsWrongFalsely : Prop := merkleProofsRow.holds Try.pinned (OpenSpec.ofChange merkleProofsWrong)

/-- 'annalistlaw03.OtsDigits': WHATEVER THE INPUT: true; the input reads as it did. -/
def otsDigitsSpec : ChangeSpec := { name := "otsDigits", fn := fun _ => fun
  | [d1, d2] => { results := [.lit (.bool true)], args := [d1, d2] }
  | _ => none }
def otsDigitsRow : OpenClaim := { program := "ytfkafejoacpclaa", sum := "086a477173d72b05afba0256c10c0cfa5e9bb9063623dc356644cc930771df5c", func := "annalist/annalistlaw03.OtsDigits", spec := "otsDigits", inPlace := ["internal/abi.NoEscape", "internal/bytealg.MakeNoZero"], unfollowed := true, recurses := true, apart := false }
def OtsDigitsSaid : Prop := otsDigitsRow.holds Try.pinned (OpenSpec.ofChange otsDigitsSpec)

/-- ITS FALSE NEIGHBOUR: 'it returns false'. Refute it at one input. -/
def otsDigitsWrong : ChangeSpec := { name := "otsDigits", fn := fun _ => fun
  | [d1, d2] => { results := [.lit (.bool false)], args := [d1, d2] }
  | _ => none }
def OtsDigitsWrongFalsely : Prop := otsDigitsRow.holds Try.pinned (OpenSpec.ofChange otsDigitsWrong)

/-- 'annalistlaw03.OtsKeys': WHATEVER THE INPUT: true; the input reads as it did. -/
def otsKeysSpec : ChangeSpec := { name := "otsKeys", fn := fun _ => fun
  | [d1, d2, d3] => { results := [.lit (.bool true)], args := [d1, d2, d3] }
  | _ => none }
def otsKeysRow : OpenClaim := { program := "ytfkafejoacpclaa", sum := "086a477173d72b05afba0256c10c0cfa5e9bb9063623dc356644cc930771df5c", func := "annalist/annalistlaw03.OtsKeys", spec := "otsKeys", inPlace := ["internal/abi.NoEscape", "internal/bytealg.MakeNoZero"], unfollowed := true, recurses := true, apart := false }
def OtsKeysSaid : Prop := otsKeysRow.holds Try.pinned (OpenSpec.ofChange otsKeysSpec)

/-- ITS FALSE NEIGHBOUR: 'it returns false'. Refute it at one input. -/
def otsKeysWrong : ChangeSpec := { name := "otsKeys", fn := fun _ => fun
  | [d1, d2, d3] => { results := [.lit (.bool false)], args := [d1, d2, d3] }
  | _ => none }
def OtsKeysWrongFalsely : Prop := otsKeysRow.holds Try.pinned (OpenSpec.ofChange otsKeysWrong)

/-- 'annalistlaw03.OtsSigns': WHATEVER THE INPUT: true; the input reads as it did. -/
def otsSignsSpec : ChangeSpec := { name := "otsSigns", fn := fun _ => fun
  | [d1, d2, d3] => { results := [.lit (.bool true)], args := [d1, d2, d3] }
  | _ => none }
def otsSignsRow : OpenClaim := { program := "ytfkafejoacpclaa", sum := "086a477173d72b05afba0256c10c0cfa5e9bb9063623dc356644cc930771df5c", func := "annalist/annalistlaw03.OtsSigns", spec := "otsSigns", inPlace := ["internal/abi.NoEscape", "internal/bytealg.MakeNoZero"], unfollowed := true, recurses := true, apart := false }
def OtsSignsSaid : Prop := otsSignsRow.holds Try.pinned (OpenSpec.ofChange otsSignsSpec)

/-- ITS FALSE NEIGHBOUR: 'it returns false'. Refute it at one input. -/
def otsSignsWrong : ChangeSpec := { name := "otsSigns", fn := fun _ => fun
  | [d1, d2, d3] => { results := [.lit (.bool false)], args := [d1, d2, d3] }
  | _ => none }
def OtsSignsWrongFalsely : Prop := otsSignsRow.holds Try.pinned (OpenSpec.ofChange otsSignsWrong)

/-- 'annalistlaw03.OtsVerifies': WHATEVER THE INPUT: true; the input reads as it did. -/
def otsVerifiesSpec : ChangeSpec := { name := "otsVerifies", fn := fun _ => fun
  | [d1, d2, d3] => { results := [.lit (.bool true)], args := [d1, d2, d3] }
  | _ => none }
def otsVerifiesRow : OpenClaim := { program := "ytfkafejoacpclaa", sum := "086a477173d72b05afba0256c10c0cfa5e9bb9063623dc356644cc930771df5c", func := "annalist/annalistlaw03.OtsVerifies", spec := "otsVerifies", inPlace := ["internal/abi.NoEscape", "internal/bytealg.MakeNoZero"], unfollowed := true, recurses := true, apart := false }
def OtsVerifiesSaid : Prop := otsVerifiesRow.holds Try.pinned (OpenSpec.ofChange otsVerifiesSpec)

/-- ITS FALSE NEIGHBOUR: 'it returns false'. Refute it at one input. -/
def otsVerifiesWrong : ChangeSpec := { name := "otsVerifies", fn := fun _ => fun
  | [d1, d2, d3] => { results := [.lit (.bool false)], args := [d1, d2, d3] }
  | _ => none }
def OtsVerifiesWrongFalsely : Prop := otsVerifiesRow.holds Try.pinned (OpenSpec.ofChange otsVerifiesWrong)

/-- 'annalistlaw05.SmtOrder': WHATEVER THE INPUT: true; the input reads as it did. -/
def smtOrderSpec : ChangeSpec := { name := "smtOrder", fn := fun _ => fun
  | [d] => { results := [.lit (.bool true)], args := [d] }
  | _ => none }
def smtOrderRow : OpenClaim := { program := "ytfkafejoacpclaa", sum := "086a477173d72b05afba0256c10c0cfa5e9bb9063623dc356644cc930771df5c", func := "annalist/annalistlaw05.SmtOrder", spec := "smtOrder", inPlace := ["internal/abi.NoEscape", "internal/bytealg.MakeNoZero", "internal/bytealg.abigen_runtime_cmpstring"], unfollowed := true, recurses := true, apart := false }
def SmtOrderSaid : Prop := smtOrderRow.holds Try.pinned (OpenSpec.ofChange smtOrderSpec)

/-- ITS FALSE NEIGHBOUR: 'it returns false'. Refute it at one input. -/
def smtOrderWrong : ChangeSpec := { name := "smtOrder", fn := fun _ => fun
  | [d] => { results := [.lit (.bool false)], args := [d] }
  | _ => none }
def SmtOrderWrongFalsely : Prop := smtOrderRow.holds Try.pinned (OpenSpec.ofChange smtOrderWrong)

/-- 'annalistlaw05.SmtVerifies': WHATEVER THE INPUT: true; the input reads as it did. -/
def smtVerifiesSpec : ChangeSpec := { name := "smtVerifies", fn := fun _ => fun
  | [d1, d2, d3] => { results := [.lit (.bool true)], args := [d1, d2, d3] }
  | _ => none }
def smtVerifiesRow : OpenClaim := { program := "ytfkafejoacpclaa", sum := "086a477173d72b05afba0256c10c0cfa5e9bb9063623dc356644cc930771df5c", func := "annalist/annalistlaw05.SmtVerifies", spec := "smtVerifies", inPlace := ["internal/abi.NoEscape", "internal/bytealg.MakeNoZero", "internal/bytealg.abigen_runtime_cmpstring"], unfollowed := true, recurses := true, apart := false }
def SmtVerifiesSaid : Prop := smtVerifiesRow.holds Try.pinned (OpenSpec.ofChange smtVerifiesSpec)

/-- ITS FALSE NEIGHBOUR: 'it returns false'. Refute it at one input. -/
def smtVerifiesWrong : ChangeSpec := { name := "smtVerifies", fn := fun _ => fun
  | [d1, d2, d3] => { results := [.lit (.bool false)], args := [d1, d2, d3] }
  | _ => none }
def SmtVerifiesWrongFalsely : Prop := smtVerifiesRow.holds Try.pinned (OpenSpec.ofChange smtVerifiesWrong)

/-- 'annalistlaw05.SmtEach': WHATEVER THE INPUT: true; the input reads as it did. -/
def smtEachSpec : ChangeSpec := { name := "smtEach", fn := fun _ => fun
  | [d1, d2] => { results := [.lit (.bool true)], args := [d1, d2] }
  | _ => none }
def smtEachRow : OpenClaim := { program := "ytfkafejoacpclaa", sum := "086a477173d72b05afba0256c10c0cfa5e9bb9063623dc356644cc930771df5c", func := "annalist/annalistlaw05.SmtEach", spec := "smtEach", inPlace := ["internal/abi.NoEscape", "internal/bytealg.MakeNoZero", "internal/bytealg.abigen_runtime_cmpstring"], unfollowed := true, recurses := true, apart := false }
def SmtEachSaid : Prop := smtEachRow.holds Try.pinned (OpenSpec.ofChange smtEachSpec)

/-- ITS FALSE NEIGHBOUR: 'it returns false'. Refute it at one input. -/
def smtEachWrong : ChangeSpec := { name := "smtEach", fn := fun _ => fun
  | [d1, d2] => { results := [.lit (.bool false)], args := [d1, d2] }
  | _ => none }
def SmtEachWrongFalsely : Prop := smtEachRow.holds Try.pinned (OpenSpec.ofChange smtEachWrong)

/- THE SECOND FORM. 'bulk': how many values and letters a reading holds, each counted each time it is reached (what is shared counts as often as it is met; a slice's spare places count too). A statement '..UptoSaid' is the law's where the arguments, and the package variables that the reading takes, are together of bulk at most 1048576: NARROWER than '..Said'. Prove '..Said' where nothing that the law and all that it calls make is longer than what came in: it says more and counts as full. Else prove '..UptoSaid'. A law counts once. -/
mutual
def uptoBulk {H : Type} : DataW H → Nat
  | .lit (.string bytes) => bytes.length + 1
  | .lit _ => 1
  | .nil => 1
  | .ptr d => uptoBulk d + 1
  | .slice elems spare => uptoBulkAll elems + uptoBulkAll spare + 1
  | .agg parts => uptoBulkAll parts + 1
  | .iface _ d => uptoBulk d + 1
  | .map entries => uptoBulkEntries entries + 1
  | .held _ => 1
def uptoBulkAll {H : Type} : List (DataW H) → Nat
  | [] => 0
  | d :: r => uptoBulk d + uptoBulkAll r
def uptoBulkEntries {H : Type} : List (Lit × DataW H) → Nat
  | [] => 0
  | x :: r => uptoBulkEntry x + uptoBulkEntries r
def uptoBulkEntry {H : Type} : Lit × DataW H → Nat
  | (.string bytes, d) => bytes.length + uptoBulk d + 1
  | (_, d) => uptoBulk d + 1
 end
def uptoSmall : (H : Type) → List (DataW H) → Bool := fun _ ds => decide (uptoBulkAll ds ≤ 1048576)
def OpenSpec.upto (s : _root_.Go.ChangeSpec) : _root_.Go.OpenSpec := { _root_.Go.OpenSpec.ofChange s with cond := some uptoSmall }

/-- 'annalistlaw04.MerkleEach', WHERE WHAT IT READS IS OF BULK AT MOST 1048576: true; the input reads as it did. -/
def merkleEachUptoRow : OpenClaim := { program := "ytfkafejoacpclaa", sum := "086a477173d72b05afba0256c10c0cfa5e9bb9063623dc356644cc930771df5c", func := "annalist/annalistlaw04.MerkleEach", spec := "merkleEach", inPlace := ["internal/abi.NoEscape", "internal/bytealg.MakeNoZero"], unfollowed := true, recurses := true, apart := false, narrowed := true }
def MerkleEachUptoSaid : Prop := merkleEachUptoRow.holds Try.pinned (OpenSpec.upto merkleEachSpec)

/-- 'annalistlaw04.MerkleIncluded', WHERE WHAT IT READS IS OF BULK AT MOST 1048576: true; the input reads as it did. -/
def merkleIncludedUptoRow : OpenClaim := { program := "ytfkafejoacpclaa", sum := "086a477173d72b05afba0256c10c0cfa5e9bb9063623dc356644cc930771df5c", func := "annalist/annalistlaw04.MerkleIncluded", spec := "merkleIncluded", inPlace := ["internal/abi.NoEscape", "internal/bytealg.MakeNoZero"], unfollowed := true, recurses := true, apart := false, narrowed := true }
def MerkleIncludedUptoSaid : Prop := merkleIncludedUptoRow.holds Try.pinned (OpenSpec.upto merkleIncludedSpec)

/-- 'annalistlaw04.MerkleConsistent', WHERE WHAT IT READS IS OF BULK AT MOST 1048576: true; the input reads as it did. -/
def merkleConsistentUptoRow : OpenClaim := { program := "ytfkafejoacpclaa", sum := "086a477173d72b05afba0256c10c0cfa5e9bb9063623dc356644cc930771df5c", func := "annalist/annalistlaw04.MerkleConsistent", spec := "merkleConsistent", inPlace := ["internal/abi.NoEscape", "internal/bytealg.MakeNoZero"], unfollowed := true, recurses := true, apart := false, narrowed := true }
def MerkleConsistentUptoSaid : Prop := merkleConsistentUptoRow.holds Try.pinned (OpenSpec.upto merkleConsistentSpec)

/-- 'annalistlaw04.MerkleChain', WHERE WHAT IT READS IS OF BULK AT MOST 1048576: true; the input reads as it did. -/
def merkleChainUptoRow : OpenClaim := { program := "ytfkafejoacpclaa", sum := "086a477173d72b05afba0256c10c0cfa5e9bb9063623dc356644cc930771df5c", func := "annalist/annalistlaw04.MerkleChain", spec := "merkleChain", inPlace := ["internal/abi.NoEscape", "internal/bytealg.MakeNoZero"], unfollowed := true, recurses := true, apart := false, narrowed := true }
def MerkleChainUptoSaid : Prop := merkleChainUptoRow.holds Try.pinned (OpenSpec.upto merkleChainSpec)

/-- 'annalistlaw04.MerkleProofs', WHERE WHAT IT READS IS OF BULK AT MOST 1048576: true; the input reads as it did. -/
def merkleProofsUptoRow : OpenClaim := { program := "ytfkafejoacpclaa", sum := "086a477173d72b05afba0256c10c0cfa5e9bb9063623dc356644cc930771df5c", func := "annalist/annalistlaw04.MerkleProofs", spec := "merkleProofs", inPlace := ["internal/abi.NoEscape", "internal/bytealg.MakeNoZero"], unfollowed := true, recurses := true, apart := false, narrowed := true }
def MerkleProofsUptoSaid : Prop := merkleProofsUptoRow.holds Try.pinned (OpenSpec.upto merkleProofsSpec)

/-- 'annalistlaw03.OtsDigits', WHERE WHAT IT READS IS OF BULK AT MOST 1048576: true; the input reads as it did. -/
def otsDigitsUptoRow : OpenClaim := { program := "ytfkafejoacpclaa", sum := "086a477173d72b05afba0256c10c0cfa5e9bb9063623dc356644cc930771df5c", func := "annalist/annalistlaw03.OtsDigits", spec := "otsDigits", inPlace := ["internal/abi.NoEscape", "internal/bytealg.MakeNoZero"], unfollowed := true, recurses := true, apart := false, narrowed := true }
def OtsDigitsUptoSaid : Prop := otsDigitsUptoRow.holds Try.pinned (OpenSpec.upto otsDigitsSpec)

/-- 'annalistlaw03.OtsKeys', WHERE WHAT IT READS IS OF BULK AT MOST 1048576: true; the input reads as it did. -/
def otsKeysUptoRow : OpenClaim := { program := "ytfkafejoacpclaa", sum := "086a477173d72b05afba0256c10c0cfa5e9bb9063623dc356644cc930771df5c", func := "annalist/annalistlaw03.OtsKeys", spec := "otsKeys", inPlace := ["internal/abi.NoEscape", "internal/bytealg.MakeNoZero"], unfollowed := true, recurses := true, apart := false, narrowed := true }
def OtsKeysUptoSaid : Prop := otsKeysUptoRow.holds Try.pinned (OpenSpec.upto otsKeysSpec)

/-- 'annalistlaw03.OtsSigns', WHERE WHAT IT READS IS OF BULK AT MOST 1048576: true; the input reads as it did. -/
def otsSignsUptoRow : OpenClaim := { program := "ytfkafejoacpclaa", sum := "086a477173d72b05afba0256c10c0cfa5e9bb9063623dc356644cc930771df5c", func := "annalist/annalistlaw03.OtsSigns", spec := "otsSigns", inPlace := ["internal/abi.NoEscape", "internal/bytealg.MakeNoZero"], unfollowed := true, recurses := true, apart := false, narrowed := true }
def OtsSignsUptoSaid : Prop := otsSignsUptoRow.holds Try.pinned (OpenSpec.upto otsSignsSpec)

/-- 'annalistlaw03.OtsVerifies', WHERE WHAT IT READS IS OF BULK AT MOST 1048576: true; the input reads as it did. -/
def otsVerifiesUptoRow : OpenClaim := { program := "ytfkafejoacpclaa", sum := "086a477173d72b05afba0256c10c0cfa5e9bb9063623dc356644cc930771df5c", func := "annalist/annalistlaw03.OtsVerifies", spec := "otsVerifies", inPlace := ["internal/abi.NoEscape", "internal/bytealg.MakeNoZero"], unfollowed := true, recurses := true, apart := false, narrowed := true }
def OtsVerifiesUptoSaid : Prop := otsVerifiesUptoRow.holds Try.pinned (OpenSpec.upto otsVerifiesSpec)

/-- 'annalistlaw05.SmtOrder', WHERE WHAT IT READS IS OF BULK AT MOST 1048576: true; the input reads as it did. -/
def smtOrderUptoRow : OpenClaim := { program := "ytfkafejoacpclaa", sum := "086a477173d72b05afba0256c10c0cfa5e9bb9063623dc356644cc930771df5c", func := "annalist/annalistlaw05.SmtOrder", spec := "smtOrder", inPlace := ["internal/abi.NoEscape", "internal/bytealg.MakeNoZero", "internal/bytealg.abigen_runtime_cmpstring"], unfollowed := true, recurses := true, apart := false, narrowed := true }
def SmtOrderUptoSaid : Prop := smtOrderUptoRow.holds Try.pinned (OpenSpec.upto smtOrderSpec)

/-- 'annalistlaw05.SmtVerifies', WHERE WHAT IT READS IS OF BULK AT MOST 1048576: true; the input reads as it did. -/
def smtVerifiesUptoRow : OpenClaim := { program := "ytfkafejoacpclaa", sum := "086a477173d72b05afba0256c10c0cfa5e9bb9063623dc356644cc930771df5c", func := "annalist/annalistlaw05.SmtVerifies", spec := "smtVerifies", inPlace := ["internal/abi.NoEscape", "internal/bytealg.MakeNoZero", "internal/bytealg.abigen_runtime_cmpstring"], unfollowed := true, recurses := true, apart := false, narrowed := true }
def SmtVerifiesUptoSaid : Prop := smtVerifiesUptoRow.holds Try.pinned (OpenSpec.upto smtVerifiesSpec)

/-- 'annalistlaw05.SmtEach', WHERE WHAT IT READS IS OF BULK AT MOST 1048576: true; the input reads as it did. -/
def smtEachUptoRow : OpenClaim := { program := "ytfkafejoacpclaa", sum := "086a477173d72b05afba0256c10c0cfa5e9bb9063623dc356644cc930771df5c", func := "annalist/annalistlaw05.SmtEach", spec := "smtEach", inPlace := ["internal/abi.NoEscape", "internal/bytealg.MakeNoZero", "internal/bytealg.abigen_runtime_cmpstring"], unfollowed := true, recurses := true, apart := false, narrowed := true }
def SmtEachUptoSaid : Prop := smtEachUptoRow.holds Try.pinned (OpenSpec.upto smtEachSpec)

end Rows
end Go.Proofs.Ytfkafejoacpclaa
