/-
  No cell of these rows narrows 'for every input' (looked for: loops, veiled, ifaces, maps, wideKeys, modest, calm, conditions, laid).
  DERIVED. THE GIVEN ROWS OF THIS SEAT. 10 by the template 'for every input the law returns true; each argument reads behind the call as it read before'; 0 by the template 'total and deterministic' (their statements: YtadmpaeblbddgaaTotals.lean).
  GIVEN WITH THE SEED: the statements are not yours to turn. If you find one false, say at which input.
  Laid BY PROGRAM, IN A SANDBOX (cutbox-rows.mjs): the forced cells as the released guide's own fill.sh prints them over the translation 521513e9efac75e2… (all of the seat's roots in one cut). By AI agents, Wed Nov 11 2026. No macro, syntax, notation, axiom, sorry.
-/
import Derived.Test.YtadmpaeblbddgaaChecked
import GoSem.Claim
import GoSem.ClaimJoined
import GoSem.ClaimMapViews
import Derived.JoinedTies
import Derived.KernelRfl
namespace Go.Proofs.Ytadmpaeblbddgaa
/- THE CELL 'sum', in the pinned program and in every row, IS THE sha256 OF THE DUMP (.gsa) THAT YtadmpaeblbddgaaProg.lean LOADS. Nothing in Lean hashes anything: it is a label: what it is worth is what the hold of that sum in a sandbox is worth. -/
noncomputable def Try.pinned : Pinned := { name := "ytadmpaeblbddgaa", sum := "521513e9efac75e25e4738853c3972fa815d7cf6366a0d8e8557e597fe498b1f", checked := Try.checked }
namespace Rows
def none {H : Type} : Left H := { results := [], args := [] }

/-- 'annalistlaw09.ClashRoots': WHATEVER THE INPUT: true; the input reads as it did. -/
def clashRootsSpec : ChangeSpec := { name := "clashRoots", fn := fun _ => fun
  | [d1, d2, d3] => { results := [.lit (.bool true)], args := [d1, d2, d3] }
  | _ => none }
def clashRootsRow : OpenClaim := { program := "ytadmpaeblbddgaa", sum := "521513e9efac75e25e4738853c3972fa815d7cf6366a0d8e8557e597fe498b1f", func := "annalist/annalistlaw09.ClashRoots", spec := "clashRoots", unfollowed := true, recurses := true, apart := false }
def ClashRootsSaid : Prop := clashRootsRow.holds Try.pinned (OpenSpec.ofChange clashRootsSpec)

/-- ITS FALSE NEIGHBOUR: 'it returns false'. Refute it at one input. -/
def clashRootsWrong : ChangeSpec := { name := "clashRoots", fn := fun _ => fun
  | [d1, d2, d3] => { results := [.lit (.bool false)], args := [d1, d2, d3] }
  | _ => none }
def ClashRootsWrongFalsely : Prop := clashRootsRow.holds Try.pinned (OpenSpec.ofChange clashRootsWrong)

/-- 'annalistlaw09.ClashValues': WHATEVER THE INPUT: true; the input reads as it did. -/
def clashValuesSpec : ChangeSpec := { name := "clashValues", fn := fun _ => fun
  | [d1, d2, d3] => { results := [.lit (.bool true)], args := [d1, d2, d3] }
  | _ => none }
def clashValuesRow : OpenClaim := { program := "ytadmpaeblbddgaa", sum := "521513e9efac75e25e4738853c3972fa815d7cf6366a0d8e8557e597fe498b1f", func := "annalist/annalistlaw09.ClashValues", spec := "clashValues", unfollowed := true, recurses := true, apart := false }
def ClashValuesSaid : Prop := clashValuesRow.holds Try.pinned (OpenSpec.ofChange clashValuesSpec)

/-- ITS FALSE NEIGHBOUR: 'it returns false'. Refute it at one input. -/
def clashValuesWrong : ChangeSpec := { name := "clashValues", fn := fun _ => fun
  | [d1, d2, d3] => { results := [.lit (.bool false)], args := [d1, d2, d3] }
  | _ => none }
def ClashValuesWrongFalsely : Prop := clashValuesRow.holds Try.pinned (OpenSpec.ofChange clashValuesWrong)

/-- 'annalistlaw24.HistoryWell': WHATEVER THE INPUT: true; the input reads as it did. -/
def historyWellSpec : ChangeSpec := { name := "historyWell", fn := fun _ => fun
  | [d1, d2] => { results := [.lit (.bool true)], args := [d1, d2] }
  | _ => none }
def historyWellRow : OpenClaim := { program := "ytadmpaeblbddgaa", sum := "521513e9efac75e25e4738853c3972fa815d7cf6366a0d8e8557e597fe498b1f", func := "annalist/annalistlaw24.HistoryWell", spec := "historyWell", unfollowed := true, recurses := true, apart := false }
def HistoryWellSaid : Prop := historyWellRow.holds Try.pinned (OpenSpec.ofChange historyWellSpec)

/-- ITS FALSE NEIGHBOUR: 'it returns false'. Refute it at one input. -/
def historyWellWrong : ChangeSpec := { name := "historyWell", fn := fun _ => fun
  | [d1, d2] => { results := [.lit (.bool false)], args := [d1, d2] }
  | _ => none }
def HistoryWellWrongFalsely : Prop := historyWellRow.holds Try.pinned (OpenSpec.ofChange historyWellWrong)

/-- 'annalistlaw24.HistoryPlaces': WHATEVER THE INPUT: true; the input reads as it did. -/
def historyPlacesSpec : ChangeSpec := { name := "historyPlaces", fn := fun _ => fun
  | [d1, d2, d3] => { results := [.lit (.bool true)], args := [d1, d2, d3] }
  | _ => none }
def historyPlacesRow : OpenClaim := { program := "ytadmpaeblbddgaa", sum := "521513e9efac75e25e4738853c3972fa815d7cf6366a0d8e8557e597fe498b1f", func := "annalist/annalistlaw24.HistoryPlaces", spec := "historyPlaces", unfollowed := true, recurses := true, apart := false }
def HistoryPlacesSaid : Prop := historyPlacesRow.holds Try.pinned (OpenSpec.ofChange historyPlacesSpec)

/-- ITS FALSE NEIGHBOUR: 'it returns false'. Refute it at one input. -/
def historyPlacesWrong : ChangeSpec := { name := "historyPlaces", fn := fun _ => fun
  | [d1, d2, d3] => { results := [.lit (.bool false)], args := [d1, d2, d3] }
  | _ => none }
def HistoryPlacesWrongFalsely : Prop := historyPlacesRow.holds Try.pinned (OpenSpec.ofChange historyPlacesWrong)

/-- 'annalistlaw24.HistoryLess': WHATEVER THE INPUT: true; the input reads as it did. -/
def historyLessSpec : ChangeSpec := { name := "historyLess", fn := fun _ => fun
  | [d1, d2, d3] => { results := [.lit (.bool true)], args := [d1, d2, d3] }
  | _ => none }
def historyLessRow : OpenClaim := { program := "ytadmpaeblbddgaa", sum := "521513e9efac75e25e4738853c3972fa815d7cf6366a0d8e8557e597fe498b1f", func := "annalist/annalistlaw24.HistoryLess", spec := "historyLess", unfollowed := true, recurses := true, apart := false }
def HistoryLessSaid : Prop := historyLessRow.holds Try.pinned (OpenSpec.ofChange historyLessSpec)

/-- ITS FALSE NEIGHBOUR: 'it returns false'. Refute it at one input. -/
def historyLessWrong : ChangeSpec := { name := "historyLess", fn := fun _ => fun
  | [d1, d2, d3] => { results := [.lit (.bool false)], args := [d1, d2, d3] }
  | _ => none }
def HistoryLessWrongFalsely : Prop := historyLessRow.holds Try.pinned (OpenSpec.ofChange historyLessWrong)

/-- 'annalistlaw01.ShaTable': WHATEVER THE INPUT: true; the input reads as it did. -/
def shaTableSpec : ChangeSpec := { name := "shaTable", fn := fun _ => fun
  | [d1, d2] => { results := [.lit (.bool true)], args := [d1, d2] }
  | _ => none }
def shaTableRow : OpenClaim := { program := "ytadmpaeblbddgaa", sum := "521513e9efac75e25e4738853c3972fa815d7cf6366a0d8e8557e597fe498b1f", func := "annalist/annalistlaw01.ShaTable", spec := "shaTable", unfollowed := true, recurses := true, apart := false }
def ShaTableSaid : Prop := shaTableRow.holds Try.pinned (OpenSpec.ofChange shaTableSpec)

/-- ITS FALSE NEIGHBOUR: 'it returns false'. Refute it at one input. -/
def shaTableWrong : ChangeSpec := { name := "shaTable", fn := fun _ => fun
  | [d1, d2] => { results := [.lit (.bool false)], args := [d1, d2] }
  | _ => none }
def ShaTableWrongFalsely : Prop := shaTableRow.holds Try.pinned (OpenSpec.ofChange shaTableWrong)

/-- 'annalistlaw01.ShaEmpty': WHATEVER THE INPUT: true; the input reads as it did. -/
def shaEmptySpec : ChangeSpec := { name := "shaEmpty", fn := fun _ => fun
  | [d1, d2] => { results := [.lit (.bool true)], args := [d1, d2] }
  | _ => none }
def shaEmptyRow : OpenClaim := { program := "ytadmpaeblbddgaa", sum := "521513e9efac75e25e4738853c3972fa815d7cf6366a0d8e8557e597fe498b1f", func := "annalist/annalistlaw01.ShaEmpty", spec := "shaEmpty", inPlace := ["internal/abi.NoEscape", "internal/bytealg.MakeNoZero"], unfollowed := true, recurses := true, apart := false }
def ShaEmptySaid : Prop := shaEmptyRow.holds Try.pinned (OpenSpec.ofChange shaEmptySpec)

/-- ITS FALSE NEIGHBOUR: 'it returns false'. Refute it at one input. -/
def shaEmptyWrong : ChangeSpec := { name := "shaEmpty", fn := fun _ => fun
  | [d1, d2] => { results := [.lit (.bool false)], args := [d1, d2] }
  | _ => none }
def ShaEmptyWrongFalsely : Prop := shaEmptyRow.holds Try.pinned (OpenSpec.ofChange shaEmptyWrong)

/-- 'annalistlaw01.ShaBits': WHATEVER THE INPUT: true; the input reads as it did. -/
def shaBitsSpec : ChangeSpec := { name := "shaBits", fn := fun _ => fun
  | [d1, d2] => { results := [.lit (.bool true)], args := [d1, d2] }
  | _ => none }
def shaBitsRow : OpenClaim := { program := "ytadmpaeblbddgaa", sum := "521513e9efac75e25e4738853c3972fa815d7cf6366a0d8e8557e597fe498b1f", func := "annalist/annalistlaw01.ShaBits", spec := "shaBits", inPlace := ["internal/abi.NoEscape", "internal/bytealg.MakeNoZero"], unfollowed := true, recurses := true, apart := false }
def ShaBitsSaid : Prop := shaBitsRow.holds Try.pinned (OpenSpec.ofChange shaBitsSpec)

/-- ITS FALSE NEIGHBOUR: 'it returns false'. Refute it at one input. -/
def shaBitsWrong : ChangeSpec := { name := "shaBits", fn := fun _ => fun
  | [d1, d2] => { results := [.lit (.bool false)], args := [d1, d2] }
  | _ => none }
def ShaBitsWrongFalsely : Prop := shaBitsRow.holds Try.pinned (OpenSpec.ofChange shaBitsWrong)

/-- 'annalistlaw01.ShaSums': WHATEVER THE INPUT: true; the input reads as it did. -/
def shaSumsSpec : ChangeSpec := { name := "shaSums", fn := fun _ => fun
  | [d] => { results := [.lit (.bool true)], args := [d] }
  | _ => none }
def shaSumsRow : OpenClaim := { program := "ytadmpaeblbddgaa", sum := "521513e9efac75e25e4738853c3972fa815d7cf6366a0d8e8557e597fe498b1f", func := "annalist/annalistlaw01.ShaSums", spec := "shaSums", inPlace := ["internal/abi.NoEscape", "internal/bytealg.MakeNoZero"], unfollowed := true, recurses := true, apart := false }
def ShaSumsSaid : Prop := shaSumsRow.holds Try.pinned (OpenSpec.ofChange shaSumsSpec)

/-- ITS FALSE NEIGHBOUR: 'it returns false'. Refute it at one input. -/
def shaSumsWrong : ChangeSpec := { name := "shaSums", fn := fun _ => fun
  | [d] => { results := [.lit (.bool false)], args := [d] }
  | _ => none }
def ShaSumsWrongFalsely : Prop := shaSumsRow.holds Try.pinned (OpenSpec.ofChange shaSumsWrong)

/-- 'annalistlaw01.ShaParts': WHATEVER THE INPUT: true; the input reads as it did. -/
def shaPartsSpec : ChangeSpec := { name := "shaParts", fn := fun _ => fun
  | [d] => { results := [.lit (.bool true)], args := [d] }
  | _ => none }
def shaPartsRow : OpenClaim := { program := "ytadmpaeblbddgaa", sum := "521513e9efac75e25e4738853c3972fa815d7cf6366a0d8e8557e597fe498b1f", func := "annalist/annalistlaw01.ShaParts", spec := "shaParts", inPlace := ["internal/abi.NoEscape", "internal/bytealg.MakeNoZero"], unfollowed := true, recurses := true, apart := false }
def ShaPartsSaid : Prop := shaPartsRow.holds Try.pinned (OpenSpec.ofChange shaPartsSpec)

/-- ITS FALSE NEIGHBOUR: 'it returns false'. Refute it at one input. -/
def shaPartsWrong : ChangeSpec := { name := "shaParts", fn := fun _ => fun
  | [d] => { results := [.lit (.bool false)], args := [d] }
  | _ => none }
def ShaPartsWrongFalsely : Prop := shaPartsRow.holds Try.pinned (OpenSpec.ofChange shaPartsWrong)

/- THE SECOND FORM. 'bulk': how many values and letters a reading holds, each counted each time it is reached (what is shared counts as often as it is met; a slice's spare places count too). A statement '..UptoSaid' is the law's where the arguments, and the package variables that the reading takes, are together of bulk at most 1048576: NARROWER than '..Said'. Prove '..Said' where nothing that the law and all that it calls make is longer than what came in: it says more and counts as full. Else prove '..UptoSaid'. A law counts once. -/
mutual
def uptoBulk {H : Type} : DataW H → Nat
  | .lit (.string bytes) => bytes.length + 1
  | .lit _ => 1
  | .nil => 1
  | .ptr d => uptoBulk d + 1
  | .slice elems spare => uptoBulkAll elems + uptoBulkAll spare + 1
  | .agg parts => uptoBulkAll parts + 1
  | .iface _ d => uptoBulk d + 1
  | .map entries => uptoBulkEntries entries + 1
  | .held _ => 1
def uptoBulkAll {H : Type} : List (DataW H) → Nat
  | [] => 0
  | d :: r => uptoBulk d + uptoBulkAll r
def uptoBulkEntries {H : Type} : List (Lit × DataW H) → Nat
  | [] => 0
  | x :: r => uptoBulkEntry x + uptoBulkEntries r
def uptoBulkEntry {H : Type} : Lit × DataW H → Nat
  | (.string bytes, d) => bytes.length + uptoBulk d + 1
  | (_, d) => uptoBulk d + 1
 end
def uptoSmall : (H : Type) → List (DataW H) → Bool := fun _ ds => decide (uptoBulkAll ds ≤ 1048576)
def OpenSpec.upto (s : _root_.Go.ChangeSpec) : _root_.Go.OpenSpec := { _root_.Go.OpenSpec.ofChange s with cond := some uptoSmall }

/-- 'annalistlaw09.ClashRoots', WHERE WHAT IT READS IS OF BULK AT MOST 1048576: true; the input reads as it did. -/
def clashRootsUptoRow : OpenClaim := { program := "ytadmpaeblbddgaa", sum := "521513e9efac75e25e4738853c3972fa815d7cf6366a0d8e8557e597fe498b1f", func := "annalist/annalistlaw09.ClashRoots", spec := "clashRoots", unfollowed := true, recurses := true, apart := false, narrowed := true }
def ClashRootsUptoSaid : Prop := clashRootsUptoRow.holds Try.pinned (OpenSpec.upto clashRootsSpec)

/-- 'annalistlaw09.ClashValues', WHERE WHAT IT READS IS OF BULK AT MOST 1048576: true; the input reads as it did. -/
def clashValuesUptoRow : OpenClaim := { program := "ytadmpaeblbddgaa", sum := "521513e9efac75e25e4738853c3972fa815d7cf6366a0d8e8557e597fe498b1f", func := "annalist/annalistlaw09.ClashValues", spec := "clashValues", unfollowed := true, recurses := true, apart := false, narrowed := true }
def ClashValuesUptoSaid : Prop := clashValuesUptoRow.holds Try.pinned (OpenSpec.upto clashValuesSpec)

/-- 'annalistlaw24.HistoryWell', WHERE WHAT IT READS IS OF BULK AT MOST 1048576: true; the input reads as it did. -/
def historyWellUptoRow : OpenClaim := { program := "ytadmpaeblbddgaa", sum := "521513e9efac75e25e4738853c3972fa815d7cf6366a0d8e8557e597fe498b1f", func := "annalist/annalistlaw24.HistoryWell", spec := "historyWell", unfollowed := true, recurses := true, apart := false, narrowed := true }
def HistoryWellUptoSaid : Prop := historyWellUptoRow.holds Try.pinned (OpenSpec.upto historyWellSpec)

/-- 'annalistlaw24.HistoryPlaces', WHERE WHAT IT READS IS OF BULK AT MOST 1048576: true; the input reads as it did. -/
def historyPlacesUptoRow : OpenClaim := { program := "ytadmpaeblbddgaa", sum := "521513e9efac75e25e4738853c3972fa815d7cf6366a0d8e8557e597fe498b1f", func := "annalist/annalistlaw24.HistoryPlaces", spec := "historyPlaces", unfollowed := true, recurses := true, apart := false, narrowed := true }
def HistoryPlacesUptoSaid : Prop := historyPlacesUptoRow.holds Try.pinned (OpenSpec.upto historyPlacesSpec)

/-- 'annalistlaw24.HistoryLess', WHERE WHAT IT READS IS OF BULK AT MOST 1048576: true; the input reads as it did. -/
def historyLessUptoRow : OpenClaim := { program := "ytadmpaeblbddgaa", sum := "521513e9efac75e25e4738853c3972fa815d7cf6366a0d8e8557e597fe498b1f", func := "annalist/annalistlaw24.HistoryLess", spec := "historyLess", unfollowed := true, recurses := true, apart := false, narrowed := true }
def HistoryLessUptoSaid : Prop := historyLessUptoRow.holds Try.pinned (OpenSpec.upto historyLessSpec)

/-- 'annalistlaw01.ShaTable', WHERE WHAT IT READS IS OF BULK AT MOST 1048576: true; the input reads as it did. -/
def shaTableUptoRow : OpenClaim := { program := "ytadmpaeblbddgaa", sum := "521513e9efac75e25e4738853c3972fa815d7cf6366a0d8e8557e597fe498b1f", func := "annalist/annalistlaw01.ShaTable", spec := "shaTable", unfollowed := true, recurses := true, apart := false, narrowed := true }
def ShaTableUptoSaid : Prop := shaTableUptoRow.holds Try.pinned (OpenSpec.upto shaTableSpec)

/-- 'annalistlaw01.ShaEmpty', WHERE WHAT IT READS IS OF BULK AT MOST 1048576: true; the input reads as it did. -/
def shaEmptyUptoRow : OpenClaim := { program := "ytadmpaeblbddgaa", sum := "521513e9efac75e25e4738853c3972fa815d7cf6366a0d8e8557e597fe498b1f", func := "annalist/annalistlaw01.ShaEmpty", spec := "shaEmpty", inPlace := ["internal/abi.NoEscape", "internal/bytealg.MakeNoZero"], unfollowed := true, recurses := true, apart := false, narrowed := true }
def ShaEmptyUptoSaid : Prop := shaEmptyUptoRow.holds Try.pinned (OpenSpec.upto shaEmptySpec)

/-- 'annalistlaw01.ShaBits', WHERE WHAT IT READS IS OF BULK AT MOST 1048576: true; the input reads as it did. -/
def shaBitsUptoRow : OpenClaim := { program := "ytadmpaeblbddgaa", sum := "521513e9efac75e25e4738853c3972fa815d7cf6366a0d8e8557e597fe498b1f", func := "annalist/annalistlaw01.ShaBits", spec := "shaBits", inPlace := ["internal/abi.NoEscape", "internal/bytealg.MakeNoZero"], unfollowed := true, recurses := true, apart := false, narrowed := true }
def ShaBitsUptoSaid : Prop := shaBitsUptoRow.holds Try.pinned (OpenSpec.upto shaBitsSpec)

/-- 'annalistlaw01.ShaSums', WHERE WHAT IT READS IS OF BULK AT MOST 1048576: true; the input reads as it did. -/
def shaSumsUptoRow : OpenClaim := { program := "ytadmpaeblbddgaa", sum := "521513e9efac75e25e4738853c3972fa815d7cf6366a0d8e8557e597fe498b1f", func := "annalist/annalistlaw01.ShaSums", spec := "shaSums", inPlace := ["internal/abi.NoEscape", "internal/bytealg.MakeNoZero"], unfollowed := true, recurses := true, apart := false, narrowed := true }
def ShaSumsUptoSaid : Prop := shaSumsUptoRow.holds Try.pinned (OpenSpec.upto shaSumsSpec)

/-- 'annalistlaw01.ShaParts', WHERE WHAT IT READS IS OF BULK AT MOST 1048576: true; the input reads as it did. -/
def shaPartsUptoRow : OpenClaim := { program := "ytadmpaeblbddgaa", sum := "521513e9efac75e25e4738853c3972fa815d7cf6366a0d8e8557e597fe498b1f", func := "annalist/annalistlaw01.ShaParts", spec := "shaParts", inPlace := ["internal/abi.NoEscape", "internal/bytealg.MakeNoZero"], unfollowed := true, recurses := true, apart := false, narrowed := true }
def ShaPartsUptoSaid : Prop := shaPartsUptoRow.holds Try.pinned (OpenSpec.upto shaPartsSpec)

end Rows
end Go.Proofs.Ytadmpaeblbddgaa
