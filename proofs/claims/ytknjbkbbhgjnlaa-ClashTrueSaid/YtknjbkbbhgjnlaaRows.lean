/-
  No cell of these rows narrows 'for every input' (looked for: loops, veiled, ifaces, maps, wideKeys, modest, calm, conditions, laid).
  DERIVED. THE GIVEN ROWS OF THIS SEAT. 12 by the template 'for every input the law returns true; each argument reads behind the call as it read before'; 0 by the template 'total and deterministic' (their statements: YtknjbkbbhgjnlaaTotals.lean).
  GIVEN WITH THE SEED: the statements are not yours to turn. If you find one false, say at which input.
  Laid BY PROGRAM, IN A SANDBOX (cutbox-rows.mjs): the forced cells as the released guide's own fill.sh prints them over the translation b43c47441ac72866… (all of the seat's roots in one cut). By AI agents, Wed Nov 11 2026. No macro, syntax, notation, axiom, sorry.
-/
import Derived.Test.YtknjbkbbhgjnlaaChecked
import GoSem.Claim
import GoSem.ClaimJoined
import GoSem.ClaimMapViews
import Derived.JoinedTies
import Derived.KernelRfl
namespace Go.Proofs.Ytknjbkbbhgjnlaa
/- THE CELL 'sum', in the pinned program and in every row, IS THE sha256 OF THE DUMP (.gsa) THAT YtknjbkbbhgjnlaaProg.lean LOADS. Nothing in Lean hashes anything: it is a label: what it is worth is what the hold of that sum in a sandbox is worth. -/
noncomputable def Try.pinned : Pinned := { name := "ytknjbkbbhgjnlaa", sum := "b43c47441ac7286619c9f694355a5cdaac2eb5eaace60473d70b00179e00032f", checked := Try.checked }
namespace Rows
def none {H : Type} : Left H := { results := [], args := [] }

/-- 'annalistlaw05.SmtOrder': WHATEVER THE INPUT: true; the input reads as it did. -/
def smtOrderSpec : ChangeSpec := { name := "smtOrder", fn := fun _ => fun
  | [d] => { results := [.lit (.bool true)], args := [d] }
  | _ => none }
def smtOrderRow : OpenClaim := { program := "ytknjbkbbhgjnlaa", sum := "b43c47441ac7286619c9f694355a5cdaac2eb5eaace60473d70b00179e00032f", func := "annalist/annalistlaw05.SmtOrder", spec := "smtOrder", inPlace := ["internal/abi.NoEscape", "internal/bytealg.MakeNoZero", "internal/bytealg.abigen_runtime_cmpstring"], unfollowed := true, recurses := true, apart := false }
def SmtOrderSaid : Prop := smtOrderRow.holds Try.pinned (OpenSpec.ofChange smtOrderSpec)

/-- ITS FALSE NEIGHBOUR: 'it returns false'. Refute it at one input. -/
def smtOrderWrong : ChangeSpec := { name := "smtOrder", fn := fun _ => fun
  | [d] => { results := [.lit (.bool false)], args := [d] }
  | _ => none }
def SmtOrderWrongFalsely : Prop := smtOrderRow.holds Try.pinned (OpenSpec.ofChange smtOrderWrong)

/-- 'annalistlaw05.SmtVerifies': WHATEVER THE INPUT: true; the input reads as it did. -/
def smtVerifiesSpec : ChangeSpec := { name := "smtVerifies", fn := fun _ => fun
  | [d1, d2, d3] => { results := [.lit (.bool true)], args := [d1, d2, d3] }
  | _ => none }
def smtVerifiesRow : OpenClaim := { program := "ytknjbkbbhgjnlaa", sum := "b43c47441ac7286619c9f694355a5cdaac2eb5eaace60473d70b00179e00032f", func := "annalist/annalistlaw05.SmtVerifies", spec := "smtVerifies", inPlace := ["internal/abi.NoEscape", "internal/bytealg.MakeNoZero", "internal/bytealg.abigen_runtime_cmpstring"], unfollowed := true, recurses := true, apart := false }
def SmtVerifiesSaid : Prop := smtVerifiesRow.holds Try.pinned (OpenSpec.ofChange smtVerifiesSpec)

/-- ITS FALSE NEIGHBOUR: 'it returns false'. Refute it at one input. -/
def smtVerifiesWrong : ChangeSpec := { name := "smtVerifies", fn := fun _ => fun
  | [d1, d2, d3] => { results := [.lit (.bool false)], args := [d1, d2, d3] }
  | _ => none }
def SmtVerifiesWrongFalsely : Prop := smtVerifiesRow.holds Try.pinned (OpenSpec.ofChange smtVerifiesWrong)

/-- 'annalistlaw05.SmtEach': WHATEVER THE INPUT: true; the input reads as it did. -/
def smtEachSpec : ChangeSpec := { name := "smtEach", fn := fun _ => fun
  | [d1, d2] => { results := [.lit (.bool true)], args := [d1, d2] }
  | _ => none }
def smtEachRow : OpenClaim := { program := "ytknjbkbbhgjnlaa", sum := "b43c47441ac7286619c9f694355a5cdaac2eb5eaace60473d70b00179e00032f", func := "annalist/annalistlaw05.SmtEach", spec := "smtEach", inPlace := ["internal/abi.NoEscape", "internal/bytealg.MakeNoZero", "internal/bytealg.abigen_runtime_cmpstring"], unfollowed := true, recurses := true, apart := false }
def SmtEachSaid : Prop := smtEachRow.holds Try.pinned (OpenSpec.ofChange smtEachSpec)

/-- ITS FALSE NEIGHBOUR: 'it returns false'. Refute it at one input. -/
def smtEachWrong : ChangeSpec := { name := "smtEach", fn := fun _ => fun
  | [d1, d2] => { results := [.lit (.bool false)], args := [d1, d2] }
  | _ => none }
def SmtEachWrongFalsely : Prop := smtEachRow.holds Try.pinned (OpenSpec.ofChange smtEachWrong)

/-- 'annalistlaw05.SmtProves': WHATEVER THE INPUT: true; the input reads as it did. -/
def smtProvesSpec : ChangeSpec := { name := "smtProves", fn := fun _ => fun
  | [d1, d2] => { results := [.lit (.bool true)], args := [d1, d2] }
  | _ => none }
def smtProvesRow : OpenClaim := { program := "ytknjbkbbhgjnlaa", sum := "b43c47441ac7286619c9f694355a5cdaac2eb5eaace60473d70b00179e00032f", func := "annalist/annalistlaw05.SmtProves", spec := "smtProves", inPlace := ["internal/abi.NoEscape", "internal/bytealg.MakeNoZero", "internal/bytealg.abigen_runtime_cmpstring"], unfollowed := true, recurses := true, apart := false }
def SmtProvesSaid : Prop := smtProvesRow.holds Try.pinned (OpenSpec.ofChange smtProvesSpec)

/-- ITS FALSE NEIGHBOUR: 'it returns false'. Refute it at one input. -/
def smtProvesWrong : ChangeSpec := { name := "smtProves", fn := fun _ => fun
  | [d1, d2] => { results := [.lit (.bool false)], args := [d1, d2] }
  | _ => none }
def SmtProvesWrongFalsely : Prop := smtProvesRow.holds Try.pinned (OpenSpec.ofChange smtProvesWrong)

/-- 'annalistlaw09.ClashTrue': WHATEVER THE INPUT: true; the input reads as it did. -/
def clashTrueSpec : ChangeSpec := { name := "clashTrue", fn := fun _ => fun
  | [d1, d2] => { results := [.lit (.bool true)], args := [d1, d2] }
  | _ => none }
def clashTrueRow : OpenClaim := { program := "ytknjbkbbhgjnlaa", sum := "b43c47441ac7286619c9f694355a5cdaac2eb5eaace60473d70b00179e00032f", func := "annalist/annalistlaw09.ClashTrue", spec := "clashTrue", inPlace := ["internal/abi.NoEscape", "internal/bytealg.MakeNoZero", "internal/bytealg.abigen_runtime_cmpstring"], unfollowed := true, recurses := true, apart := false }
def ClashTrueSaid : Prop := clashTrueRow.holds Try.pinned (OpenSpec.ofChange clashTrueSpec)

/-- ITS FALSE NEIGHBOUR: 'it returns false'. Refute it at one input. -/
def clashTrueWrong : ChangeSpec := { name := "clashTrue", fn := fun _ => fun
  | [d1, d2] => { results := [.lit (.bool false)], args := [d1, d2] }
  | _ => none }
def ClashTrueWrongFalsely : Prop := clashTrueRow.holds Try.pinned (OpenSpec.ofChange clashTrueWrong)

/-- 'annalistlaw11.StateApart': WHATEVER THE INPUT: true; the input reads as it did. -/
def stateApartSpec : ChangeSpec := { name := "stateApart", fn := fun _ => fun
  | [d1, d2] => { results := [.lit (.bool true)], args := [d1, d2] }
  | _ => none }
def stateApartRow : OpenClaim := { program := "ytknjbkbbhgjnlaa", sum := "b43c47441ac7286619c9f694355a5cdaac2eb5eaace60473d70b00179e00032f", func := "annalist/annalistlaw11.StateApart", spec := "stateApart", inPlace := ["internal/abi.NoEscape", "internal/bytealg.MakeNoZero", "internal/bytealg.abigen_runtime_cmpstring"], unfollowed := true, recurses := true, apart := false }
def StateApartSaid : Prop := stateApartRow.holds Try.pinned (OpenSpec.ofChange stateApartSpec)

/-- ITS FALSE NEIGHBOUR: 'it returns false'. Refute it at one input. -/
def stateApartWrong : ChangeSpec := { name := "stateApart", fn := fun _ => fun
  | [d1, d2] => { results := [.lit (.bool false)], args := [d1, d2] }
  | _ => none }
def StateApartWrongFalsely : Prop := stateApartRow.holds Try.pinned (OpenSpec.ofChange stateApartWrong)

/-- 'annalistlaw11.StatePlays': WHATEVER THE INPUT: true; the input reads as it did. -/
def statePlaysSpec : ChangeSpec := { name := "statePlays", fn := fun _ => fun
  | [d] => { results := [.lit (.bool true)], args := [d] }
  | _ => none }
def statePlaysRow : OpenClaim := { program := "ytknjbkbbhgjnlaa", sum := "b43c47441ac7286619c9f694355a5cdaac2eb5eaace60473d70b00179e00032f", func := "annalist/annalistlaw11.StatePlays", spec := "statePlays", inPlace := ["internal/abi.NoEscape", "internal/bytealg.MakeNoZero", "internal/bytealg.abigen_runtime_cmpstring"], unfollowed := true, recurses := true, apart := false }
def StatePlaysSaid : Prop := statePlaysRow.holds Try.pinned (OpenSpec.ofChange statePlaysSpec)

/-- ITS FALSE NEIGHBOUR: 'it returns false'. Refute it at one input. -/
def statePlaysWrong : ChangeSpec := { name := "statePlays", fn := fun _ => fun
  | [d] => { results := [.lit (.bool false)], args := [d] }
  | _ => none }
def StatePlaysWrongFalsely : Prop := statePlaysRow.holds Try.pinned (OpenSpec.ofChange statePlaysWrong)

/-- 'annalistlaw11.StateOnce': WHATEVER THE INPUT: true; the input reads as it did. -/
def stateOnceSpec : ChangeSpec := { name := "stateOnce", fn := fun _ => fun
  | [d1, d2] => { results := [.lit (.bool true)], args := [d1, d2] }
  | _ => none }
def stateOnceRow : OpenClaim := { program := "ytknjbkbbhgjnlaa", sum := "b43c47441ac7286619c9f694355a5cdaac2eb5eaace60473d70b00179e00032f", func := "annalist/annalistlaw11.StateOnce", spec := "stateOnce", inPlace := ["internal/abi.NoEscape", "internal/bytealg.MakeNoZero", "internal/bytealg.abigen_runtime_cmpstring"], unfollowed := true, recurses := true, apart := false }
def StateOnceSaid : Prop := stateOnceRow.holds Try.pinned (OpenSpec.ofChange stateOnceSpec)

/-- ITS FALSE NEIGHBOUR: 'it returns false'. Refute it at one input. -/
def stateOnceWrong : ChangeSpec := { name := "stateOnce", fn := fun _ => fun
  | [d1, d2] => { results := [.lit (.bool false)], args := [d1, d2] }
  | _ => none }
def StateOnceWrongFalsely : Prop := stateOnceRow.holds Try.pinned (OpenSpec.ofChange stateOnceWrong)

/-- 'annalistlaw11.StateRises': WHATEVER THE INPUT: true; the input reads as it did. -/
def stateRisesSpec : ChangeSpec := { name := "stateRises", fn := fun _ => fun
  | [d1, d2] => { results := [.lit (.bool true)], args := [d1, d2] }
  | _ => none }
def stateRisesRow : OpenClaim := { program := "ytknjbkbbhgjnlaa", sum := "b43c47441ac7286619c9f694355a5cdaac2eb5eaace60473d70b00179e00032f", func := "annalist/annalistlaw11.StateRises", spec := "stateRises", inPlace := ["internal/abi.NoEscape", "internal/bytealg.MakeNoZero", "internal/bytealg.abigen_runtime_cmpstring"], unfollowed := true, recurses := true, apart := false }
def StateRisesSaid : Prop := stateRisesRow.holds Try.pinned (OpenSpec.ofChange stateRisesSpec)

/-- ITS FALSE NEIGHBOUR: 'it returns false'. Refute it at one input. -/
def stateRisesWrong : ChangeSpec := { name := "stateRises", fn := fun _ => fun
  | [d1, d2] => { results := [.lit (.bool false)], args := [d1, d2] }
  | _ => none }
def StateRisesWrongFalsely : Prop := stateRisesRow.holds Try.pinned (OpenSpec.ofChange stateRisesWrong)

/-- 'annalistlaw11.StateEmpty': WHATEVER THE INPUT: true; the input reads as it did. -/
def stateEmptySpec : ChangeSpec := { name := "stateEmpty", fn := fun _ => fun
  | [d1, d2] => { results := [.lit (.bool true)], args := [d1, d2] }
  | _ => none }
def stateEmptyRow : OpenClaim := { program := "ytknjbkbbhgjnlaa", sum := "b43c47441ac7286619c9f694355a5cdaac2eb5eaace60473d70b00179e00032f", func := "annalist/annalistlaw11.StateEmpty", spec := "stateEmpty", inPlace := ["internal/abi.NoEscape", "internal/bytealg.MakeNoZero", "internal/bytealg.abigen_runtime_cmpstring"], unfollowed := true, recurses := true, apart := false }
def StateEmptySaid : Prop := stateEmptyRow.holds Try.pinned (OpenSpec.ofChange stateEmptySpec)

/-- ITS FALSE NEIGHBOUR: 'it returns false'. Refute it at one input. -/
def stateEmptyWrong : ChangeSpec := { name := "stateEmpty", fn := fun _ => fun
  | [d1, d2] => { results := [.lit (.bool false)], args := [d1, d2] }
  | _ => none }
def StateEmptyWrongFalsely : Prop := stateEmptyRow.holds Try.pinned (OpenSpec.ofChange stateEmptyWrong)

/-- 'annalistlaw11.StateViews': WHATEVER THE INPUT: true; the input reads as it did. -/
def stateViewsSpec : ChangeSpec := { name := "stateViews", fn := fun _ => fun
  | [d1, d2, d3] => { results := [.lit (.bool true)], args := [d1, d2, d3] }
  | _ => none }
def stateViewsRow : OpenClaim := { program := "ytknjbkbbhgjnlaa", sum := "b43c47441ac7286619c9f694355a5cdaac2eb5eaace60473d70b00179e00032f", func := "annalist/annalistlaw11.StateViews", spec := "stateViews", inPlace := ["internal/abi.NoEscape", "internal/bytealg.MakeNoZero", "internal/bytealg.abigen_runtime_cmpstring"], unfollowed := true, recurses := true, apart := false }
def StateViewsSaid : Prop := stateViewsRow.holds Try.pinned (OpenSpec.ofChange stateViewsSpec)

/-- ITS FALSE NEIGHBOUR: 'it returns false'. Refute it at one input. -/
def stateViewsWrong : ChangeSpec := { name := "stateViews", fn := fun _ => fun
  | [d1, d2, d3] => { results := [.lit (.bool false)], args := [d1, d2, d3] }
  | _ => none }
def StateViewsWrongFalsely : Prop := stateViewsRow.holds Try.pinned (OpenSpec.ofChange stateViewsWrong)

/-- 'annalistlaw15.BookSplits': WHATEVER THE INPUT: true; the input reads as it did. -/
def bookSplitsSpec : ChangeSpec := { name := "bookSplits", fn := fun _ => fun
  | [d1, d2] => { results := [.lit (.bool true)], args := [d1, d2] }
  | _ => none }
def bookSplitsRow : OpenClaim := { program := "ytknjbkbbhgjnlaa", sum := "b43c47441ac7286619c9f694355a5cdaac2eb5eaace60473d70b00179e00032f", func := "annalist/annalistlaw15.BookSplits", spec := "bookSplits", inPlace := ["internal/abi.NoEscape", "internal/bytealg.MakeNoZero", "slices.overlaps[annalist/api.Head]"], unfollowed := true, recurses := true, apart := false }
def BookSplitsSaid : Prop := bookSplitsRow.holds Try.pinned (OpenSpec.ofChange bookSplitsSpec)

/-- ITS FALSE NEIGHBOUR: 'it returns false'. Refute it at one input. -/
def bookSplitsWrong : ChangeSpec := { name := "bookSplits", fn := fun _ => fun
  | [d1, d2] => { results := [.lit (.bool false)], args := [d1, d2] }
  | _ => none }
def BookSplitsWrongFalsely : Prop := bookSplitsRow.holds Try.pinned (OpenSpec.ofChange bookSplitsWrong)

/- THE SECOND FORM. 'bulk': how many values and letters a reading holds, each counted each time it is reached (what is shared counts as often as it is met; a slice's spare places count too). A statement '..UptoSaid' is the law's where the arguments, and the package variables that the reading takes, are together of bulk at most 1048576: NARROWER than '..Said'. Prove '..Said' where nothing that the law and all that it calls make is longer than what came in: it says more and counts as full. Else prove '..UptoSaid'. A law counts once. -/
mutual
def uptoBulk {H : Type} : DataW H → Nat
  | .lit (.string bytes) => bytes.length + 1
  | .lit _ => 1
  | .nil => 1
  | .ptr d => uptoBulk d + 1
  | .slice elems spare => uptoBulkAll elems + uptoBulkAll spare + 1
  | .agg parts => uptoBulkAll parts + 1
  | .iface _ d => uptoBulk d + 1
  | .map entries => uptoBulkEntries entries + 1
  | .held _ => 1
def uptoBulkAll {H : Type} : List (DataW H) → Nat
  | [] => 0
  | d :: r => uptoBulk d + uptoBulkAll r
def uptoBulkEntries {H : Type} : List (Lit × DataW H) → Nat
  | [] => 0
  | x :: r => uptoBulkEntry x + uptoBulkEntries r
def uptoBulkEntry {H : Type} : Lit × DataW H → Nat
  | (.string bytes, d) => bytes.length + uptoBulk d + 1
  | (_, d) => uptoBulk d + 1
 end
def uptoSmall : (H : Type) → List (DataW H) → Bool := fun _ ds => decide (uptoBulkAll ds ≤ 1048576)
def OpenSpec.upto (s : _root_.Go.ChangeSpec) : _root_.Go.OpenSpec := { _root_.Go.OpenSpec.ofChange s with cond := some uptoSmall }

/-- 'annalistlaw05.SmtOrder', WHERE WHAT IT READS IS OF BULK AT MOST 1048576: true; the input reads as it did. -/
def smtOrderUptoRow : OpenClaim := { program := "ytknjbkbbhgjnlaa", sum := "b43c47441ac7286619c9f694355a5cdaac2eb5eaace60473d70b00179e00032f", func := "annalist/annalistlaw05.SmtOrder", spec := "smtOrder", inPlace := ["internal/abi.NoEscape", "internal/bytealg.MakeNoZero", "internal/bytealg.abigen_runtime_cmpstring"], unfollowed := true, recurses := true, apart := false, narrowed := true }
def SmtOrderUptoSaid : Prop := smtOrderUptoRow.holds Try.pinned (OpenSpec.upto smtOrderSpec)

/-- 'annalistlaw05.SmtVerifies', WHERE WHAT IT READS IS OF BULK AT MOST 1048576: true; the input reads as it did. -/
def smtVerifiesUptoRow : OpenClaim := { program := "ytknjbkbbhgjnlaa", sum := "b43c47441ac7286619c9f694355a5cdaac2eb5eaace60473d70b00179e00032f", func := "annalist/annalistlaw05.SmtVerifies", spec := "smtVerifies", inPlace := ["internal/abi.NoEscape", "internal/bytealg.MakeNoZero", "internal/bytealg.abigen_runtime_cmpstring"], unfollowed := true, recurses := true, apart := false, narrowed := true }
def SmtVerifiesUptoSaid : Prop := smtVerifiesUptoRow.holds Try.pinned (OpenSpec.upto smtVerifiesSpec)

/-- 'annalistlaw05.SmtEach', WHERE WHAT IT READS IS OF BULK AT MOST 1048576: true; the input reads as it did. -/
def smtEachUptoRow : OpenClaim := { program := "ytknjbkbbhgjnlaa", sum := "b43c47441ac7286619c9f694355a5cdaac2eb5eaace60473d70b00179e00032f", func := "annalist/annalistlaw05.SmtEach", spec := "smtEach", inPlace := ["internal/abi.NoEscape", "internal/bytealg.MakeNoZero", "internal/bytealg.abigen_runtime_cmpstring"], unfollowed := true, recurses := true, apart := false, narrowed := true }
def SmtEachUptoSaid : Prop := smtEachUptoRow.holds Try.pinned (OpenSpec.upto smtEachSpec)

/-- 'annalistlaw05.SmtProves', WHERE WHAT IT READS IS OF BULK AT MOST 1048576: true; the input reads as it did. -/
def smtProvesUptoRow : OpenClaim := { program := "ytknjbkbbhgjnlaa", sum := "b43c47441ac7286619c9f694355a5cdaac2eb5eaace60473d70b00179e00032f", func := "annalist/annalistlaw05.SmtProves", spec := "smtProves", inPlace := ["internal/abi.NoEscape", "internal/bytealg.MakeNoZero", "internal/bytealg.abigen_runtime_cmpstring"], unfollowed := true, recurses := true, apart := false, narrowed := true }
def SmtProvesUptoSaid : Prop := smtProvesUptoRow.holds Try.pinned (OpenSpec.upto smtProvesSpec)

/-- 'annalistlaw09.ClashTrue', WHERE WHAT IT READS IS OF BULK AT MOST 1048576: true; the input reads as it did. -/
def clashTrueUptoRow : OpenClaim := { program := "ytknjbkbbhgjnlaa", sum := "b43c47441ac7286619c9f694355a5cdaac2eb5eaace60473d70b00179e00032f", func := "annalist/annalistlaw09.ClashTrue", spec := "clashTrue", inPlace := ["internal/abi.NoEscape", "internal/bytealg.MakeNoZero", "internal/bytealg.abigen_runtime_cmpstring"], unfollowed := true, recurses := true, apart := false, narrowed := true }
def ClashTrueUptoSaid : Prop := clashTrueUptoRow.holds Try.pinned (OpenSpec.upto clashTrueSpec)

/-- 'annalistlaw11.StateApart', WHERE WHAT IT READS IS OF BULK AT MOST 1048576: true; the input reads as it did. -/
def stateApartUptoRow : OpenClaim := { program := "ytknjbkbbhgjnlaa", sum := "b43c47441ac7286619c9f694355a5cdaac2eb5eaace60473d70b00179e00032f", func := "annalist/annalistlaw11.StateApart", spec := "stateApart", inPlace := ["internal/abi.NoEscape", "internal/bytealg.MakeNoZero", "internal/bytealg.abigen_runtime_cmpstring"], unfollowed := true, recurses := true, apart := false, narrowed := true }
def StateApartUptoSaid : Prop := stateApartUptoRow.holds Try.pinned (OpenSpec.upto stateApartSpec)

/-- 'annalistlaw11.StatePlays', WHERE WHAT IT READS IS OF BULK AT MOST 1048576: true; the input reads as it did. -/
def statePlaysUptoRow : OpenClaim := { program := "ytknjbkbbhgjnlaa", sum := "b43c47441ac7286619c9f694355a5cdaac2eb5eaace60473d70b00179e00032f", func := "annalist/annalistlaw11.StatePlays", spec := "statePlays", inPlace := ["internal/abi.NoEscape", "internal/bytealg.MakeNoZero", "internal/bytealg.abigen_runtime_cmpstring"], unfollowed := true, recurses := true, apart := false, narrowed := true }
def StatePlaysUptoSaid : Prop := statePlaysUptoRow.holds Try.pinned (OpenSpec.upto statePlaysSpec)

/-- 'annalistlaw11.StateOnce', WHERE WHAT IT READS IS OF BULK AT MOST 1048576: true; the input reads as it did. -/
def stateOnceUptoRow : OpenClaim := { program := "ytknjbkbbhgjnlaa", sum := "b43c47441ac7286619c9f694355a5cdaac2eb5eaace60473d70b00179e00032f", func := "annalist/annalistlaw11.StateOnce", spec := "stateOnce", inPlace := ["internal/abi.NoEscape", "internal/bytealg.MakeNoZero", "internal/bytealg.abigen_runtime_cmpstring"], unfollowed := true, recurses := true, apart := false, narrowed := true }
def StateOnceUptoSaid : Prop := stateOnceUptoRow.holds Try.pinned (OpenSpec.upto stateOnceSpec)

/-- 'annalistlaw11.StateRises', WHERE WHAT IT READS IS OF BULK AT MOST 1048576: true; the input reads as it did. -/
def stateRisesUptoRow : OpenClaim := { program := "ytknjbkbbhgjnlaa", sum := "b43c47441ac7286619c9f694355a5cdaac2eb5eaace60473d70b00179e00032f", func := "annalist/annalistlaw11.StateRises", spec := "stateRises", inPlace := ["internal/abi.NoEscape", "internal/bytealg.MakeNoZero", "internal/bytealg.abigen_runtime_cmpstring"], unfollowed := true, recurses := true, apart := false, narrowed := true }
def StateRisesUptoSaid : Prop := stateRisesUptoRow.holds Try.pinned (OpenSpec.upto stateRisesSpec)

/-- 'annalistlaw11.StateEmpty', WHERE WHAT IT READS IS OF BULK AT MOST 1048576: true; the input reads as it did. -/
def stateEmptyUptoRow : OpenClaim := { program := "ytknjbkbbhgjnlaa", sum := "b43c47441ac7286619c9f694355a5cdaac2eb5eaace60473d70b00179e00032f", func := "annalist/annalistlaw11.StateEmpty", spec := "stateEmpty", inPlace := ["internal/abi.NoEscape", "internal/bytealg.MakeNoZero", "internal/bytealg.abigen_runtime_cmpstring"], unfollowed := true, recurses := true, apart := false, narrowed := true }
def StateEmptyUptoSaid : Prop := stateEmptyUptoRow.holds Try.pinned (OpenSpec.upto stateEmptySpec)

/-- 'annalistlaw11.StateViews', WHERE WHAT IT READS IS OF BULK AT MOST 1048576: true; the input reads as it did. -/
def stateViewsUptoRow : OpenClaim := { program := "ytknjbkbbhgjnlaa", sum := "b43c47441ac7286619c9f694355a5cdaac2eb5eaace60473d70b00179e00032f", func := "annalist/annalistlaw11.StateViews", spec := "stateViews", inPlace := ["internal/abi.NoEscape", "internal/bytealg.MakeNoZero", "internal/bytealg.abigen_runtime_cmpstring"], unfollowed := true, recurses := true, apart := false, narrowed := true }
def StateViewsUptoSaid : Prop := stateViewsUptoRow.holds Try.pinned (OpenSpec.upto stateViewsSpec)

/-- 'annalistlaw15.BookSplits', WHERE WHAT IT READS IS OF BULK AT MOST 1048576: true; the input reads as it did. -/
def bookSplitsUptoRow : OpenClaim := { program := "ytknjbkbbhgjnlaa", sum := "b43c47441ac7286619c9f694355a5cdaac2eb5eaace60473d70b00179e00032f", func := "annalist/annalistlaw15.BookSplits", spec := "bookSplits", inPlace := ["internal/abi.NoEscape", "internal/bytealg.MakeNoZero", "slices.overlaps[annalist/api.Head]"], unfollowed := true, recurses := true, apart := false, narrowed := true }
def BookSplitsUptoSaid : Prop := bookSplitsUptoRow.holds Try.pinned (OpenSpec.upto bookSplitsSpec)

end Rows
end Go.Proofs.Ytknjbkbbhgjnlaa
