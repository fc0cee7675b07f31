/-
  No cell of these rows narrows 'for every input' (looked for: loops, veiled, ifaces, maps, wideKeys, modest, calm, conditions, laid).
  DERIVED. THE GIVEN ROWS OF THIS SEAT. 12 by the template 'for every input the law returns true; each argument reads behind the call as it read before'; 0 by the template 'total and deterministic' (their statements: YtdohmkanpdhmaaaTotals.lean).
  GIVEN WITH THE SEED: the statements are not yours to turn. If you find one false, say at which input.
  Laid BY PROGRAM, IN A SANDBOX (cutbox-rows.mjs): the forced cells as the released guide's own fill.sh prints them over the translation b80b24082dabcdd0… (all of the seat's roots in one cut). By AI agents, Wed Nov 11 2026. No macro, syntax, notation, axiom, sorry.
-/
import Derived.Test.YtdohmkanpdhmaaaChecked
import GoSem.Claim
import GoSem.ClaimJoined
import GoSem.ClaimMapViews
import Derived.JoinedTies
import Derived.KernelRfl
namespace Go.Proofs.Ytdohmkanpdhmaaa
/- THE CELL 'sum', in the pinned program and in every row, IS THE sha256 OF THE DUMP (.gsa) THAT YtdohmkanpdhmaaaProg.lean LOADS. Nothing in Lean hashes anything: it is a label: what it is worth is what the hold of that sum in a sandbox is worth. -/
noncomputable def Try.pinned : Pinned := { name := "ytdohmkanpdhmaaa", sum := "b80b24082dabcdd0ee9ad9a861f372ff7ab8e18dc9360b8e65fcee32fa9524f7", checked := Try.checked }
namespace Rows
def none {H : Type} : Left H := { results := [], args := [] }

/-- 'annalistlaw17.SlotTwice': WHATEVER THE INPUT: true; the input reads as it did. -/
def slotTwiceSpec : ChangeSpec := { name := "slotTwice", fn := fun _ => fun
  | [d1, d2, d3] => { results := [.lit (.bool true)], args := [d1, d2, d3] }
  | _ => none }
def slotTwiceRow : OpenClaim := { program := "ytdohmkanpdhmaaa", sum := "b80b24082dabcdd0ee9ad9a861f372ff7ab8e18dc9360b8e65fcee32fa9524f7", func := "annalist/annalistlaw17.SlotTwice", spec := "slotTwice", apart := false }
def SlotTwiceSaid : Prop := slotTwiceRow.holds Try.pinned (OpenSpec.ofChange slotTwiceSpec)

/-- ITS FALSE NEIGHBOUR: 'it returns false'. Refute it at one input. -/
def slotTwiceWrong : ChangeSpec := { name := "slotTwice", fn := fun _ => fun
  | [d1, d2, d3] => { results := [.lit (.bool false)], args := [d1, d2, d3] }
  | _ => none }
def SlotTwiceWrongFalsely : Prop := slotTwiceRow.holds Try.pinned (OpenSpec.ofChange slotTwiceWrong)

/-- 'annalistlaw17.SlotPlays': WHATEVER THE INPUT: true; the input reads as it did. -/
def slotPlaysSpec : ChangeSpec := { name := "slotPlays", fn := fun _ => fun
  | [d] => { results := [.lit (.bool true)], args := [d] }
  | _ => none }
def slotPlaysRow : OpenClaim := { program := "ytdohmkanpdhmaaa", sum := "b80b24082dabcdd0ee9ad9a861f372ff7ab8e18dc9360b8e65fcee32fa9524f7", func := "annalist/annalistlaw17.SlotPlays", spec := "slotPlays", apart := false }
def SlotPlaysSaid : Prop := slotPlaysRow.holds Try.pinned (OpenSpec.ofChange slotPlaysSpec)

/-- ITS FALSE NEIGHBOUR: 'it returns false'. Refute it at one input. -/
def slotPlaysWrong : ChangeSpec := { name := "slotPlays", fn := fun _ => fun
  | [d] => { results := [.lit (.bool false)], args := [d] }
  | _ => none }
def SlotPlaysWrongFalsely : Prop := slotPlaysRow.holds Try.pinned (OpenSpec.ofChange slotPlaysWrong)

/-- 'annalistlaw17.SlotRises': WHATEVER THE INPUT: true; the input reads as it did. -/
def slotRisesSpec : ChangeSpec := { name := "slotRises", fn := fun _ => fun
  | [d1, d2] => { results := [.lit (.bool true)], args := [d1, d2] }
  | _ => none }
def slotRisesRow : OpenClaim := { program := "ytdohmkanpdhmaaa", sum := "b80b24082dabcdd0ee9ad9a861f372ff7ab8e18dc9360b8e65fcee32fa9524f7", func := "annalist/annalistlaw17.SlotRises", spec := "slotRises", apart := false }
def SlotRisesSaid : Prop := slotRisesRow.holds Try.pinned (OpenSpec.ofChange slotRisesSpec)

/-- ITS FALSE NEIGHBOUR: 'it returns false'. Refute it at one input. -/
def slotRisesWrong : ChangeSpec := { name := "slotRises", fn := fun _ => fun
  | [d1, d2] => { results := [.lit (.bool false)], args := [d1, d2] }
  | _ => none }
def SlotRisesWrongFalsely : Prop := slotRisesRow.holds Try.pinned (OpenSpec.ofChange slotRisesWrong)

/-- 'annalistlaw11.StateQuota': WHATEVER THE INPUT: true; the input reads as it did. -/
def stateQuotaSpec : ChangeSpec := { name := "stateQuota", fn := fun _ => fun
  | [d] => { results := [.lit (.bool true)], args := [d] }
  | _ => none }
def stateQuotaRow : OpenClaim := { program := "ytdohmkanpdhmaaa", sum := "b80b24082dabcdd0ee9ad9a861f372ff7ab8e18dc9360b8e65fcee32fa9524f7", func := "annalist/annalistlaw11.StateQuota", spec := "stateQuota", apart := false }
def StateQuotaSaid : Prop := stateQuotaRow.holds Try.pinned (OpenSpec.ofChange stateQuotaSpec)

/-- ITS FALSE NEIGHBOUR: 'it returns false'. Refute it at one input. -/
def stateQuotaWrong : ChangeSpec := { name := "stateQuota", fn := fun _ => fun
  | [d] => { results := [.lit (.bool false)], args := [d] }
  | _ => none }
def StateQuotaWrongFalsely : Prop := stateQuotaRow.holds Try.pinned (OpenSpec.ofChange stateQuotaWrong)

/-- 'annalistlaw02.WireNumbers': WHATEVER THE INPUT: true; the input reads as it did. -/
def wireNumbersSpec : ChangeSpec := { name := "wireNumbers", fn := fun _ => fun
  | [d1, d2] => { results := [.lit (.bool true)], args := [d1, d2] }
  | _ => none }
def wireNumbersRow : OpenClaim := { program := "ytdohmkanpdhmaaa", sum := "b80b24082dabcdd0ee9ad9a861f372ff7ab8e18dc9360b8e65fcee32fa9524f7", func := "annalist/annalistlaw02.WireNumbers", spec := "wireNumbers", inPlace := ["internal/abi.NoEscape"], apart := false }
def WireNumbersSaid : Prop := wireNumbersRow.holds Try.pinned (OpenSpec.ofChange wireNumbersSpec)

/-- ITS FALSE NEIGHBOUR: 'it returns false'. Refute it at one input. -/
def wireNumbersWrong : ChangeSpec := { name := "wireNumbers", fn := fun _ => fun
  | [d1, d2] => { results := [.lit (.bool false)], args := [d1, d2] }
  | _ => none }
def WireNumbersWrongFalsely : Prop := wireNumbersRow.holds Try.pinned (OpenSpec.ofChange wireNumbersWrong)

/-- 'annalistlaw02.WireApart': WHATEVER THE INPUT: true; the input reads as it did. -/
def wireApartSpec : ChangeSpec := { name := "wireApart", fn := fun _ => fun
  | [d1, d2] => { results := [.lit (.bool true)], args := [d1, d2] }
  | _ => none }
def wireApartRow : OpenClaim := { program := "ytdohmkanpdhmaaa", sum := "b80b24082dabcdd0ee9ad9a861f372ff7ab8e18dc9360b8e65fcee32fa9524f7", func := "annalist/annalistlaw02.WireApart", spec := "wireApart", inPlace := ["internal/abi.NoEscape"], apart := false }
def WireApartSaid : Prop := wireApartRow.holds Try.pinned (OpenSpec.ofChange wireApartSpec)

/-- ITS FALSE NEIGHBOUR: 'it returns false'. Refute it at one input. -/
def wireApartWrong : ChangeSpec := { name := "wireApart", fn := fun _ => fun
  | [d1, d2] => { results := [.lit (.bool false)], args := [d1, d2] }
  | _ => none }
def WireApartWrongFalsely : Prop := wireApartRow.holds Try.pinned (OpenSpec.ofChange wireApartWrong)

/-- 'annalistlaw02.WireHeads': WHATEVER THE INPUT: true; the input reads as it did. -/
def wireHeadsSpec : ChangeSpec := { name := "wireHeads", fn := fun _ => fun
  | [d] => { results := [.lit (.bool true)], args := [d] }
  | _ => none }
def wireHeadsRow : OpenClaim := { program := "ytdohmkanpdhmaaa", sum := "b80b24082dabcdd0ee9ad9a861f372ff7ab8e18dc9360b8e65fcee32fa9524f7", func := "annalist/annalistlaw02.WireHeads", spec := "wireHeads", inPlace := ["internal/abi.NoEscape"], apart := false }
def WireHeadsSaid : Prop := wireHeadsRow.holds Try.pinned (OpenSpec.ofChange wireHeadsSpec)

/-- ITS FALSE NEIGHBOUR: 'it returns false'. Refute it at one input. -/
def wireHeadsWrong : ChangeSpec := { name := "wireHeads", fn := fun _ => fun
  | [d] => { results := [.lit (.bool false)], args := [d] }
  | _ => none }
def WireHeadsWrongFalsely : Prop := wireHeadsRow.holds Try.pinned (OpenSpec.ofChange wireHeadsWrong)

/-- 'annalistlaw17.SlotReads': WHATEVER THE INPUT: true; the input reads as it did. -/
def slotReadsSpec : ChangeSpec := { name := "slotReads", fn := fun _ => fun
  | [d] => { results := [.lit (.bool true)], args := [d] }
  | _ => none }
def slotReadsRow : OpenClaim := { program := "ytdohmkanpdhmaaa", sum := "b80b24082dabcdd0ee9ad9a861f372ff7ab8e18dc9360b8e65fcee32fa9524f7", func := "annalist/annalistlaw17.SlotReads", spec := "slotReads", apart := false }
def SlotReadsSaid : Prop := slotReadsRow.holds Try.pinned (OpenSpec.ofChange slotReadsSpec)

/-- ITS FALSE NEIGHBOUR: 'it returns false'. Refute it at one input. -/
def slotReadsWrong : ChangeSpec := { name := "slotReads", fn := fun _ => fun
  | [d] => { results := [.lit (.bool false)], args := [d] }
  | _ => none }
def SlotReadsWrongFalsely : Prop := slotReadsRow.holds Try.pinned (OpenSpec.ofChange slotReadsWrong)

/-- 'annalistlaw02.WireLists': WHATEVER THE INPUT: true; the input reads as it did. -/
def wireListsSpec : ChangeSpec := { name := "wireLists", fn := fun _ => fun
  | [d1, d2] => { results := [.lit (.bool true)], args := [d1, d2] }
  | _ => none }
def wireListsRow : OpenClaim := { program := "ytdohmkanpdhmaaa", sum := "b80b24082dabcdd0ee9ad9a861f372ff7ab8e18dc9360b8e65fcee32fa9524f7", func := "annalist/annalistlaw02.WireLists", spec := "wireLists", inPlace := ["internal/abi.NoEscape"], apart := false }
def WireListsSaid : Prop := wireListsRow.holds Try.pinned (OpenSpec.ofChange wireListsSpec)

/-- ITS FALSE NEIGHBOUR: 'it returns false'. Refute it at one input. -/
def wireListsWrong : ChangeSpec := { name := "wireLists", fn := fun _ => fun
  | [d1, d2] => { results := [.lit (.bool false)], args := [d1, d2] }
  | _ => none }
def WireListsWrongFalsely : Prop := wireListsRow.holds Try.pinned (OpenSpec.ofChange wireListsWrong)

/-- 'annalistlaw02.WireRequests': WHATEVER THE INPUT: true; the input reads as it did. -/
def wireRequestsSpec : ChangeSpec := { name := "wireRequests", fn := fun _ => fun
  | [d] => { results := [.lit (.bool true)], args := [d] }
  | _ => none }
def wireRequestsRow : OpenClaim := { program := "ytdohmkanpdhmaaa", sum := "b80b24082dabcdd0ee9ad9a861f372ff7ab8e18dc9360b8e65fcee32fa9524f7", func := "annalist/annalistlaw02.WireRequests", spec := "wireRequests", inPlace := ["internal/abi.NoEscape"], apart := false }
def WireRequestsSaid : Prop := wireRequestsRow.holds Try.pinned (OpenSpec.ofChange wireRequestsSpec)

/-- ITS FALSE NEIGHBOUR: 'it returns false'. Refute it at one input. -/
def wireRequestsWrong : ChangeSpec := { name := "wireRequests", fn := fun _ => fun
  | [d] => { results := [.lit (.bool false)], args := [d] }
  | _ => none }
def WireRequestsWrongFalsely : Prop := wireRequestsRow.holds Try.pinned (OpenSpec.ofChange wireRequestsWrong)

/-- 'annalistlaw02.WireReads': WHATEVER THE INPUT: true; the input reads as it did. -/
def wireReadsSpec : ChangeSpec := { name := "wireReads", fn := fun _ => fun
  | [d] => { results := [.lit (.bool true)], args := [d] }
  | _ => none }
def wireReadsRow : OpenClaim := { program := "ytdohmkanpdhmaaa", sum := "b80b24082dabcdd0ee9ad9a861f372ff7ab8e18dc9360b8e65fcee32fa9524f7", func := "annalist/annalistlaw02.WireReads", spec := "wireReads", inPlace := ["internal/abi.NoEscape"], apart := false }
def WireReadsSaid : Prop := wireReadsRow.holds Try.pinned (OpenSpec.ofChange wireReadsSpec)

/-- ITS FALSE NEIGHBOUR: 'it returns false'. Refute it at one input. -/
def wireReadsWrong : ChangeSpec := { name := "wireReads", fn := fun _ => fun
  | [d] => { results := [.lit (.bool false)], args := [d] }
  | _ => none }
def WireReadsWrongFalsely : Prop := wireReadsRow.holds Try.pinned (OpenSpec.ofChange wireReadsWrong)

/-- 'annalistlaw17.SlotBytes': WHATEVER THE INPUT: true; the input reads as it did. -/
def slotBytesSpec : ChangeSpec := { name := "slotBytes", fn := fun _ => fun
  | [d] => { results := [.lit (.bool true)], args := [d] }
  | _ => none }
def slotBytesRow : OpenClaim := { program := "ytdohmkanpdhmaaa", sum := "b80b24082dabcdd0ee9ad9a861f372ff7ab8e18dc9360b8e65fcee32fa9524f7", func := "annalist/annalistlaw17.SlotBytes", spec := "slotBytes", inPlace := ["internal/abi.NoEscape"], apart := false }
def SlotBytesSaid : Prop := slotBytesRow.holds Try.pinned (OpenSpec.ofChange slotBytesSpec)

/-- ITS FALSE NEIGHBOUR: 'it returns false'. Refute it at one input. -/
def slotBytesWrong : ChangeSpec := { name := "slotBytes", fn := fun _ => fun
  | [d] => { results := [.lit (.bool false)], args := [d] }
  | _ => none }
def SlotBytesWrongFalsely : Prop := slotBytesRow.holds Try.pinned (OpenSpec.ofChange slotBytesWrong)

/- THE SECOND FORM. 'bulk': how many values and letters a reading holds, each counted each time it is reached (what is shared counts as often as it is met; a slice's spare places count too). A statement '..UptoSaid' is the law's where the arguments, and the package variables that the reading takes, are together of bulk at most 1048576: NARROWER than '..Said'. Prove '..Said' where nothing that the law and all that it calls make is longer than what came in: it says more and counts as full. Else prove '..UptoSaid'. A law counts once. -/
mutual
def uptoBulk {H : Type} : DataW H → Nat
  | .lit (.string bytes) => bytes.length + 1
  | .lit _ => 1
  | .nil => 1
  | .ptr d => uptoBulk d + 1
  | .slice elems spare => uptoBulkAll elems + uptoBulkAll spare + 1
  | .agg parts => uptoBulkAll parts + 1
  | .iface _ d => uptoBulk d + 1
  | .map entries => uptoBulkEntries entries + 1
  | .held _ => 1
def uptoBulkAll {H : Type} : List (DataW H) → Nat
  | [] => 0
  | d :: r => uptoBulk d + uptoBulkAll r
def uptoBulkEntries {H : Type} : List (Lit × DataW H) → Nat
  | [] => 0
  | x :: r => uptoBulkEntry x + uptoBulkEntries r
def uptoBulkEntry {H : Type} : Lit × DataW H → Nat
  | (.string bytes, d) => bytes.length + uptoBulk d + 1
  | (_, d) => uptoBulk d + 1
 end
def uptoSmall : (H : Type) → List (DataW H) → Bool := fun _ ds => decide (uptoBulkAll ds ≤ 1048576)
def OpenSpec.upto (s : _root_.Go.ChangeSpec) : _root_.Go.OpenSpec := { _root_.Go.OpenSpec.ofChange s with cond := some uptoSmall }

/-- 'annalistlaw17.SlotTwice', WHERE WHAT IT READS IS OF BULK AT MOST 1048576: true; the input reads as it did. -/
def slotTwiceUptoRow : OpenClaim := { program := "ytdohmkanpdhmaaa", sum := "b80b24082dabcdd0ee9ad9a861f372ff7ab8e18dc9360b8e65fcee32fa9524f7", func := "annalist/annalistlaw17.SlotTwice", spec := "slotTwice", apart := false, narrowed := true }
def SlotTwiceUptoSaid : Prop := slotTwiceUptoRow.holds Try.pinned (OpenSpec.upto slotTwiceSpec)

/-- 'annalistlaw17.SlotPlays', WHERE WHAT IT READS IS OF BULK AT MOST 1048576: true; the input reads as it did. -/
def slotPlaysUptoRow : OpenClaim := { program := "ytdohmkanpdhmaaa", sum := "b80b24082dabcdd0ee9ad9a861f372ff7ab8e18dc9360b8e65fcee32fa9524f7", func := "annalist/annalistlaw17.SlotPlays", spec := "slotPlays", apart := false, narrowed := true }
def SlotPlaysUptoSaid : Prop := slotPlaysUptoRow.holds Try.pinned (OpenSpec.upto slotPlaysSpec)

/-- 'annalistlaw17.SlotRises', WHERE WHAT IT READS IS OF BULK AT MOST 1048576: true; the input reads as it did. -/
def slotRisesUptoRow : OpenClaim := { program := "ytdohmkanpdhmaaa", sum := "b80b24082dabcdd0ee9ad9a861f372ff7ab8e18dc9360b8e65fcee32fa9524f7", func := "annalist/annalistlaw17.SlotRises", spec := "slotRises", apart := false, narrowed := true }
def SlotRisesUptoSaid : Prop := slotRisesUptoRow.holds Try.pinned (OpenSpec.upto slotRisesSpec)

/-- 'annalistlaw11.StateQuota', WHERE WHAT IT READS IS OF BULK AT MOST 1048576: true; the input reads as it did. -/
def stateQuotaUptoRow : OpenClaim := { program := "ytdohmkanpdhmaaa", sum := "b80b24082dabcdd0ee9ad9a861f372ff7ab8e18dc9360b8e65fcee32fa9524f7", func := "annalist/annalistlaw11.StateQuota", spec := "stateQuota", apart := false, narrowed := true }
def StateQuotaUptoSaid : Prop := stateQuotaUptoRow.holds Try.pinned (OpenSpec.upto stateQuotaSpec)

/-- 'annalistlaw02.WireNumbers', WHERE WHAT IT READS IS OF BULK AT MOST 1048576: true; the input reads as it did. -/
def wireNumbersUptoRow : OpenClaim := { program := "ytdohmkanpdhmaaa", sum := "b80b24082dabcdd0ee9ad9a861f372ff7ab8e18dc9360b8e65fcee32fa9524f7", func := "annalist/annalistlaw02.WireNumbers", spec := "wireNumbers", inPlace := ["internal/abi.NoEscape"], apart := false, narrowed := true }
def WireNumbersUptoSaid : Prop := wireNumbersUptoRow.holds Try.pinned (OpenSpec.upto wireNumbersSpec)

/-- 'annalistlaw02.WireApart', WHERE WHAT IT READS IS OF BULK AT MOST 1048576: true; the input reads as it did. -/
def wireApartUptoRow : OpenClaim := { program := "ytdohmkanpdhmaaa", sum := "b80b24082dabcdd0ee9ad9a861f372ff7ab8e18dc9360b8e65fcee32fa9524f7", func := "annalist/annalistlaw02.WireApart", spec := "wireApart", inPlace := ["internal/abi.NoEscape"], apart := false, narrowed := true }
def WireApartUptoSaid : Prop := wireApartUptoRow.holds Try.pinned (OpenSpec.upto wireApartSpec)

/-- 'annalistlaw02.WireHeads', WHERE WHAT IT READS IS OF BULK AT MOST 1048576: true; the input reads as it did. -/
def wireHeadsUptoRow : OpenClaim := { program := "ytdohmkanpdhmaaa", sum := "b80b24082dabcdd0ee9ad9a861f372ff7ab8e18dc9360b8e65fcee32fa9524f7", func := "annalist/annalistlaw02.WireHeads", spec := "wireHeads", inPlace := ["internal/abi.NoEscape"], apart := false, narrowed := true }
def WireHeadsUptoSaid : Prop := wireHeadsUptoRow.holds Try.pinned (OpenSpec.upto wireHeadsSpec)

/-- 'annalistlaw17.SlotReads', WHERE WHAT IT READS IS OF BULK AT MOST 1048576: true; the input reads as it did. -/
def slotReadsUptoRow : OpenClaim := { program := "ytdohmkanpdhmaaa", sum := "b80b24082dabcdd0ee9ad9a861f372ff7ab8e18dc9360b8e65fcee32fa9524f7", func := "annalist/annalistlaw17.SlotReads", spec := "slotReads", apart := false, narrowed := true }
def SlotReadsUptoSaid : Prop := slotReadsUptoRow.holds Try.pinned (OpenSpec.upto slotReadsSpec)

/-- 'annalistlaw02.WireLists', WHERE WHAT IT READS IS OF BULK AT MOST 1048576: true; the input reads as it did. -/
def wireListsUptoRow : OpenClaim := { program := "ytdohmkanpdhmaaa", sum := "b80b24082dabcdd0ee9ad9a861f372ff7ab8e18dc9360b8e65fcee32fa9524f7", func := "annalist/annalistlaw02.WireLists", spec := "wireLists", inPlace := ["internal/abi.NoEscape"], apart := false, narrowed := true }
def WireListsUptoSaid : Prop := wireListsUptoRow.holds Try.pinned (OpenSpec.upto wireListsSpec)

/-- 'annalistlaw02.WireRequests', WHERE WHAT IT READS IS OF BULK AT MOST 1048576: true; the input reads as it did. -/
def wireRequestsUptoRow : OpenClaim := { program := "ytdohmkanpdhmaaa", sum := "b80b24082dabcdd0ee9ad9a861f372ff7ab8e18dc9360b8e65fcee32fa9524f7", func := "annalist/annalistlaw02.WireRequests", spec := "wireRequests", inPlace := ["internal/abi.NoEscape"], apart := false, narrowed := true }
def WireRequestsUptoSaid : Prop := wireRequestsUptoRow.holds Try.pinned (OpenSpec.upto wireRequestsSpec)

/-- 'annalistlaw02.WireReads', WHERE WHAT IT READS IS OF BULK AT MOST 1048576: true; the input reads as it did. -/
def wireReadsUptoRow : OpenClaim := { program := "ytdohmkanpdhmaaa", sum := "b80b24082dabcdd0ee9ad9a861f372ff7ab8e18dc9360b8e65fcee32fa9524f7", func := "annalist/annalistlaw02.WireReads", spec := "wireReads", inPlace := ["internal/abi.NoEscape"], apart := false, narrowed := true }
def WireReadsUptoSaid : Prop := wireReadsUptoRow.holds Try.pinned (OpenSpec.upto wireReadsSpec)

/-- 'annalistlaw17.SlotBytes', WHERE WHAT IT READS IS OF BULK AT MOST 1048576: true; the input reads as it did. -/
def slotBytesUptoRow : OpenClaim := { program := "ytdohmkanpdhmaaa", sum := "b80b24082dabcdd0ee9ad9a861f372ff7ab8e18dc9360b8e65fcee32fa9524f7", func := "annalist/annalistlaw17.SlotBytes", spec := "slotBytes", inPlace := ["internal/abi.NoEscape"], apart := false, narrowed := true }
def SlotBytesUptoSaid : Prop := slotBytesUptoRow.holds Try.pinned (OpenSpec.upto slotBytesSpec)

end Rows
end Go.Proofs.Ytdohmkanpdhmaaa
