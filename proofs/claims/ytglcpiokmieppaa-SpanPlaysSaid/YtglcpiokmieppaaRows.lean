/-
  No cell of these rows narrows 'for every input' (looked for: loops, veiled, ifaces, maps, wideKeys, modest, calm, conditions, laid).
  DERIVED. THE GIVEN ROWS OF THIS SEAT. 5 by the template 'for every input the law returns true; each argument reads behind the call as it read before'; 0 by the template 'total and deterministic' (their statements: YtglcpiokmieppaaTotals.lean).
  GIVEN WITH THE SEED: the statements are not yours to turn. If you find one false, say at which input.
  Laid BY PROGRAM, IN A SANDBOX (cutbox-rows.mjs): the forced cells as the released guide's own fill.sh prints them over the translation b075d2f054d8b29a… (all of the seat's roots in one cut). By AI agents, Wed Nov 11 2026. No macro, syntax, notation, axiom, sorry.
-/
import Derived.Test.YtglcpiokmieppaaChecked
import GoSem.Claim
import GoSem.ClaimJoined
import GoSem.ClaimMapViews
import Derived.JoinedTies
import Derived.KernelRfl
namespace Go.Proofs.Ytglcpiokmieppaa
/- THE CELL 'sum', in the pinned program and in every row, IS THE sha256 OF THE DUMP (.gsa) THAT YtglcpiokmieppaaProg.lean LOADS. Nothing in Lean hashes anything: it is a label: what it is worth is what the hold of that sum in a sandbox is worth. -/
noncomputable def Try.pinned : Pinned := { name := "ytglcpiokmieppaa", sum := "b075d2f054d8b29ad17a22baadb008e979c896184cec2c4ad9d1c5da33580cad", checked := Try.checked }
namespace Rows
def none {H : Type} : Left H := { results := [], args := [] }

/-- 'gussetlaw08.SpanPlays': WHATEVER THE INPUT: true; the input reads as it did. -/
def spanPlaysSpec : ChangeSpec := { name := "spanPlays", fn := fun _ => fun
  | [d1, d2] => { results := [.lit (.bool true)], args := [d1, d2] }
  | _ => none }
def spanPlaysRow : OpenClaim := { program := "ytglcpiokmieppaa", sum := "b075d2f054d8b29ad17a22baadb008e979c896184cec2c4ad9d1c5da33580cad", func := "gusset/gussetlaw08.SpanPlays", spec := "spanPlays", inPlace := ["slices.overlaps[gusset/span.Span]"], unfollowed := true, recurses := true, apart := false }
def SpanPlaysSaid : Prop := spanPlaysRow.holds Try.pinned (OpenSpec.ofChange spanPlaysSpec)

/-- ITS FALSE NEIGHBOUR: 'it returns false'. Refute it at one input. -/
def spanPlaysWrong : ChangeSpec := { name := "spanPlays", fn := fun _ => fun
  | [d1, d2] => { results := [.lit (.bool false)], args := [d1, d2] }
  | _ => none }
def SpanPlaysWrongFalsely : Prop := spanPlaysRow.holds Try.pinned (OpenSpec.ofChange spanPlaysWrong)

/-- 'gussetlaw08.SpanFew': WHATEVER THE INPUT: true; the input reads as it did. -/
def spanFewSpec : ChangeSpec := { name := "spanFew", fn := fun _ => fun
  | [d1, d2] => { results := [.lit (.bool true)], args := [d1, d2] }
  | _ => none }
def spanFewRow : OpenClaim := { program := "ytglcpiokmieppaa", sum := "b075d2f054d8b29ad17a22baadb008e979c896184cec2c4ad9d1c5da33580cad", func := "gusset/gussetlaw08.SpanFew", spec := "spanFew", inPlace := ["slices.overlaps[gusset/span.Span]"], unfollowed := true, recurses := true, apart := false }
def SpanFewSaid : Prop := spanFewRow.holds Try.pinned (OpenSpec.ofChange spanFewSpec)

/-- ITS FALSE NEIGHBOUR: 'it returns false'. Refute it at one input. -/
def spanFewWrong : ChangeSpec := { name := "spanFew", fn := fun _ => fun
  | [d1, d2] => { results := [.lit (.bool false)], args := [d1, d2] }
  | _ => none }
def SpanFewWrongFalsely : Prop := spanFewRow.holds Try.pinned (OpenSpec.ofChange spanFewWrong)

/-- 'gussetlaw08.SpanCounts': WHATEVER THE INPUT: true; the input reads as it did. -/
def spanCountsSpec : ChangeSpec := { name := "spanCounts", fn := fun _ => fun
  | [d1, d2, d3] => { results := [.lit (.bool true)], args := [d1, d2, d3] }
  | _ => none }
def spanCountsRow : OpenClaim := { program := "ytglcpiokmieppaa", sum := "b075d2f054d8b29ad17a22baadb008e979c896184cec2c4ad9d1c5da33580cad", func := "gusset/gussetlaw08.SpanCounts", spec := "spanCounts", inPlace := ["slices.overlaps[gusset/span.Span]"], unfollowed := true, recurses := true, apart := false }
def SpanCountsSaid : Prop := spanCountsRow.holds Try.pinned (OpenSpec.ofChange spanCountsSpec)

/-- ITS FALSE NEIGHBOUR: 'it returns false'. Refute it at one input. -/
def spanCountsWrong : ChangeSpec := { name := "spanCounts", fn := fun _ => fun
  | [d1, d2, d3] => { results := [.lit (.bool false)], args := [d1, d2, d3] }
  | _ => none }
def SpanCountsWrongFalsely : Prop := spanCountsRow.holds Try.pinned (OpenSpec.ofChange spanCountsWrong)

/-- 'gussetlaw08.SpanLists': WHATEVER THE INPUT: true; the input reads as it did. -/
def spanListsSpec : ChangeSpec := { name := "spanLists", fn := fun _ => fun
  | [d1, d2] => { results := [.lit (.bool true)], args := [d1, d2] }
  | _ => none }
def spanListsRow : OpenClaim := { program := "ytglcpiokmieppaa", sum := "b075d2f054d8b29ad17a22baadb008e979c896184cec2c4ad9d1c5da33580cad", func := "gusset/gussetlaw08.SpanLists", spec := "spanLists", inPlace := ["slices.overlaps[gusset/span.Span]"], unfollowed := true, recurses := true, apart := false }
def SpanListsSaid : Prop := spanListsRow.holds Try.pinned (OpenSpec.ofChange spanListsSpec)

/-- ITS FALSE NEIGHBOUR: 'it returns false'. Refute it at one input. -/
def spanListsWrong : ChangeSpec := { name := "spanLists", fn := fun _ => fun
  | [d1, d2] => { results := [.lit (.bool false)], args := [d1, d2] }
  | _ => none }
def SpanListsWrongFalsely : Prop := spanListsRow.holds Try.pinned (OpenSpec.ofChange spanListsWrong)

/-- 'gussetlaw08.SpanBack': WHATEVER THE INPUT: true; the input reads as it did. -/
def spanBackSpec : ChangeSpec := { name := "spanBack", fn := fun _ => fun
  | [d1, d2] => { results := [.lit (.bool true)], args := [d1, d2] }
  | _ => none }
def spanBackRow : OpenClaim := { program := "ytglcpiokmieppaa", sum := "b075d2f054d8b29ad17a22baadb008e979c896184cec2c4ad9d1c5da33580cad", func := "gusset/gussetlaw08.SpanBack", spec := "spanBack", inPlace := ["slices.overlaps[gusset/span.Span]"], unfollowed := true, recurses := true, apart := false }
def SpanBackSaid : Prop := spanBackRow.holds Try.pinned (OpenSpec.ofChange spanBackSpec)

/-- ITS FALSE NEIGHBOUR: 'it returns false'. Refute it at one input. -/
def spanBackWrong : ChangeSpec := { name := "spanBack", fn := fun _ => fun
  | [d1, d2] => { results := [.lit (.bool false)], args := [d1, d2] }
  | _ => none }
def SpanBackWrongFalsely : Prop := spanBackRow.holds Try.pinned (OpenSpec.ofChange spanBackWrong)

/- THE SECOND FORM. 'bulk': how many values and letters a reading holds, each counted each time it is reached (what is shared counts as often as it is met; a slice's spare places count too). A statement '..UptoSaid' is the law's where the arguments, and the package variables that the reading takes, are together of bulk at most 1048576: NARROWER than '..Said'. Prove '..Said' where nothing that the law and all that it calls make is longer than what came in: it says more and counts as full. Else prove '..UptoSaid'. A law counts once. -/
mutual
def uptoBulk {H : Type} : DataW H → Nat
  | .lit (.string bytes) => bytes.length + 1
  | .lit _ => 1
  | .nil => 1
  | .ptr d => uptoBulk d + 1
  | .slice elems spare => uptoBulkAll elems + uptoBulkAll spare + 1
  | .agg parts => uptoBulkAll parts + 1
  | .iface _ d => uptoBulk d + 1
  | .map entries => uptoBulkEntries entries + 1
  | .held _ => 1
def uptoBulkAll {H : Type} : List (DataW H) → Nat
  | [] => 0
  | d :: r => uptoBulk d + uptoBulkAll r
def uptoBulkEntries {H : Type} : List (Lit × DataW H) → Nat
  | [] => 0
  | x :: r => uptoBulkEntry x + uptoBulkEntries r
def uptoBulkEntry {H : Type} : Lit × DataW H → Nat
  | (.string bytes, d) => bytes.length + uptoBulk d + 1
  | (_, d) => uptoBulk d + 1
 end
def uptoSmall : (H : Type) → List (DataW H) → Bool := fun _ ds => decide (uptoBulkAll ds ≤ 1048576)
def OpenSpec.upto (s : _root_.Go.ChangeSpec) : _root_.Go.OpenSpec := { _root_.Go.OpenSpec.ofChange s with cond := some uptoSmall }

/-- 'gussetlaw08.SpanPlays', WHERE WHAT IT READS IS OF BULK AT MOST 1048576: true; the input reads as it did. -/
def spanPlaysUptoRow : OpenClaim := { program := "ytglcpiokmieppaa", sum := "b075d2f054d8b29ad17a22baadb008e979c896184cec2c4ad9d1c5da33580cad", func := "gusset/gussetlaw08.SpanPlays", spec := "spanPlays", inPlace := ["slices.overlaps[gusset/span.Span]"], unfollowed := true, recurses := true, apart := false, narrowed := true }
def SpanPlaysUptoSaid : Prop := spanPlaysUptoRow.holds Try.pinned (OpenSpec.upto spanPlaysSpec)

/-- 'gussetlaw08.SpanFew', WHERE WHAT IT READS IS OF BULK AT MOST 1048576: true; the input reads as it did. -/
def spanFewUptoRow : OpenClaim := { program := "ytglcpiokmieppaa", sum := "b075d2f054d8b29ad17a22baadb008e979c896184cec2c4ad9d1c5da33580cad", func := "gusset/gussetlaw08.SpanFew", spec := "spanFew", inPlace := ["slices.overlaps[gusset/span.Span]"], unfollowed := true, recurses := true, apart := false, narrowed := true }
def SpanFewUptoSaid : Prop := spanFewUptoRow.holds Try.pinned (OpenSpec.upto spanFewSpec)

/-- 'gussetlaw08.SpanCounts', WHERE WHAT IT READS IS OF BULK AT MOST 1048576: true; the input reads as it did. -/
def spanCountsUptoRow : OpenClaim := { program := "ytglcpiokmieppaa", sum := "b075d2f054d8b29ad17a22baadb008e979c896184cec2c4ad9d1c5da33580cad", func := "gusset/gussetlaw08.SpanCounts", spec := "spanCounts", inPlace := ["slices.overlaps[gusset/span.Span]"], unfollowed := true, recurses := true, apart := false, narrowed := true }
def SpanCountsUptoSaid : Prop := spanCountsUptoRow.holds Try.pinned (OpenSpec.upto spanCountsSpec)

/-- 'gussetlaw08.SpanLists', WHERE WHAT IT READS IS OF BULK AT MOST 1048576: true; the input reads as it did. -/
def spanListsUptoRow : OpenClaim := { program := "ytglcpiokmieppaa", sum := "b075d2f054d8b29ad17a22baadb008e979c896184cec2c4ad9d1c5da33580cad", func := "gusset/gussetlaw08.SpanLists", spec := "spanLists", inPlace := ["slices.overlaps[gusset/span.Span]"], unfollowed := true, recurses := true, apart := false, narrowed := true }
def SpanListsUptoSaid : Prop := spanListsUptoRow.holds Try.pinned (OpenSpec.upto spanListsSpec)

/-- 'gussetlaw08.SpanBack', WHERE WHAT IT READS IS OF BULK AT MOST 1048576: true; the input reads as it did. -/
def spanBackUptoRow : OpenClaim := { program := "ytglcpiokmieppaa", sum := "b075d2f054d8b29ad17a22baadb008e979c896184cec2c4ad9d1c5da33580cad", func := "gusset/gussetlaw08.SpanBack", spec := "spanBack", inPlace := ["slices.overlaps[gusset/span.Span]"], unfollowed := true, recurses := true, apart := false, narrowed := true }
def SpanBackUptoSaid : Prop := spanBackUptoRow.holds Try.pinned (OpenSpec.upto spanBackSpec)

end Rows
end Go.Proofs.Ytglcpiokmieppaa
