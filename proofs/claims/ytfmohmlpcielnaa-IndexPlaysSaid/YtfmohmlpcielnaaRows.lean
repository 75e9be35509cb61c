/-
  No cell of these rows narrows 'for every input' (looked for: loops, veiled, ifaces, maps, wideKeys, modest, calm, conditions, laid).
  DERIVED. THE GIVEN ROWS OF THIS SEAT. 5 by the template 'for every input the law returns true; each argument reads behind the call as it read before'; 0 by the template 'total and deterministic' (their statements: YtfmohmlpcielnaaTotals.lean).
  GIVEN WITH THE SEED: the statements are not yours to turn. If you find one false, say at which input.
  Laid BY PROGRAM, IN A SANDBOX (cutbox-rows.mjs): the forced cells as the released guide's own fill.sh prints them over the translation e0be267794842dc1… (all of the seat's roots in one cut). By AI agents, Wed Nov 11 2026. No macro, syntax, notation, axiom, sorry.
-/
import Derived.Test.YtfmohmlpcielnaaChecked
import GoSem.Claim
import GoSem.ClaimJoined
import GoSem.ClaimMapViews
import Derived.JoinedTies
import Derived.KernelRfl
namespace Go.Proofs.Ytfmohmlpcielnaa
/- THE CELL 'sum', in the pinned program and in every row, IS THE sha256 OF THE DUMP (.gsa) THAT YtfmohmlpcielnaaProg.lean LOADS. Nothing in Lean hashes anything: it is a label: what it is worth is what the hold of that sum in a sandbox is worth. -/
noncomputable def Try.pinned : Pinned := { name := "ytfmohmlpcielnaa", sum := "e0be267794842dc1ed96e00ca0ba27697027bac41265cd1e7bb4b999fa8befeb", checked := Try.checked }
namespace Rows
def none {H : Type} : Left H := { results := [], args := [] }

/-- 'gussetlaw10.IndexOrder': WHATEVER THE INPUT: true; the input reads as it did. -/
def indexOrderSpec : ChangeSpec := { name := "indexOrder", fn := fun _ => fun
  | [d1, d2] => { results := [.lit (.bool true)], args := [d1, d2] }
  | _ => none }
def indexOrderRow : OpenClaim := { program := "ytfmohmlpcielnaa", sum := "e0be267794842dc1ed96e00ca0ba27697027bac41265cd1e7bb4b999fa8befeb", func := "gusset/gussetlaw10.IndexOrder", spec := "indexOrder", inPlace := ["slices.overlaps[gusset/index.Item]", "slices.overlaps[*gusset/index.page]"], unfollowed := true, recurses := true, apart := false }
def IndexOrderSaid : Prop := indexOrderRow.holds Try.pinned (OpenSpec.ofChange indexOrderSpec)

/-- ITS FALSE NEIGHBOUR: 'it returns false'. Refute it at one input. -/
def indexOrderWrong : ChangeSpec := { name := "indexOrder", fn := fun _ => fun
  | [d1, d2] => { results := [.lit (.bool false)], args := [d1, d2] }
  | _ => none }
def IndexOrderWrongFalsely : Prop := indexOrderRow.holds Try.pinned (OpenSpec.ofChange indexOrderWrong)

/-- 'gussetlaw10.IndexMany': WHATEVER THE INPUT: true; the input reads as it did. -/
def indexManySpec : ChangeSpec := { name := "indexMany", fn := fun _ => fun
  | [d1, d2, d3] => { results := [.lit (.bool true)], args := [d1, d2, d3] }
  | _ => none }
def indexManyRow : OpenClaim := { program := "ytfmohmlpcielnaa", sum := "e0be267794842dc1ed96e00ca0ba27697027bac41265cd1e7bb4b999fa8befeb", func := "gusset/gussetlaw10.IndexMany", spec := "indexMany", inPlace := ["slices.overlaps[gusset/index.Item]", "slices.overlaps[*gusset/index.page]"], unfollowed := true, recurses := true, apart := false }
def IndexManySaid : Prop := indexManyRow.holds Try.pinned (OpenSpec.ofChange indexManySpec)

/-- ITS FALSE NEIGHBOUR: 'it returns false'. Refute it at one input. -/
def indexManyWrong : ChangeSpec := { name := "indexMany", fn := fun _ => fun
  | [d1, d2, d3] => { results := [.lit (.bool false)], args := [d1, d2, d3] }
  | _ => none }
def IndexManyWrongFalsely : Prop := indexManyRow.holds Try.pinned (OpenSpec.ofChange indexManyWrong)

/-- 'gussetlaw10.IndexPlays': WHATEVER THE INPUT: true; the input reads as it did. -/
def indexPlaysSpec : ChangeSpec := { name := "indexPlays", fn := fun _ => fun
  | [d1, d2, d3] => { results := [.lit (.bool true)], args := [d1, d2, d3] }
  | _ => none }
def indexPlaysRow : OpenClaim := { program := "ytfmohmlpcielnaa", sum := "e0be267794842dc1ed96e00ca0ba27697027bac41265cd1e7bb4b999fa8befeb", func := "gusset/gussetlaw10.IndexPlays", spec := "indexPlays", inPlace := ["slices.overlaps[gusset/index.Item]", "slices.overlaps[*gusset/index.page]"], unfollowed := true, recurses := true, apart := false }
def IndexPlaysSaid : Prop := indexPlaysRow.holds Try.pinned (OpenSpec.ofChange indexPlaysSpec)

/-- ITS FALSE NEIGHBOUR: 'it returns false'. Refute it at one input. -/
def indexPlaysWrong : ChangeSpec := { name := "indexPlays", fn := fun _ => fun
  | [d1, d2, d3] => { results := [.lit (.bool false)], args := [d1, d2, d3] }
  | _ => none }
def IndexPlaysWrongFalsely : Prop := indexPlaysRow.holds Try.pinned (OpenSpec.ofChange indexPlaysWrong)

/-- 'gussetlaw10.IndexNil': WHATEVER THE INPUT: true; the input reads as it did. -/
def indexNilSpec : ChangeSpec := { name := "indexNil", fn := fun _ => fun
  | [d1, d2] => { results := [.lit (.bool true)], args := [d1, d2] }
  | _ => none }
def indexNilRow : OpenClaim := { program := "ytfmohmlpcielnaa", sum := "e0be267794842dc1ed96e00ca0ba27697027bac41265cd1e7bb4b999fa8befeb", func := "gusset/gussetlaw10.IndexNil", spec := "indexNil", inPlace := ["slices.overlaps[gusset/index.Item]", "slices.overlaps[*gusset/index.page]"], unfollowed := true, recurses := true, apart := false }
def IndexNilSaid : Prop := indexNilRow.holds Try.pinned (OpenSpec.ofChange indexNilSpec)

/-- ITS FALSE NEIGHBOUR: 'it returns false'. Refute it at one input. -/
def indexNilWrong : ChangeSpec := { name := "indexNil", fn := fun _ => fun
  | [d1, d2] => { results := [.lit (.bool false)], args := [d1, d2] }
  | _ => none }
def IndexNilWrongFalsely : Prop := indexNilRow.holds Try.pinned (OpenSpec.ofChange indexNilWrong)

/-- 'gussetlaw10.IndexEmpties': WHATEVER THE INPUT: true; the input reads as it did. -/
def indexEmptiesSpec : ChangeSpec := { name := "indexEmpties", fn := fun _ => fun
  | [d1, d2] => { results := [.lit (.bool true)], args := [d1, d2] }
  | _ => none }
def indexEmptiesRow : OpenClaim := { program := "ytfmohmlpcielnaa", sum := "e0be267794842dc1ed96e00ca0ba27697027bac41265cd1e7bb4b999fa8befeb", func := "gusset/gussetlaw10.IndexEmpties", spec := "indexEmpties", inPlace := ["slices.overlaps[gusset/index.Item]", "slices.overlaps[*gusset/index.page]"], unfollowed := true, recurses := true, apart := false }
def IndexEmptiesSaid : Prop := indexEmptiesRow.holds Try.pinned (OpenSpec.ofChange indexEmptiesSpec)

/-- ITS FALSE NEIGHBOUR: 'it returns false'. Refute it at one input. -/
def indexEmptiesWrong : ChangeSpec := { name := "indexEmpties", fn := fun _ => fun
  | [d1, d2] => { results := [.lit (.bool false)], args := [d1, d2] }
  | _ => none }
def IndexEmptiesWrongFalsely : Prop := indexEmptiesRow.holds Try.pinned (OpenSpec.ofChange indexEmptiesWrong)

/- THE SECOND FORM. 'bulk': how many values and letters a reading holds, each counted each time it is reached (what is shared counts as often as it is met; a slice's spare places count too). A statement '..UptoSaid' is the law's where the arguments, and the package variables that the reading takes, are together of bulk at most 1048576: NARROWER than '..Said'. Prove '..Said' where nothing that the law and all that it calls make is longer than what came in: it says more and counts as full. Else prove '..UptoSaid'. A law counts once. -/
mutual
def uptoBulk {H : Type} : DataW H → Nat
  | .lit (.string bytes) => bytes.length + 1
  | .lit _ => 1
  | .nil => 1
  | .ptr d => uptoBulk d + 1
  | .slice elems spare => uptoBulkAll elems + uptoBulkAll spare + 1
  | .agg parts => uptoBulkAll parts + 1
  | .iface _ d => uptoBulk d + 1
  | .map entries => uptoBulkEntries entries + 1
  | .held _ => 1
def uptoBulkAll {H : Type} : List (DataW H) → Nat
  | [] => 0
  | d :: r => uptoBulk d + uptoBulkAll r
def uptoBulkEntries {H : Type} : List (Lit × DataW H) → Nat
  | [] => 0
  | x :: r => uptoBulkEntry x + uptoBulkEntries r
def uptoBulkEntry {H : Type} : Lit × DataW H → Nat
  | (.string bytes, d) => bytes.length + uptoBulk d + 1
  | (_, d) => uptoBulk d + 1
 end
def uptoSmall : (H : Type) → List (DataW H) → Bool := fun _ ds => decide (uptoBulkAll ds ≤ 1048576)
def OpenSpec.upto (s : _root_.Go.ChangeSpec) : _root_.Go.OpenSpec := { _root_.Go.OpenSpec.ofChange s with cond := some uptoSmall }

/-- 'gussetlaw10.IndexOrder', WHERE WHAT IT READS IS OF BULK AT MOST 1048576: true; the input reads as it did. -/
def indexOrderUptoRow : OpenClaim := { program := "ytfmohmlpcielnaa", sum := "e0be267794842dc1ed96e00ca0ba27697027bac41265cd1e7bb4b999fa8befeb", func := "gusset/gussetlaw10.IndexOrder", spec := "indexOrder", inPlace := ["slices.overlaps[gusset/index.Item]", "slices.overlaps[*gusset/index.page]"], unfollowed := true, recurses := true, apart := false, narrowed := true }
def IndexOrderUptoSaid : Prop := indexOrderUptoRow.holds Try.pinned (OpenSpec.upto indexOrderSpec)

/-- 'gussetlaw10.IndexMany', WHERE WHAT IT READS IS OF BULK AT MOST 1048576: true; the input reads as it did. -/
def indexManyUptoRow : OpenClaim := { program := "ytfmohmlpcielnaa", sum := "e0be267794842dc1ed96e00ca0ba27697027bac41265cd1e7bb4b999fa8befeb", func := "gusset/gussetlaw10.IndexMany", spec := "indexMany", inPlace := ["slices.overlaps[gusset/index.Item]", "slices.overlaps[*gusset/index.page]"], unfollowed := true, recurses := true, apart := false, narrowed := true }
def IndexManyUptoSaid : Prop := indexManyUptoRow.holds Try.pinned (OpenSpec.upto indexManySpec)

/-- 'gussetlaw10.IndexPlays', WHERE WHAT IT READS IS OF BULK AT MOST 1048576: true; the input reads as it did. -/
def indexPlaysUptoRow : OpenClaim := { program := "ytfmohmlpcielnaa", sum := "e0be267794842dc1ed96e00ca0ba27697027bac41265cd1e7bb4b999fa8befeb", func := "gusset/gussetlaw10.IndexPlays", spec := "indexPlays", inPlace := ["slices.overlaps[gusset/index.Item]", "slices.overlaps[*gusset/index.page]"], unfollowed := true, recurses := true, apart := false, narrowed := true }
def IndexPlaysUptoSaid : Prop := indexPlaysUptoRow.holds Try.pinned (OpenSpec.upto indexPlaysSpec)

/-- 'gussetlaw10.IndexNil', WHERE WHAT IT READS IS OF BULK AT MOST 1048576: true; the input reads as it did. -/
def indexNilUptoRow : OpenClaim := { program := "ytfmohmlpcielnaa", sum := "e0be267794842dc1ed96e00ca0ba27697027bac41265cd1e7bb4b999fa8befeb", func := "gusset/gussetlaw10.IndexNil", spec := "indexNil", inPlace := ["slices.overlaps[gusset/index.Item]", "slices.overlaps[*gusset/index.page]"], unfollowed := true, recurses := true, apart := false, narrowed := true }
def IndexNilUptoSaid : Prop := indexNilUptoRow.holds Try.pinned (OpenSpec.upto indexNilSpec)

/-- 'gussetlaw10.IndexEmpties', WHERE WHAT IT READS IS OF BULK AT MOST 1048576: true; the input reads as it did. -/
def indexEmptiesUptoRow : OpenClaim := { program := "ytfmohmlpcielnaa", sum := "e0be267794842dc1ed96e00ca0ba27697027bac41265cd1e7bb4b999fa8befeb", func := "gusset/gussetlaw10.IndexEmpties", spec := "indexEmpties", inPlace := ["slices.overlaps[gusset/index.Item]", "slices.overlaps[*gusset/index.page]"], unfollowed := true, recurses := true, apart := false, narrowed := true }
def IndexEmptiesUptoSaid : Prop := indexEmptiesUptoRow.holds Try.pinned (OpenSpec.upto indexEmptiesSpec)

end Rows
end Go.Proofs.Ytfmohmlpcielnaa
