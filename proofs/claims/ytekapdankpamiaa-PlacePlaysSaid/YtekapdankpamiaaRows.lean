/-
  No cell of these rows narrows 'for every input' (looked for: loops, veiled, ifaces, maps, wideKeys, modest, calm, conditions, laid).
  DERIVED. THE GIVEN ROWS OF THIS SEAT. 4 by the template 'for every input the law returns true; each argument reads behind the call as it read before'; 0 by the template 'total and deterministic' (their statements: YtekapdankpamiaaTotals.lean).
  GIVEN WITH THE SEED: the statements are not yours to turn. If you find one false, say at which input.
  Laid BY PROGRAM, IN A SANDBOX (cutbox-rows.mjs): the forced cells as the released guide's own fill.sh prints them over the translation b2dfd1660dbc74af… (all of the seat's roots in one cut). By AI agents, Wed Nov 11 2026. No macro, syntax, notation, axiom, sorry.
-/
import Derived.Test.YtekapdankpamiaaChecked
import GoSem.Claim
import GoSem.ClaimJoined
import GoSem.ClaimMapViews
import Derived.JoinedTies
import Derived.KernelRfl
namespace Go.Proofs.Ytekapdankpamiaa
/- THE CELL 'sum', in the pinned program and in every row, IS THE sha256 OF THE DUMP (.gsa) THAT YtekapdankpamiaaProg.lean LOADS. Nothing in Lean hashes anything: it is a label: what it is worth is what the hold of that sum in a sandbox is worth. -/
noncomputable def Try.pinned : Pinned := { name := "ytekapdankpamiaa", sum := "b2dfd1660dbc74af02947cc48a7ab7ac7e84874a71edf8d9844d0d7d5518af10", checked := Try.checked }
namespace Rows
def none {H : Type} : Left H := { results := [], args := [] }

/-- 'gussetlaw16.PlaceKnows': WHATEVER THE INPUT: true; the input reads as it did. -/
def placeKnowsSpec : ChangeSpec := { name := "placeKnows", fn := fun _ => fun
  | [d1, d2, d3, d4] => { results := [.lit (.bool true)], args := [d1, d2, d3, d4] }
  | _ => none }
def placeKnowsRow : OpenClaim := { program := "ytekapdankpamiaa", sum := "b2dfd1660dbc74af02947cc48a7ab7ac7e84874a71edf8d9844d0d7d5518af10", func := "gusset/gussetlaw16.PlaceKnows", spec := "placeKnows", apart := false }
def PlaceKnowsSaid : Prop := placeKnowsRow.holds Try.pinned (OpenSpec.ofChange placeKnowsSpec)

/-- ITS FALSE NEIGHBOUR: 'it returns false'. Refute it at one input. -/
def placeKnowsWrong : ChangeSpec := { name := "placeKnows", fn := fun _ => fun
  | [d1, d2, d3, d4] => { results := [.lit (.bool false)], args := [d1, d2, d3, d4] }
  | _ => none }
def PlaceKnowsWrongFalsely : Prop := placeKnowsRow.holds Try.pinned (OpenSpec.ofChange placeKnowsWrong)

/-- 'gussetlaw16.PlacePlays': WHATEVER THE INPUT: true; the input reads as it did. -/
def placePlaysSpec : ChangeSpec := { name := "placePlays", fn := fun _ => fun
  | [d1, d2] => { results := [.lit (.bool true)], args := [d1, d2] }
  | _ => none }
def placePlaysRow : OpenClaim := { program := "ytekapdankpamiaa", sum := "b2dfd1660dbc74af02947cc48a7ab7ac7e84874a71edf8d9844d0d7d5518af10", func := "gusset/gussetlaw16.PlacePlays", spec := "placePlays", unfollowed := true, recurses := true, apart := false }
def PlacePlaysSaid : Prop := placePlaysRow.holds Try.pinned (OpenSpec.ofChange placePlaysSpec)

/-- ITS FALSE NEIGHBOUR: 'it returns false'. Refute it at one input. -/
def placePlaysWrong : ChangeSpec := { name := "placePlays", fn := fun _ => fun
  | [d1, d2] => { results := [.lit (.bool false)], args := [d1, d2] }
  | _ => none }
def PlacePlaysWrongFalsely : Prop := placePlaysRow.holds Try.pinned (OpenSpec.ofChange placePlaysWrong)

/-- 'gussetlaw16.PlaceOne': WHATEVER THE INPUT: true; the input reads as it did. -/
def placeOneSpec : ChangeSpec := { name := "placeOne", fn := fun _ => fun
  | [d1, d2, d3] => { results := [.lit (.bool true)], args := [d1, d2, d3] }
  | _ => none }
def placeOneRow : OpenClaim := { program := "ytekapdankpamiaa", sum := "b2dfd1660dbc74af02947cc48a7ab7ac7e84874a71edf8d9844d0d7d5518af10", func := "gusset/gussetlaw16.PlaceOne", spec := "placeOne", unfollowed := true, recurses := true, apart := false }
def PlaceOneSaid : Prop := placeOneRow.holds Try.pinned (OpenSpec.ofChange placeOneSpec)

/-- ITS FALSE NEIGHBOUR: 'it returns false'. Refute it at one input. -/
def placeOneWrong : ChangeSpec := { name := "placeOne", fn := fun _ => fun
  | [d1, d2, d3] => { results := [.lit (.bool false)], args := [d1, d2, d3] }
  | _ => none }
def PlaceOneWrongFalsely : Prop := placeOneRow.holds Try.pinned (OpenSpec.ofChange placeOneWrong)

/-- 'gussetlaw16.PlaceHome': WHATEVER THE INPUT: true; the input reads as it did. -/
def placeHomeSpec : ChangeSpec := { name := "placeHome", fn := fun _ => fun
  | [d1, d2, d3] => { results := [.lit (.bool true)], args := [d1, d2, d3] }
  | _ => none }
def placeHomeRow : OpenClaim := { program := "ytekapdankpamiaa", sum := "b2dfd1660dbc74af02947cc48a7ab7ac7e84874a71edf8d9844d0d7d5518af10", func := "gusset/gussetlaw16.PlaceHome", spec := "placeHome", unfollowed := true, recurses := true, apart := false }
def PlaceHomeSaid : Prop := placeHomeRow.holds Try.pinned (OpenSpec.ofChange placeHomeSpec)

/-- ITS FALSE NEIGHBOUR: 'it returns false'. Refute it at one input. -/
def placeHomeWrong : ChangeSpec := { name := "placeHome", fn := fun _ => fun
  | [d1, d2, d3] => { results := [.lit (.bool false)], args := [d1, d2, d3] }
  | _ => none }
def PlaceHomeWrongFalsely : Prop := placeHomeRow.holds Try.pinned (OpenSpec.ofChange placeHomeWrong)

/- THE SECOND FORM. 'bulk': how many values and letters a reading holds, each counted each time it is reached (what is shared counts as often as it is met; a slice's spare places count too). A statement '..UptoSaid' is the law's where the arguments, and the package variables that the reading takes, are together of bulk at most 1048576: NARROWER than '..Said'. Prove '..Said' where nothing that the law and all that it calls make is longer than what came in: it says more and counts as full. Else prove '..UptoSaid'. A law counts once. -/
mutual
def uptoBulk {H : Type} : DataW H → Nat
  | .lit (.string bytes) => bytes.length + 1
  | .lit _ => 1
  | .nil => 1
  | .ptr d => uptoBulk d + 1
  | .slice elems spare => uptoBulkAll elems + uptoBulkAll spare + 1
  | .agg parts => uptoBulkAll parts + 1
  | .iface _ d => uptoBulk d + 1
  | .map entries => uptoBulkEntries entries + 1
  | .held _ => 1
def uptoBulkAll {H : Type} : List (DataW H) → Nat
  | [] => 0
  | d :: r => uptoBulk d + uptoBulkAll r
def uptoBulkEntries {H : Type} : List (Lit × DataW H) → Nat
  | [] => 0
  | x :: r => uptoBulkEntry x + uptoBulkEntries r
def uptoBulkEntry {H : Type} : Lit × DataW H → Nat
  | (.string bytes, d) => bytes.length + uptoBulk d + 1
  | (_, d) => uptoBulk d + 1
 end
def uptoSmall : (H : Type) → List (DataW H) → Bool := fun _ ds => decide (uptoBulkAll ds ≤ 1048576)
def OpenSpec.upto (s : _root_.Go.ChangeSpec) : _root_.Go.OpenSpec := { _root_.Go.OpenSpec.ofChange s with cond := some uptoSmall }

/-- 'gussetlaw16.PlaceKnows', WHERE WHAT IT READS IS OF BULK AT MOST 1048576: true; the input reads as it did. -/
def placeKnowsUptoRow : OpenClaim := { program := "ytekapdankpamiaa", sum := "b2dfd1660dbc74af02947cc48a7ab7ac7e84874a71edf8d9844d0d7d5518af10", func := "gusset/gussetlaw16.PlaceKnows", spec := "placeKnows", apart := false, narrowed := true }
def PlaceKnowsUptoSaid : Prop := placeKnowsUptoRow.holds Try.pinned (OpenSpec.upto placeKnowsSpec)

/-- 'gussetlaw16.PlacePlays', WHERE WHAT IT READS IS OF BULK AT MOST 1048576: true; the input reads as it did. -/
def placePlaysUptoRow : OpenClaim := { program := "ytekapdankpamiaa", sum := "b2dfd1660dbc74af02947cc48a7ab7ac7e84874a71edf8d9844d0d7d5518af10", func := "gusset/gussetlaw16.PlacePlays", spec := "placePlays", unfollowed := true, recurses := true, apart := false, narrowed := true }
def PlacePlaysUptoSaid : Prop := placePlaysUptoRow.holds Try.pinned (OpenSpec.upto placePlaysSpec)

/-- 'gussetlaw16.PlaceOne', WHERE WHAT IT READS IS OF BULK AT MOST 1048576: true; the input reads as it did. -/
def placeOneUptoRow : OpenClaim := { program := "ytekapdankpamiaa", sum := "b2dfd1660dbc74af02947cc48a7ab7ac7e84874a71edf8d9844d0d7d5518af10", func := "gusset/gussetlaw16.PlaceOne", spec := "placeOne", unfollowed := true, recurses := true, apart := false, narrowed := true }
def PlaceOneUptoSaid : Prop := placeOneUptoRow.holds Try.pinned (OpenSpec.upto placeOneSpec)

/-- 'gussetlaw16.PlaceHome', WHERE WHAT IT READS IS OF BULK AT MOST 1048576: true; the input reads as it did. -/
def placeHomeUptoRow : OpenClaim := { program := "ytekapdankpamiaa", sum := "b2dfd1660dbc74af02947cc48a7ab7ac7e84874a71edf8d9844d0d7d5518af10", func := "gusset/gussetlaw16.PlaceHome", spec := "placeHome", unfollowed := true, recurses := true, apart := false, narrowed := true }
def PlaceHomeUptoSaid : Prop := placeHomeUptoRow.holds Try.pinned (OpenSpec.upto placeHomeSpec)

end Rows
end Go.Proofs.Ytekapdankpamiaa
