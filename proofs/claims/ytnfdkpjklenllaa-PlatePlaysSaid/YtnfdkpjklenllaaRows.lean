/-
  No cell of these rows narrows 'for every input' (looked for: loops, veiled, ifaces, maps, wideKeys, modest, calm, conditions, laid).
  DERIVED. THE GIVEN ROWS OF THIS SEAT. 5 by the template 'for every input the law returns true; each argument reads behind the call as it read before'; 0 by the template 'total and deterministic' (their statements: YtnfdkpjklenllaaTotals.lean).
  GIVEN WITH THE SEED: the statements are not yours to turn. If you find one false, say at which input.
  Laid BY PROGRAM, IN A SANDBOX (cutbox-rows.mjs): the forced cells as the released guide's own fill.sh prints them over the translation e5baf46e0b0ee10c… (all of the seat's roots in one cut). By AI agents, Wed Nov 11 2026. No macro, syntax, notation, axiom, sorry.
-/
import Derived.Test.YtnfdkpjklenllaaChecked
import GoSem.Claim
import GoSem.ClaimJoined
import GoSem.ClaimMapViews
import Derived.JoinedTies
import Derived.KernelRfl
namespace Go.Proofs.Ytnfdkpjklenllaa
/- THE CELL 'sum', in the pinned program and in every row, IS THE sha256 OF THE DUMP (.gsa) THAT YtnfdkpjklenllaaProg.lean LOADS. Nothing in Lean hashes anything: it is a label: what it is worth is what the hold of that sum in a sandbox is worth. -/
noncomputable def Try.pinned : Pinned := { name := "ytnfdkpjklenllaa", sum := "e5baf46e0b0ee10ca425f819ebd9d3e7ad8ac16618e6a71738df490d96ff2352", checked := Try.checked }
namespace Rows
def none {H : Type} : Left H := { results := [], args := [] }

/-- 'gussetlaw06.PlateAgain': WHATEVER THE INPUT: true; the input reads as it did. -/
def plateAgainSpec : ChangeSpec := { name := "plateAgain", fn := fun _ => fun
  | [d1, d2, d3, d4] => { results := [.lit (.bool true)], args := [d1, d2, d3, d4] }
  | _ => none }
def plateAgainRow : OpenClaim := { program := "ytnfdkpjklenllaa", sum := "e5baf46e0b0ee10ca425f819ebd9d3e7ad8ac16618e6a71738df490d96ff2352", func := "gusset/gussetlaw06.PlateAgain", spec := "plateAgain", apart := false }
def PlateAgainSaid : Prop := plateAgainRow.holds Try.pinned (OpenSpec.ofChange plateAgainSpec)

/-- ITS FALSE NEIGHBOUR: 'it returns false'. Refute it at one input. -/
def plateAgainWrong : ChangeSpec := { name := "plateAgain", fn := fun _ => fun
  | [d1, d2, d3, d4] => { results := [.lit (.bool false)], args := [d1, d2, d3, d4] }
  | _ => none }
def PlateAgainWrongFalsely : Prop := plateAgainRow.holds Try.pinned (OpenSpec.ofChange plateAgainWrong)

/-- 'gussetlaw06.PlateApart': WHATEVER THE INPUT: true; the input reads as it did. -/
def plateApartSpec : ChangeSpec := { name := "plateApart", fn := fun _ => fun
  | [d1, d2, d3, d4] => { results := [.lit (.bool true)], args := [d1, d2, d3, d4] }
  | _ => none }
def plateApartRow : OpenClaim := { program := "ytnfdkpjklenllaa", sum := "e5baf46e0b0ee10ca425f819ebd9d3e7ad8ac16618e6a71738df490d96ff2352", func := "gusset/gussetlaw06.PlateApart", spec := "plateApart", apart := false }
def PlateApartSaid : Prop := plateApartRow.holds Try.pinned (OpenSpec.ofChange plateApartSpec)

/-- ITS FALSE NEIGHBOUR: 'it returns false'. Refute it at one input. -/
def plateApartWrong : ChangeSpec := { name := "plateApart", fn := fun _ => fun
  | [d1, d2, d3, d4] => { results := [.lit (.bool false)], args := [d1, d2, d3, d4] }
  | _ => none }
def PlateApartWrongFalsely : Prop := plateApartRow.holds Try.pinned (OpenSpec.ofChange plateApartWrong)

/-- 'gussetlaw06.PlateLasts': WHATEVER THE INPUT: true; the input reads as it did. -/
def plateLastsSpec : ChangeSpec := { name := "plateLasts", fn := fun _ => fun
  | [d1, d2, d3] => { results := [.lit (.bool true)], args := [d1, d2, d3] }
  | _ => none }
def plateLastsRow : OpenClaim := { program := "ytnfdkpjklenllaa", sum := "e5baf46e0b0ee10ca425f819ebd9d3e7ad8ac16618e6a71738df490d96ff2352", func := "gusset/gussetlaw06.PlateLasts", spec := "plateLasts", apart := false }
def PlateLastsSaid : Prop := plateLastsRow.holds Try.pinned (OpenSpec.ofChange plateLastsSpec)

/-- ITS FALSE NEIGHBOUR: 'it returns false'. Refute it at one input. -/
def plateLastsWrong : ChangeSpec := { name := "plateLasts", fn := fun _ => fun
  | [d1, d2, d3] => { results := [.lit (.bool false)], args := [d1, d2, d3] }
  | _ => none }
def PlateLastsWrongFalsely : Prop := plateLastsRow.holds Try.pinned (OpenSpec.ofChange plateLastsWrong)

/-- 'gussetlaw06.PlateArmed': WHATEVER THE INPUT: true; the input reads as it did. -/
def plateArmedSpec : ChangeSpec := { name := "plateArmed", fn := fun _ => fun
  | [d1, d2] => { results := [.lit (.bool true)], args := [d1, d2] }
  | _ => none }
def plateArmedRow : OpenClaim := { program := "ytnfdkpjklenllaa", sum := "e5baf46e0b0ee10ca425f819ebd9d3e7ad8ac16618e6a71738df490d96ff2352", func := "gusset/gussetlaw06.PlateArmed", spec := "plateArmed", apart := false }
def PlateArmedSaid : Prop := plateArmedRow.holds Try.pinned (OpenSpec.ofChange plateArmedSpec)

/-- ITS FALSE NEIGHBOUR: 'it returns false'. Refute it at one input. -/
def plateArmedWrong : ChangeSpec := { name := "plateArmed", fn := fun _ => fun
  | [d1, d2] => { results := [.lit (.bool false)], args := [d1, d2] }
  | _ => none }
def PlateArmedWrongFalsely : Prop := plateArmedRow.holds Try.pinned (OpenSpec.ofChange plateArmedWrong)

/-- 'gussetlaw06.PlatePlays': WHATEVER THE INPUT: true; the input reads as it did. -/
def platePlaysSpec : ChangeSpec := { name := "platePlays", fn := fun _ => fun
  | [d1, d2] => { results := [.lit (.bool true)], args := [d1, d2] }
  | _ => none }
def platePlaysRow : OpenClaim := { program := "ytnfdkpjklenllaa", sum := "e5baf46e0b0ee10ca425f819ebd9d3e7ad8ac16618e6a71738df490d96ff2352", func := "gusset/gussetlaw06.PlatePlays", spec := "platePlays", inPlace := ["maps.clone"], unfollowed := true, recurses := true, apart := false }
def PlatePlaysSaid : Prop := platePlaysRow.holds Try.pinned (OpenSpec.ofChange platePlaysSpec)

/-- ITS FALSE NEIGHBOUR: 'it returns false'. Refute it at one input. -/
def platePlaysWrong : ChangeSpec := { name := "platePlays", fn := fun _ => fun
  | [d1, d2] => { results := [.lit (.bool false)], args := [d1, d2] }
  | _ => none }
def PlatePlaysWrongFalsely : Prop := platePlaysRow.holds Try.pinned (OpenSpec.ofChange platePlaysWrong)

/- THE SECOND FORM. 'bulk': how many values and letters a reading holds, each counted each time it is reached (what is shared counts as often as it is met; a slice's spare places count too). A statement '..UptoSaid' is the law's where the arguments, and the package variables that the reading takes, are together of bulk at most 1048576: NARROWER than '..Said'. Prove '..Said' where nothing that the law and all that it calls make is longer than what came in: it says more and counts as full. Else prove '..UptoSaid'. A law counts once. -/
mutual
def uptoBulk {H : Type} : DataW H → Nat
  | .lit (.string bytes) => bytes.length + 1
  | .lit _ => 1
  | .nil => 1
  | .ptr d => uptoBulk d + 1
  | .slice elems spare => uptoBulkAll elems + uptoBulkAll spare + 1
  | .agg parts => uptoBulkAll parts + 1
  | .iface _ d => uptoBulk d + 1
  | .map entries => uptoBulkEntries entries + 1
  | .held _ => 1
def uptoBulkAll {H : Type} : List (DataW H) → Nat
  | [] => 0
  | d :: r => uptoBulk d + uptoBulkAll r
def uptoBulkEntries {H : Type} : List (Lit × DataW H) → Nat
  | [] => 0
  | x :: r => uptoBulkEntry x + uptoBulkEntries r
def uptoBulkEntry {H : Type} : Lit × DataW H → Nat
  | (.string bytes, d) => bytes.length + uptoBulk d + 1
  | (_, d) => uptoBulk d + 1
 end
def uptoSmall : (H : Type) → List (DataW H) → Bool := fun _ ds => decide (uptoBulkAll ds ≤ 1048576)
def OpenSpec.upto (s : _root_.Go.ChangeSpec) : _root_.Go.OpenSpec := { _root_.Go.OpenSpec.ofChange s with cond := some uptoSmall }

/-- 'gussetlaw06.PlateAgain', WHERE WHAT IT READS IS OF BULK AT MOST 1048576: true; the input reads as it did. -/
def plateAgainUptoRow : OpenClaim := { program := "ytnfdkpjklenllaa", sum := "e5baf46e0b0ee10ca425f819ebd9d3e7ad8ac16618e6a71738df490d96ff2352", func := "gusset/gussetlaw06.PlateAgain", spec := "plateAgain", apart := false, narrowed := true }
def PlateAgainUptoSaid : Prop := plateAgainUptoRow.holds Try.pinned (OpenSpec.upto plateAgainSpec)

/-- 'gussetlaw06.PlateApart', WHERE WHAT IT READS IS OF BULK AT MOST 1048576: true; the input reads as it did. -/
def plateApartUptoRow : OpenClaim := { program := "ytnfdkpjklenllaa", sum := "e5baf46e0b0ee10ca425f819ebd9d3e7ad8ac16618e6a71738df490d96ff2352", func := "gusset/gussetlaw06.PlateApart", spec := "plateApart", apart := false, narrowed := true }
def PlateApartUptoSaid : Prop := plateApartUptoRow.holds Try.pinned (OpenSpec.upto plateApartSpec)

/-- 'gussetlaw06.PlateLasts', WHERE WHAT IT READS IS OF BULK AT MOST 1048576: true; the input reads as it did. -/
def plateLastsUptoRow : OpenClaim := { program := "ytnfdkpjklenllaa", sum := "e5baf46e0b0ee10ca425f819ebd9d3e7ad8ac16618e6a71738df490d96ff2352", func := "gusset/gussetlaw06.PlateLasts", spec := "plateLasts", apart := false, narrowed := true }
def PlateLastsUptoSaid : Prop := plateLastsUptoRow.holds Try.pinned (OpenSpec.upto plateLastsSpec)

/-- 'gussetlaw06.PlateArmed', WHERE WHAT IT READS IS OF BULK AT MOST 1048576: true; the input reads as it did. -/
def plateArmedUptoRow : OpenClaim := { program := "ytnfdkpjklenllaa", sum := "e5baf46e0b0ee10ca425f819ebd9d3e7ad8ac16618e6a71738df490d96ff2352", func := "gusset/gussetlaw06.PlateArmed", spec := "plateArmed", apart := false, narrowed := true }
def PlateArmedUptoSaid : Prop := plateArmedUptoRow.holds Try.pinned (OpenSpec.upto plateArmedSpec)

/-- 'gussetlaw06.PlatePlays', WHERE WHAT IT READS IS OF BULK AT MOST 1048576: true; the input reads as it did. -/
def platePlaysUptoRow : OpenClaim := { program := "ytnfdkpjklenllaa", sum := "e5baf46e0b0ee10ca425f819ebd9d3e7ad8ac16618e6a71738df490d96ff2352", func := "gusset/gussetlaw06.PlatePlays", spec := "platePlays", inPlace := ["maps.clone"], unfollowed := true, recurses := true, apart := false, narrowed := true }
def PlatePlaysUptoSaid : Prop := platePlaysUptoRow.holds Try.pinned (OpenSpec.upto platePlaysSpec)

end Rows
end Go.Proofs.Ytnfdkpjklenllaa
