/-
  No cell of these rows narrows 'for every input' (looked for: loops, veiled, ifaces, maps, wideKeys, modest, calm, conditions, laid).
  DERIVED. THE GIVEN ROWS OF THIS SEAT. 4 by the template 'for every input the law returns true; each argument reads behind the call as it read before'; 0 by the template 'total and deterministic' (their statements: YtfkkfjmdpkgicaaTotals.lean).
  GIVEN WITH THE SEED: the statements are not yours to turn. If you find one false, say at which input.
  Laid BY PROGRAM, IN A SANDBOX (cutbox-rows.mjs): the forced cells as the released guide's own fill.sh prints them over the translation a6176db82f12f1b9… (all of the seat's roots in one cut). By AI agents, Wed Nov 11 2026. No macro, syntax, notation, axiom, sorry.
-/
import Derived.Test.YtfkkfjmdpkgicaaChecked
import GoSem.Claim
import GoSem.ClaimJoined
import GoSem.ClaimMapViews
import Derived.JoinedTies
import Derived.KernelRfl
namespace Go.Proofs.Ytfkkfjmdpkgicaa
/- THE CELL 'sum', in the pinned program and in every row, IS THE sha256 OF THE DUMP (.gsa) THAT YtfkkfjmdpkgicaaProg.lean LOADS. Nothing in Lean hashes anything: it is a label: what it is worth is what the hold of that sum in a sandbox is worth. -/
noncomputable def Try.pinned : Pinned := { name := "ytfkkfjmdpkgicaa", sum := "a6176db82f12f1b97cbdbb7fe8c868e63ac6ca0907105e27d0f12731abf40bfa", checked := Try.checked }
namespace Rows
def none {H : Type} : Left H := { results := [], args := [] }

/-- 'gussetlaw05.StampClocks': WHATEVER THE INPUT: true; the input reads as it did. -/
def stampClocksSpec : ChangeSpec := { name := "stampClocks", fn := fun _ => fun
  | [d1, d2] => { results := [.lit (.bool true)], args := [d1, d2] }
  | _ => none }
def stampClocksRow : OpenClaim := { program := "ytfkkfjmdpkgicaa", sum := "a6176db82f12f1b97cbdbb7fe8c868e63ac6ca0907105e27d0f12731abf40bfa", func := "gusset/gussetlaw05.StampClocks", spec := "stampClocks", apart := false }
def StampClocksSaid : Prop := stampClocksRow.holds Try.pinned (OpenSpec.ofChange stampClocksSpec)

/-- ITS FALSE NEIGHBOUR: 'it returns false'. Refute it at one input. -/
def stampClocksWrong : ChangeSpec := { name := "stampClocks", fn := fun _ => fun
  | [d1, d2] => { results := [.lit (.bool false)], args := [d1, d2] }
  | _ => none }
def StampClocksWrongFalsely : Prop := stampClocksRow.holds Try.pinned (OpenSpec.ofChange stampClocksWrong)

/-- 'gussetlaw05.StampCauses': WHATEVER THE INPUT: true; the input reads as it did. -/
def stampCausesSpec : ChangeSpec := { name := "stampCauses", fn := fun _ => fun
  | [d1, d2] => { results := [.lit (.bool true)], args := [d1, d2] }
  | _ => none }
def stampCausesRow : OpenClaim := { program := "ytfkkfjmdpkgicaa", sum := "a6176db82f12f1b97cbdbb7fe8c868e63ac6ca0907105e27d0f12731abf40bfa", func := "gusset/gussetlaw05.StampCauses", spec := "stampCauses", unfollowed := true, recurses := true, apart := false }
def StampCausesSaid : Prop := stampCausesRow.holds Try.pinned (OpenSpec.ofChange stampCausesSpec)

/-- ITS FALSE NEIGHBOUR: 'it returns false'. Refute it at one input. -/
def stampCausesWrong : ChangeSpec := { name := "stampCauses", fn := fun _ => fun
  | [d1, d2] => { results := [.lit (.bool false)], args := [d1, d2] }
  | _ => none }
def StampCausesWrongFalsely : Prop := stampCausesRow.holds Try.pinned (OpenSpec.ofChange stampCausesWrong)

/-- 'gussetlaw05.StampOrders': WHATEVER THE INPUT: true; the input reads as it did. -/
def stampOrdersSpec : ChangeSpec := { name := "stampOrders", fn := fun _ => fun
  | [d1, d2, d3] => { results := [.lit (.bool true)], args := [d1, d2, d3] }
  | _ => none }
def stampOrdersRow : OpenClaim := { program := "ytfkkfjmdpkgicaa", sum := "a6176db82f12f1b97cbdbb7fe8c868e63ac6ca0907105e27d0f12731abf40bfa", func := "gusset/gussetlaw05.StampOrders", spec := "stampOrders", unfollowed := true, recurses := true, apart := false }
def StampOrdersSaid : Prop := stampOrdersRow.holds Try.pinned (OpenSpec.ofChange stampOrdersSpec)

/-- ITS FALSE NEIGHBOUR: 'it returns false'. Refute it at one input. -/
def stampOrdersWrong : ChangeSpec := { name := "stampOrders", fn := fun _ => fun
  | [d1, d2, d3] => { results := [.lit (.bool false)], args := [d1, d2, d3] }
  | _ => none }
def StampOrdersWrongFalsely : Prop := stampOrdersRow.holds Try.pinned (OpenSpec.ofChange stampOrdersWrong)

/-- 'gussetlaw05.StampEldest': WHATEVER THE INPUT: true; the input reads as it did. -/
def stampEldestSpec : ChangeSpec := { name := "stampEldest", fn := fun _ => fun
  | [d1, d2] => { results := [.lit (.bool true)], args := [d1, d2] }
  | _ => none }
def stampEldestRow : OpenClaim := { program := "ytfkkfjmdpkgicaa", sum := "a6176db82f12f1b97cbdbb7fe8c868e63ac6ca0907105e27d0f12731abf40bfa", func := "gusset/gussetlaw05.StampEldest", spec := "stampEldest", unfollowed := true, recurses := true, apart := false }
def StampEldestSaid : Prop := stampEldestRow.holds Try.pinned (OpenSpec.ofChange stampEldestSpec)

/-- ITS FALSE NEIGHBOUR: 'it returns false'. Refute it at one input. -/
def stampEldestWrong : ChangeSpec := { name := "stampEldest", fn := fun _ => fun
  | [d1, d2] => { results := [.lit (.bool false)], args := [d1, d2] }
  | _ => none }
def StampEldestWrongFalsely : Prop := stampEldestRow.holds Try.pinned (OpenSpec.ofChange stampEldestWrong)

/- THE SECOND FORM. 'bulk': how many values and letters a reading holds, each counted each time it is reached (what is shared counts as often as it is met; a slice's spare places count too). A statement '..UptoSaid' is the law's where the arguments, and the package variables that the reading takes, are together of bulk at most 1048576: NARROWER than '..Said'. Prove '..Said' where nothing that the law and all that it calls make is longer than what came in: it says more and counts as full. Else prove '..UptoSaid'. A law counts once. -/
mutual
def uptoBulk {H : Type} : DataW H → Nat
  | .lit (.string bytes) => bytes.length + 1
  | .lit _ => 1
  | .nil => 1
  | .ptr d => uptoBulk d + 1
  | .slice elems spare => uptoBulkAll elems + uptoBulkAll spare + 1
  | .agg parts => uptoBulkAll parts + 1
  | .iface _ d => uptoBulk d + 1
  | .map entries => uptoBulkEntries entries + 1
  | .held _ => 1
def uptoBulkAll {H : Type} : List (DataW H) → Nat
  | [] => 0
  | d :: r => uptoBulk d + uptoBulkAll r
def uptoBulkEntries {H : Type} : List (Lit × DataW H) → Nat
  | [] => 0
  | x :: r => uptoBulkEntry x + uptoBulkEntries r
def uptoBulkEntry {H : Type} : Lit × DataW H → Nat
  | (.string bytes, d) => bytes.length + uptoBulk d + 1
  | (_, d) => uptoBulk d + 1
 end
def uptoSmall : (H : Type) → List (DataW H) → Bool := fun _ ds => decide (uptoBulkAll ds ≤ 1048576)
def OpenSpec.upto (s : _root_.Go.ChangeSpec) : _root_.Go.OpenSpec := { _root_.Go.OpenSpec.ofChange s with cond := some uptoSmall }

/-- 'gussetlaw05.StampClocks', WHERE WHAT IT READS IS OF BULK AT MOST 1048576: true; the input reads as it did. -/
def stampClocksUptoRow : OpenClaim := { program := "ytfkkfjmdpkgicaa", sum := "a6176db82f12f1b97cbdbb7fe8c868e63ac6ca0907105e27d0f12731abf40bfa", func := "gusset/gussetlaw05.StampClocks", spec := "stampClocks", apart := false, narrowed := true }
def StampClocksUptoSaid : Prop := stampClocksUptoRow.holds Try.pinned (OpenSpec.upto stampClocksSpec)

/-- 'gussetlaw05.StampCauses', WHERE WHAT IT READS IS OF BULK AT MOST 1048576: true; the input reads as it did. -/
def stampCausesUptoRow : OpenClaim := { program := "ytfkkfjmdpkgicaa", sum := "a6176db82f12f1b97cbdbb7fe8c868e63ac6ca0907105e27d0f12731abf40bfa", func := "gusset/gussetlaw05.StampCauses", spec := "stampCauses", unfollowed := true, recurses := true, apart := false, narrowed := true }
def StampCausesUptoSaid : Prop := stampCausesUptoRow.holds Try.pinned (OpenSpec.upto stampCausesSpec)

/-- 'gussetlaw05.StampOrders', WHERE WHAT IT READS IS OF BULK AT MOST 1048576: true; the input reads as it did. -/
def stampOrdersUptoRow : OpenClaim := { program := "ytfkkfjmdpkgicaa", sum := "a6176db82f12f1b97cbdbb7fe8c868e63ac6ca0907105e27d0f12731abf40bfa", func := "gusset/gussetlaw05.StampOrders", spec := "stampOrders", unfollowed := true, recurses := true, apart := false, narrowed := true }
def StampOrdersUptoSaid : Prop := stampOrdersUptoRow.holds Try.pinned (OpenSpec.upto stampOrdersSpec)

/-- 'gussetlaw05.StampEldest', WHERE WHAT IT READS IS OF BULK AT MOST 1048576: true; the input reads as it did. -/
def stampEldestUptoRow : OpenClaim := { program := "ytfkkfjmdpkgicaa", sum := "a6176db82f12f1b97cbdbb7fe8c868e63ac6ca0907105e27d0f12731abf40bfa", func := "gusset/gussetlaw05.StampEldest", spec := "stampEldest", unfollowed := true, recurses := true, apart := false, narrowed := true }
def StampEldestUptoSaid : Prop := stampEldestUptoRow.holds Try.pinned (OpenSpec.upto stampEldestSpec)

end Rows
end Go.Proofs.Ytfkkfjmdpkgicaa
