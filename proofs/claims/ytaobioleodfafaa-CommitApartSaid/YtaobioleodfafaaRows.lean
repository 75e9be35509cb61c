/-
  No cell of these rows narrows 'for every input' (looked for: loops, veiled, ifaces, maps, wideKeys, modest, calm, conditions, laid).
  DERIVED. THE GIVEN ROWS OF THIS SEAT. 4 by the template 'for every input the law returns true; each argument reads behind the call as it read before'; 0 by the template 'total and deterministic' (their statements: YtaobioleodfafaaTotals.lean).
  GIVEN WITH THE SEED: the statements are not yours to turn. If you find one false, say at which input.
  Laid BY PROGRAM, IN A SANDBOX (cutbox-rows.mjs): the forced cells as the released guide's own fill.sh prints them over the translation 73f7e475baaabdb9… (all of the seat's roots in one cut). By AI agents, Wed Nov 11 2026. No macro, syntax, notation, axiom, sorry.
-/
import Derived.Test.YtaobioleodfafaaChecked
import GoSem.Claim
import GoSem.ClaimJoined
import GoSem.ClaimMapViews
import Derived.JoinedTies
import Derived.KernelRfl
namespace Go.Proofs.Ytaobioleodfafaa
/- THE CELL 'sum', in the pinned program and in every row, IS THE sha256 OF THE DUMP (.gsa) THAT YtaobioleodfafaaProg.lean LOADS. Nothing in Lean hashes anything: it is a label: what it is worth is what the hold of that sum in a sandbox is worth. -/
noncomputable def Try.pinned : Pinned := { name := "ytaobioleodfafaa", sum := "73f7e475baaabdb934f96f53f41efe735df8e53c7c76588fcb18e67b5b8f93c9", checked := Try.checked }
namespace Rows
def none {H : Type} : Left H := { results := [], args := [] }

/-- 'gussetlaw14.CommitVotes': WHATEVER THE INPUT: true; the input reads as it did. -/
def commitVotesSpec : ChangeSpec := { name := "commitVotes", fn := fun _ => fun
  | [d1, d2, d3] => { results := [.lit (.bool true)], args := [d1, d2, d3] }
  | _ => none }
def commitVotesRow : OpenClaim := { program := "ytaobioleodfafaa", sum := "73f7e475baaabdb934f96f53f41efe735df8e53c7c76588fcb18e67b5b8f93c9", func := "gusset/gussetlaw14.CommitVotes", spec := "commitVotes", unfollowed := true, recurses := true, plainKeys := false, apart := false }
def CommitVotesSaid : Prop := commitVotesRow.holds Try.pinned (OpenSpec.ofChange commitVotesSpec)

/-- ITS FALSE NEIGHBOUR: 'it returns false'. Refute it at one input. -/
def commitVotesWrong : ChangeSpec := { name := "commitVotes", fn := fun _ => fun
  | [d1, d2, d3] => { results := [.lit (.bool false)], args := [d1, d2, d3] }
  | _ => none }
def CommitVotesWrongFalsely : Prop := commitVotesRow.holds Try.pinned (OpenSpec.ofChange commitVotesWrong)

/-- 'gussetlaw14.CommitPlays': WHATEVER THE INPUT: true; the input reads as it did. -/
def commitPlaysSpec : ChangeSpec := { name := "commitPlays", fn := fun _ => fun
  | [d] => { results := [.lit (.bool true)], args := [d] }
  | _ => none }
def commitPlaysRow : OpenClaim := { program := "ytaobioleodfafaa", sum := "73f7e475baaabdb934f96f53f41efe735df8e53c7c76588fcb18e67b5b8f93c9", func := "gusset/gussetlaw14.CommitPlays", spec := "commitPlays", unfollowed := true, recurses := true, plainKeys := false, apart := false }
def CommitPlaysSaid : Prop := commitPlaysRow.holds Try.pinned (OpenSpec.ofChange commitPlaysSpec)

/-- ITS FALSE NEIGHBOUR: 'it returns false'. Refute it at one input. -/
def commitPlaysWrong : ChangeSpec := { name := "commitPlays", fn := fun _ => fun
  | [d] => { results := [.lit (.bool false)], args := [d] }
  | _ => none }
def CommitPlaysWrongFalsely : Prop := commitPlaysRow.holds Try.pinned (OpenSpec.ofChange commitPlaysWrong)

/-- 'gussetlaw14.CommitOnce': WHATEVER THE INPUT: true; the input reads as it did. -/
def commitOnceSpec : ChangeSpec := { name := "commitOnce", fn := fun _ => fun
  | [d1, d2] => { results := [.lit (.bool true)], args := [d1, d2] }
  | _ => none }
def commitOnceRow : OpenClaim := { program := "ytaobioleodfafaa", sum := "73f7e475baaabdb934f96f53f41efe735df8e53c7c76588fcb18e67b5b8f93c9", func := "gusset/gussetlaw14.CommitOnce", spec := "commitOnce", unfollowed := true, recurses := true, plainKeys := false, apart := false }
def CommitOnceSaid : Prop := commitOnceRow.holds Try.pinned (OpenSpec.ofChange commitOnceSpec)

/-- ITS FALSE NEIGHBOUR: 'it returns false'. Refute it at one input. -/
def commitOnceWrong : ChangeSpec := { name := "commitOnce", fn := fun _ => fun
  | [d1, d2] => { results := [.lit (.bool false)], args := [d1, d2] }
  | _ => none }
def CommitOnceWrongFalsely : Prop := commitOnceRow.holds Try.pinned (OpenSpec.ofChange commitOnceWrong)

/-- 'gussetlaw14.CommitApart': WHATEVER THE INPUT: true; the input reads as it did. -/
def commitApartSpec : ChangeSpec := { name := "commitApart", fn := fun _ => fun
  | [d1, d2] => { results := [.lit (.bool true)], args := [d1, d2] }
  | _ => none }
def commitApartRow : OpenClaim := { program := "ytaobioleodfafaa", sum := "73f7e475baaabdb934f96f53f41efe735df8e53c7c76588fcb18e67b5b8f93c9", func := "gusset/gussetlaw14.CommitApart", spec := "commitApart", unfollowed := true, recurses := true, plainKeys := false, apart := false }
def CommitApartSaid : Prop := commitApartRow.holds Try.pinned (OpenSpec.ofChange commitApartSpec)

/-- ITS FALSE NEIGHBOUR: 'it returns false'. Refute it at one input. -/
def commitApartWrong : ChangeSpec := { name := "commitApart", fn := fun _ => fun
  | [d1, d2] => { results := [.lit (.bool false)], args := [d1, d2] }
  | _ => none }
def CommitApartWrongFalsely : Prop := commitApartRow.holds Try.pinned (OpenSpec.ofChange commitApartWrong)

/- THE SECOND FORM. 'bulk': how many values and letters a reading holds, each counted each time it is reached (what is shared counts as often as it is met; a slice's spare places count too). A statement '..UptoSaid' is the law's where the arguments, and the package variables that the reading takes, are together of bulk at most 1048576: NARROWER than '..Said'. Prove '..Said' where nothing that the law and all that it calls make is longer than what came in: it says more and counts as full. Else prove '..UptoSaid'. A law counts once. -/
mutual
def uptoBulk {H : Type} : DataW H → Nat
  | .lit (.string bytes) => bytes.length + 1
  | .lit _ => 1
  | .nil => 1
  | .ptr d => uptoBulk d + 1
  | .slice elems spare => uptoBulkAll elems + uptoBulkAll spare + 1
  | .agg parts => uptoBulkAll parts + 1
  | .iface _ d => uptoBulk d + 1
  | .map entries => uptoBulkEntries entries + 1
  | .held _ => 1
def uptoBulkAll {H : Type} : List (DataW H) → Nat
  | [] => 0
  | d :: r => uptoBulk d + uptoBulkAll r
def uptoBulkEntries {H : Type} : List (Lit × DataW H) → Nat
  | [] => 0
  | x :: r => uptoBulkEntry x + uptoBulkEntries r
def uptoBulkEntry {H : Type} : Lit × DataW H → Nat
  | (.string bytes, d) => bytes.length + uptoBulk d + 1
  | (_, d) => uptoBulk d + 1
 end
def uptoSmall : (H : Type) → List (DataW H) → Bool := fun _ ds => decide (uptoBulkAll ds ≤ 1048576)
def OpenSpec.upto (s : _root_.Go.ChangeSpec) : _root_.Go.OpenSpec := { _root_.Go.OpenSpec.ofChange s with cond := some uptoSmall }

/-- 'gussetlaw14.CommitVotes', WHERE WHAT IT READS IS OF BULK AT MOST 1048576: true; the input reads as it did. -/
def commitVotesUptoRow : OpenClaim := { program := "ytaobioleodfafaa", sum := "73f7e475baaabdb934f96f53f41efe735df8e53c7c76588fcb18e67b5b8f93c9", func := "gusset/gussetlaw14.CommitVotes", spec := "commitVotes", unfollowed := true, recurses := true, plainKeys := false, apart := false, narrowed := true }
def CommitVotesUptoSaid : Prop := commitVotesUptoRow.holds Try.pinned (OpenSpec.upto commitVotesSpec)

/-- 'gussetlaw14.CommitPlays', WHERE WHAT IT READS IS OF BULK AT MOST 1048576: true; the input reads as it did. -/
def commitPlaysUptoRow : OpenClaim := { program := "ytaobioleodfafaa", sum := "73f7e475baaabdb934f96f53f41efe735df8e53c7c76588fcb18e67b5b8f93c9", func := "gusset/gussetlaw14.CommitPlays", spec := "commitPlays", unfollowed := true, recurses := true, plainKeys := false, apart := false, narrowed := true }
def CommitPlaysUptoSaid : Prop := commitPlaysUptoRow.holds Try.pinned (OpenSpec.upto commitPlaysSpec)

/-- 'gussetlaw14.CommitOnce', WHERE WHAT IT READS IS OF BULK AT MOST 1048576: true; the input reads as it did. -/
def commitOnceUptoRow : OpenClaim := { program := "ytaobioleodfafaa", sum := "73f7e475baaabdb934f96f53f41efe735df8e53c7c76588fcb18e67b5b8f93c9", func := "gusset/gussetlaw14.CommitOnce", spec := "commitOnce", unfollowed := true, recurses := true, plainKeys := false, apart := false, narrowed := true }
def CommitOnceUptoSaid : Prop := commitOnceUptoRow.holds Try.pinned (OpenSpec.upto commitOnceSpec)

/-- 'gussetlaw14.CommitApart', WHERE WHAT IT READS IS OF BULK AT MOST 1048576: true; the input reads as it did. -/
def commitApartUptoRow : OpenClaim := { program := "ytaobioleodfafaa", sum := "73f7e475baaabdb934f96f53f41efe735df8e53c7c76588fcb18e67b5b8f93c9", func := "gusset/gussetlaw14.CommitApart", spec := "commitApart", unfollowed := true, recurses := true, plainKeys := false, apart := false, narrowed := true }
def CommitApartUptoSaid : Prop := commitApartUptoRow.holds Try.pinned (OpenSpec.upto commitApartSpec)

end Rows
end Go.Proofs.Ytaobioleodfafaa
