/-
  No cell of these rows narrows 'for every input' (looked for: loops, veiled, ifaces, maps, wideKeys, modest, calm, conditions, laid).
  DERIVED. THE GIVEN ROWS OF THIS SEAT. 6 by the template 'for every input the law returns true; each argument reads behind the call as it read before'; 0 by the template 'total and deterministic' (their statements: YtpjhdpfaogdboaaTotals.lean).
  GIVEN WITH THE SEED: the statements are not yours to turn. If you find one false, say at which input.
  Laid BY PROGRAM, IN A SANDBOX (cutbox-rows.mjs): the forced cells as the released guide's own fill.sh prints them over the translation 17b77b6a94322687… (all of the seat's roots in one cut). By AI agents, Wed Nov 11 2026. No macro, syntax, notation, axiom, sorry.
-/
import Derived.Test.YtpjhdpfaogdboaaChecked
import GoSem.Claim
import GoSem.ClaimJoined
import GoSem.ClaimMapViews
import Derived.JoinedTies
import Derived.KernelRfl
namespace Go.Proofs.Ytpjhdpfaogdboaa
/- THE CELL 'sum', in the pinned program and in every row, IS THE sha256 OF THE DUMP (.gsa) THAT YtpjhdpfaogdboaaProg.lean LOADS. Nothing in Lean hashes anything: it is a label: what it is worth is what the hold of that sum in a sandbox is worth. -/
noncomputable def Try.pinned : Pinned := { name := "ytpjhdpfaogdboaa", sum := "17b77b6a9432268731af69fd3da21d9db04ddc608d798fbfef0dced55da892f1", checked := Try.checked }
namespace Rows
def none {H : Type} : Left H := { results := [], args := [] }

/-- 'gussetlaw13.LockShares': WHATEVER THE INPUT: true; the input reads as it did. -/
def lockSharesSpec : ChangeSpec := { name := "lockShares", fn := fun _ => fun
  | [d1, d2, d3] => { results := [.lit (.bool true)], args := [d1, d2, d3] }
  | _ => none }
def lockSharesRow : OpenClaim := { program := "ytpjhdpfaogdboaa", sum := "17b77b6a9432268731af69fd3da21d9db04ddc608d798fbfef0dced55da892f1", func := "gusset/gussetlaw13.LockShares", spec := "lockShares", unfollowed := true, recurses := true, plainKeys := false, apart := false }
def LockSharesSaid : Prop := lockSharesRow.holds Try.pinned (OpenSpec.ofChange lockSharesSpec)

/-- ITS FALSE NEIGHBOUR: 'it returns false'. Refute it at one input. -/
def lockSharesWrong : ChangeSpec := { name := "lockShares", fn := fun _ => fun
  | [d1, d2, d3] => { results := [.lit (.bool false)], args := [d1, d2, d3] }
  | _ => none }
def LockSharesWrongFalsely : Prop := lockSharesRow.holds Try.pinned (OpenSpec.ofChange lockSharesWrong)

/-- 'gussetlaw13.LockMoves': WHATEVER THE INPUT: true; the input reads as it did. -/
def lockMovesSpec : ChangeSpec := { name := "lockMoves", fn := fun _ => fun
  | [d] => { results := [.lit (.bool true)], args := [d] }
  | _ => none }
def lockMovesRow : OpenClaim := { program := "ytpjhdpfaogdboaa", sum := "17b77b6a9432268731af69fd3da21d9db04ddc608d798fbfef0dced55da892f1", func := "gusset/gussetlaw13.LockMoves", spec := "lockMoves", unfollowed := true, recurses := true, plainKeys := false, apart := false }
def LockMovesSaid : Prop := lockMovesRow.holds Try.pinned (OpenSpec.ofChange lockMovesSpec)

/-- ITS FALSE NEIGHBOUR: 'it returns false'. Refute it at one input. -/
def lockMovesWrong : ChangeSpec := { name := "lockMoves", fn := fun _ => fun
  | [d] => { results := [.lit (.bool false)], args := [d] }
  | _ => none }
def LockMovesWrongFalsely : Prop := lockMovesRow.holds Try.pinned (OpenSpec.ofChange lockMovesWrong)

/-- 'gussetlaw13.LockOldest': WHATEVER THE INPUT: true; the input reads as it did. -/
def lockOldestSpec : ChangeSpec := { name := "lockOldest", fn := fun _ => fun
  | [d1, d2] => { results := [.lit (.bool true)], args := [d1, d2] }
  | _ => none }
def lockOldestRow : OpenClaim := { program := "ytpjhdpfaogdboaa", sum := "17b77b6a9432268731af69fd3da21d9db04ddc608d798fbfef0dced55da892f1", func := "gusset/gussetlaw13.LockOldest", spec := "lockOldest", unfollowed := true, recurses := true, plainKeys := false, apart := false }
def LockOldestSaid : Prop := lockOldestRow.holds Try.pinned (OpenSpec.ofChange lockOldestSpec)

/-- ITS FALSE NEIGHBOUR: 'it returns false'. Refute it at one input. -/
def lockOldestWrong : ChangeSpec := { name := "lockOldest", fn := fun _ => fun
  | [d1, d2] => { results := [.lit (.bool false)], args := [d1, d2] }
  | _ => none }
def LockOldestWrongFalsely : Prop := lockOldestRow.holds Try.pinned (OpenSpec.ofChange lockOldestWrong)

/-- 'gussetlaw13.LockApart': WHATEVER THE INPUT: true; the input reads as it did. -/
def lockApartSpec : ChangeSpec := { name := "lockApart", fn := fun _ => fun
  | [d] => { results := [.lit (.bool true)], args := [d] }
  | _ => none }
def lockApartRow : OpenClaim := { program := "ytpjhdpfaogdboaa", sum := "17b77b6a9432268731af69fd3da21d9db04ddc608d798fbfef0dced55da892f1", func := "gusset/gussetlaw13.LockApart", spec := "lockApart", unfollowed := true, recurses := true, plainKeys := false, apart := false }
def LockApartSaid : Prop := lockApartRow.holds Try.pinned (OpenSpec.ofChange lockApartSpec)

/-- ITS FALSE NEIGHBOUR: 'it returns false'. Refute it at one input. -/
def lockApartWrong : ChangeSpec := { name := "lockApart", fn := fun _ => fun
  | [d] => { results := [.lit (.bool false)], args := [d] }
  | _ => none }
def LockApartWrongFalsely : Prop := lockApartRow.holds Try.pinned (OpenSpec.ofChange lockApartWrong)

/-- 'gussetlaw13.LockFast': WHATEVER THE INPUT: true; the input reads as it did. -/
def lockFastSpec : ChangeSpec := { name := "lockFast", fn := fun _ => fun
  | [d1, d2, d3] => { results := [.lit (.bool true)], args := [d1, d2, d3] }
  | _ => none }
def lockFastRow : OpenClaim := { program := "ytpjhdpfaogdboaa", sum := "17b77b6a9432268731af69fd3da21d9db04ddc608d798fbfef0dced55da892f1", func := "gusset/gussetlaw13.LockFast", spec := "lockFast", unfollowed := true, recurses := true, plainKeys := false, apart := false }
def LockFastSaid : Prop := lockFastRow.holds Try.pinned (OpenSpec.ofChange lockFastSpec)

/-- ITS FALSE NEIGHBOUR: 'it returns false'. Refute it at one input. -/
def lockFastWrong : ChangeSpec := { name := "lockFast", fn := fun _ => fun
  | [d1, d2, d3] => { results := [.lit (.bool false)], args := [d1, d2, d3] }
  | _ => none }
def LockFastWrongFalsely : Prop := lockFastRow.holds Try.pinned (OpenSpec.ofChange lockFastWrong)

/-- 'gussetlaw13.LockPlays': WHATEVER THE INPUT: true; the input reads as it did. -/
def lockPlaysSpec : ChangeSpec := { name := "lockPlays", fn := fun _ => fun
  | [d] => { results := [.lit (.bool true)], args := [d] }
  | _ => none }
def lockPlaysRow : OpenClaim := { program := "ytpjhdpfaogdboaa", sum := "17b77b6a9432268731af69fd3da21d9db04ddc608d798fbfef0dced55da892f1", func := "gusset/gussetlaw13.LockPlays", spec := "lockPlays", unfollowed := true, recurses := true, plainKeys := false, apart := false }
def LockPlaysSaid : Prop := lockPlaysRow.holds Try.pinned (OpenSpec.ofChange lockPlaysSpec)

/-- ITS FALSE NEIGHBOUR: 'it returns false'. Refute it at one input. -/
def lockPlaysWrong : ChangeSpec := { name := "lockPlays", fn := fun _ => fun
  | [d] => { results := [.lit (.bool false)], args := [d] }
  | _ => none }
def LockPlaysWrongFalsely : Prop := lockPlaysRow.holds Try.pinned (OpenSpec.ofChange lockPlaysWrong)

/- THE SECOND FORM. 'bulk': how many values and letters a reading holds, each counted each time it is reached (what is shared counts as often as it is met; a slice's spare places count too). A statement '..UptoSaid' is the law's where the arguments, and the package variables that the reading takes, are together of bulk at most 1048576: NARROWER than '..Said'. Prove '..Said' where nothing that the law and all that it calls make is longer than what came in: it says more and counts as full. Else prove '..UptoSaid'. A law counts once. -/
mutual
def uptoBulk {H : Type} : DataW H → Nat
  | .lit (.string bytes) => bytes.length + 1
  | .lit _ => 1
  | .nil => 1
  | .ptr d => uptoBulk d + 1
  | .slice elems spare => uptoBulkAll elems + uptoBulkAll spare + 1
  | .agg parts => uptoBulkAll parts + 1
  | .iface _ d => uptoBulk d + 1
  | .map entries => uptoBulkEntries entries + 1
  | .held _ => 1
def uptoBulkAll {H : Type} : List (DataW H) → Nat
  | [] => 0
  | d :: r => uptoBulk d + uptoBulkAll r
def uptoBulkEntries {H : Type} : List (Lit × DataW H) → Nat
  | [] => 0
  | x :: r => uptoBulkEntry x + uptoBulkEntries r
def uptoBulkEntry {H : Type} : Lit × DataW H → Nat
  | (.string bytes, d) => bytes.length + uptoBulk d + 1
  | (_, d) => uptoBulk d + 1
 end
def uptoSmall : (H : Type) → List (DataW H) → Bool := fun _ ds => decide (uptoBulkAll ds ≤ 1048576)
def OpenSpec.upto (s : _root_.Go.ChangeSpec) : _root_.Go.OpenSpec := { _root_.Go.OpenSpec.ofChange s with cond := some uptoSmall }

/-- 'gussetlaw13.LockShares', WHERE WHAT IT READS IS OF BULK AT MOST 1048576: true; the input reads as it did. -/
def lockSharesUptoRow : OpenClaim := { program := "ytpjhdpfaogdboaa", sum := "17b77b6a9432268731af69fd3da21d9db04ddc608d798fbfef0dced55da892f1", func := "gusset/gussetlaw13.LockShares", spec := "lockShares", unfollowed := true, recurses := true, plainKeys := false, apart := false, narrowed := true }
def LockSharesUptoSaid : Prop := lockSharesUptoRow.holds Try.pinned (OpenSpec.upto lockSharesSpec)

/-- 'gussetlaw13.LockMoves', WHERE WHAT IT READS IS OF BULK AT MOST 1048576: true; the input reads as it did. -/
def lockMovesUptoRow : OpenClaim := { program := "ytpjhdpfaogdboaa", sum := "17b77b6a9432268731af69fd3da21d9db04ddc608d798fbfef0dced55da892f1", func := "gusset/gussetlaw13.LockMoves", spec := "lockMoves", unfollowed := true, recurses := true, plainKeys := false, apart := false, narrowed := true }
def LockMovesUptoSaid : Prop := lockMovesUptoRow.holds Try.pinned (OpenSpec.upto lockMovesSpec)

/-- 'gussetlaw13.LockOldest', WHERE WHAT IT READS IS OF BULK AT MOST 1048576: true; the input reads as it did. -/
def lockOldestUptoRow : OpenClaim := { program := "ytpjhdpfaogdboaa", sum := "17b77b6a9432268731af69fd3da21d9db04ddc608d798fbfef0dced55da892f1", func := "gusset/gussetlaw13.LockOldest", spec := "lockOldest", unfollowed := true, recurses := true, plainKeys := false, apart := false, narrowed := true }
def LockOldestUptoSaid : Prop := lockOldestUptoRow.holds Try.pinned (OpenSpec.upto lockOldestSpec)

/-- 'gussetlaw13.LockApart', WHERE WHAT IT READS IS OF BULK AT MOST 1048576: true; the input reads as it did. -/
def lockApartUptoRow : OpenClaim := { program := "ytpjhdpfaogdboaa", sum := "17b77b6a9432268731af69fd3da21d9db04ddc608d798fbfef0dced55da892f1", func := "gusset/gussetlaw13.LockApart", spec := "lockApart", unfollowed := true, recurses := true, plainKeys := false, apart := false, narrowed := true }
def LockApartUptoSaid : Prop := lockApartUptoRow.holds Try.pinned (OpenSpec.upto lockApartSpec)

/-- 'gussetlaw13.LockFast', WHERE WHAT IT READS IS OF BULK AT MOST 1048576: true; the input reads as it did. -/
def lockFastUptoRow : OpenClaim := { program := "ytpjhdpfaogdboaa", sum := "17b77b6a9432268731af69fd3da21d9db04ddc608d798fbfef0dced55da892f1", func := "gusset/gussetlaw13.LockFast", spec := "lockFast", unfollowed := true, recurses := true, plainKeys := false, apart := false, narrowed := true }
def LockFastUptoSaid : Prop := lockFastUptoRow.holds Try.pinned (OpenSpec.upto lockFastSpec)

/-- 'gussetlaw13.LockPlays', WHERE WHAT IT READS IS OF BULK AT MOST 1048576: true; the input reads as it did. -/
def lockPlaysUptoRow : OpenClaim := { program := "ytpjhdpfaogdboaa", sum := "17b77b6a9432268731af69fd3da21d9db04ddc608d798fbfef0dced55da892f1", func := "gusset/gussetlaw13.LockPlays", spec := "lockPlays", unfollowed := true, recurses := true, plainKeys := false, apart := false, narrowed := true }
def LockPlaysUptoSaid : Prop := lockPlaysUptoRow.holds Try.pinned (OpenSpec.upto lockPlaysSpec)

end Rows
end Go.Proofs.Ytpjhdpfaogdboaa
