/- The sorted world: what is kept, what is held. -/
import Derived.Test.YtfkkfjmdpkgicaaJ
namespace Go.Proofs.Ytfkkfjmdpkgicaa
open Go.RowKit Go.Shelf
theorem kept_sort (w : World) (blk off n : Nat) (d : Array Sp) (os : Array Obj) : Kept (fun i => i = blk) w (sortWorldK encS 4 w blk off n d os) := by
  refine ⟨rfl, rfl, rfl, ?_, fun i hi hn => ?_⟩
  · simp [sortWorldK, Go.Sort.grow, Go.Sort.putRowK, Go.Sort.putRow, Go.Sort.ahead, Go.Sort.mapBlock]
  · simp only [sortWorldK, Go.Sort.grow, Go.Sort.putRowK, Go.Sort.putRow, Go.Sort.ahead, Go.Sort.mapBlock]
    rw [Array.getElem?_append_left (by simpa using hi), Array.getElem?_modify]
    simp [Ne.symm hn]
theorem holds_sort {w : World} {blk off : Nat} {d0 d : Array Sp} (n : Nat) (os : Array Obj) (hb : blk < w.heap.size) (h : Go.Sort.HoldsK encS 4 w blk off d0) (hs : d.size = d0.size) : Go.Sort.HoldsK encS 4 (sortWorldK encS 4 w blk off n d os) blk off d := by
  refine Go.Sort.holdsK_grow encS 4 _ os blk off d ?_ (Go.Sort.holdsK_putRowK encS 4 _ blk off d0 d (Go.Sort.holdsK_ahead encS 4 w n blk off d0 h) hs)
  simpa [Go.Sort.putRowK, Go.Sort.putRow, Go.Sort.ahead, Go.Sort.mapBlock] using hb
end Go.Proofs.Ytfkkfjmdpkgicaa
