/- What BagPlays does behind its loop: all messages are asked for, turned over, and asked for anew. -/
import Derived.Test.YtoefffnodamocaaM
import Derived.Test.YtoefffnodamocaaReg
namespace Go.Proofs.Ytoefffnodamocaa
open Go.RowKit

theorem same_yes {w : World} {va vb : Value} {l : List (List Int)} (ha : Bls w va l) (hb : Bls w vb l) :
    Calls Try.prog 15 #[va, vb] w fun e w' => e = .returned (.bool true) ∧ Kept (fun _ => False) w w' :=
  (same_lists ha hb).mono fun e w' ⟨h1, h2⟩ => ⟨by rw [h1]; simp, h2⟩

/-- a list of rows of bytes, each of its own -/
def Rws (w : World) (v : Value) (L : List (List Int)) (ps : List Value) : Prop :=
  Own w 22 1 v L.length ps ∧ ∀ (i : Nat) (p : Value) (l : List Int), ps[i]? = some p → L[i]? = some l → ∃ ys, Own w 5 1 p l.length (u8s ys)
theorem Rws.set {w : World} {v : Value} {L : List (List Int)} {ps : List Value} (h : Rws w v L ps) {g : Nat} {cur : Array Value} (hg : w.heap[g]? = some (.cells cur 5 (0, 0))) (k : Nat) (z : Int) : Rws (w.setCell ⟨g, k, none⟩ (.int .u8 z)) v L ps := by
  refine ⟨h.1.of_block fun g' hg' => Below.heap_setCell _ _ _ _ fun e => ?_, fun i p l hp hl => ?_⟩
  · obtain ⟨c, e'⟩ := h.1.block hg'
    simp only at e
    rw [e, hg] at e'
    simp at e'
  · obtain ⟨ys, ho⟩ := h.2 i p l hp hl
    by_cases hb : p.ownBlock = some g
    · exact ⟨ys.set k z, by rw [u8s_set]; exact ho.set hb k _⟩
    · refine ⟨ys, ho.of_block fun g' hg' => Below.heap_setCell _ _ _ _ fun e => ?_⟩
      simp only at e
      rw [e] at hg'
      exact hb hg'
theorem Rws.kept {w w' : World} {v : Value} {L : List (List Int)} {ps : List Value} (h : Rws w v L ps) (k : Kept (fun _ => False) w w') : Rws w' v L ps :=
  ⟨h.1.kept k (fun _ _ => id), fun i p l hp hl => let ⟨ys, ho⟩ := h.2 i p l hp hl; ⟨ys, ho.kept k (fun _ _ => id)⟩⟩

theorem bls_kept {w w' : World} {v : Value} {L : List (List Int)} (h : Bls w v L) (k : Kept (fun _ => False) w w') : Bls w' v L := by
  obtain ⟨ao, c, h1, h2, h3, h4⟩ := h
  refine ⟨ao, c, h1, h2, h3, fun j l hl => ?_⟩
  obtain ⟨b, off, p, q1, q2, q3⟩ := h4 j l hl
  refine ⟨b, off, p, q1, k.cell q2 id, ?_⟩
  exact q3.kept k (fun _ _ => id)

theorem Tw.tlt {B : Nat} {w : World} {bb xb : Nat} {L M : List (List Int)} {F G : Nat → Prop} (h : Tw B w bb xb L M F G) : (∀ g, w.heap.size ≤ g → ¬ F g) ∧ (∀ g, w.heap.size ≤ g → ¬ G g) :=
  ⟨fun g hg hF => by have := (h.fl g hF).2; omega, fun g hg hF => by have := (h.gl g hF).2; omega⟩

end Go.Proofs.Ytoefffnodamocaa
