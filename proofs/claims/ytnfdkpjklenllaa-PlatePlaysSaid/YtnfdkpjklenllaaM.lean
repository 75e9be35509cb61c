/- Plain facts on pages; what a cut-off list of bytes is. -/
import Derived.Test.YtnfdkpjklenllaaK
namespace Go.Proofs.Ytnfdkpjklenllaa
open Go.RowKit

theorem calm_some (ops : List OpD) : Calm (someS ops) 61 := by
  have h := (calm_fold (ops.take 30) calm_new).mono (m := 60) (by simp; omega)
  exact h.tick.flushed
theorem some_since (ops : List OpD) : (someS ops).since = [] := rfl
theorem page_nil {S : Plt} (h : S.since = []) (j : Int) : S.page j = S.last j := by rw [Plt.page, h]; rfl
theorem page_flushed (S : Plt) (j : Int) : S.flushed.page j = S.page j := rfl
/-- the first 64 bytes of a slice: what Go's o.B[:min(len(o.B), 64)] is -/
structure Cut (w : World) (bo : Option Addr) (bc : Nat) (l l' : List Int) : Prop where
  len : l'.length = min 64 l.length
  le : l'.length ≤ l.length
  cap : l'.length ≤ bc
  mi : (if (64 : Int) < (l.length : Int) then 64 else (l.length : Int)) = (l'.length : Int)
  byt : Byt w (.slice bo l'.length bc) l'
  b1 : l.length ≤ 9223372036854775807
  b2 : bc ≤ 9223372036854775807
  eq : l.take 64 = l'
theorem cut_of {w : World} {bo : Option Addr} {bc : Nat} {l : List Int} (h : Byt w (.slice bo l.length bc) l) : ∃ l', Cut w bo bc l l' := by
  have h0 := h
  obtain ⟨_, _, e, ⟨q, q'⟩, _⟩ := h0
  simp only [Value.slice.injEq] at e
  obtain ⟨_, _, rfl⟩ := e
  unfold maxLen at q'
  have hll : (l.take 64).length = min 64 l.length := by simp
  refine ⟨l.take 64, hll, by omega, by omega, by split <;> omega, ?_, by omega, by omega, rfl⟩
  have := h.take (l.take 64).length (by omega)
  rw [show l.take (l.take 64).length = l.take 64 from by simp] at this
  exact this
theorem eight {i j : Int} (hj : j = i % 8) : 0 ≤ j ∧ j < 8 ∧ (IntKind.u64.wrap i).tmod 8 = j ∧ IntKind.u64.wrap j = j ∧ IntKind.i64.wrap j = j := by
  subst hj
  refine ⟨by omega, by omega, ?_, ?_, IntWalk.i64_in _ (by omega)⟩
  · rw [Int.tmod_eq_emod_of_nonneg (by simp [IntKind.wrap, IntKind.signed, IntKind.bits] <;> omega)]
    simp [IntKind.wrap, IntKind.signed, IntKind.bits]
  · simp [IntKind.wrap, IntKind.signed, IntKind.bits]; omega
end Go.Proofs.Ytnfdkpjklenllaa
