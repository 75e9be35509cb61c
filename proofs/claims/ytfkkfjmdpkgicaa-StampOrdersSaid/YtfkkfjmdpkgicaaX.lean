/- StampOrders: the order of two stamps; the last loop. -/
import Derived.Test.YtfkkfjmdpkgicaaW
import Derived.Test.YtfkkfjmdpkgicaaR
namespace Go.Proofs.Ytfkkfjmdpkgicaa
open Go.RowKit Go.Shelf
theorem cmpI_flip (x y : Int) : cmpI y x = - cmpI x y ∧ -1 ≤ cmpI x y ∧ cmpI x y ≤ 1 := by
  unfold cmpI
  by_cases h1 : x < y
  · have h2 : ¬ y < x := by omega
    simp [h1, h2]
  · by_cases h2 : y < x
    · simp [h1, h2]
    · simp [h1, h2]
theorem orI_flip (a b c d : Int) (ha : -1 ≤ a ∧ a ≤ 1) (hb : -1 ≤ b ∧ b ≤ 1) (hc : -1 ≤ c ∧ c ≤ 1) (hd : -1 ≤ d ∧ d ≤ 1) : orI (-a) (-b) (-c) (-d) = - orI a b c d ∧ -1 ≤ orI a b c d ∧ orI a b c d ≤ 1 := by
  unfold orI
  by_cases h1 : a = 0
  · by_cases h2 : b = 0
    · by_cases h3 : c = 0
      · simp [h1, h2, h3]; omega
      · have : ¬ -c = 0 := by omega
        simp [h1, h2, h3]; omega
    · have : ¬ -b = 0 := by omega
      simp [h1, h2]; omega
  · have : ¬ -a = 0 := by omega
    simp [h1]; omega
theorem ordS_all (x y : Sp) : decide (ordS x y < 0) = decide (eldS x y) ∧ decide (0 < ordS x y) = decide (eldS y x) ∧ ¬ ordS x y < -1 ∧ ¬ 1 < ordS x y ∧ (ordS x y == 0) = decide (x = y) := by
  have h1 := ordS_neg (x := x) (y := y)
  have h2 := ordS_neg (x := y) (y := x)
  have h3 : ordS y x = - ordS x y ∧ -1 ≤ ordS x y ∧ ordS x y ≤ 1 := by
    have a := cmpI_flip x.1 y.1
    have b := cmpI_flip x.2.1 y.2.1
    have c := cmpI_flip x.2.2.1 y.2.2.1
    have d := cmpI_flip x.2.2.2 y.2.2.2
    have h := orI_flip _ _ _ _ a.2 b.2 c.2 d.2
    unfold ordS
    rw [a.1, b.1, c.1, d.1]
    exact h
  have h4 : ordS x y = 0 ↔ x = y := by
    constructor
    · intro h
      exact eld_total (fun e => by have := h1.2 e; omega) (fun e => by have := h2.2 e; omega)
    · rintro rfl
      have : ¬ ordS x x < 0 := fun h => eld_irrefl x (h1.1 h)
      omega
  refine ⟨by simp only [h1], ?_, by omega, by omega, ?_⟩
  · have e : (0 < ordS x y) ↔ ordS y x < 0 := by omega
    simp only [e, h2]
  · by_cases e : x = y
    · rw [h4.2 e]; simp [e]
    · have : ¬ ordS x y = 0 := fun h => e (h4.1 h)
      rw [beq_eq_false_iff_ne.2 this]; simp [e]
end Go.Proofs.Ytfkkfjmdpkgicaa
