/- Values: the order is one. -/
import Derived.Test.YtnicaiofjficnaaDoorA
namespace Go.Proofs.YtnicaiofjficnaaDoor
open Go.RowKit
theorem cmpS_flip (a b : ByteArray) : cmpS b a = - cmpS a b ∧ -1 ≤ cmpS a b ∧ cmpS a b ≤ 1 ∧ (cmpS a b = 0 ↔ a = b) := by
  rcases cmpL_spec a.data.toList b.data.toList with ⟨_, h2, _, h4, h5⟩ | ⟨_, h2, _, h4, h5⟩ | ⟨h1, h2, _⟩
  · have hne : a ≠ b := fun h => h5 (by rw [h])
    simp only [cmpS, h2, h4]; simp [hne]
  · have hne : a ≠ b := fun h => h5 (by rw [h])
    simp only [cmpS, h2, h4]; simp [hne]
  · have := toList_inj h1
    subst this
    simp only [cmpS, h2]; simp
theorem cmpS_neg (a b : ByteArray) : cmpS a b = -1 ↔ lessL a.data.toList b.data.toList = true := by
  rcases cmpL_spec a.data.toList b.data.toList with ⟨h1, h2, _⟩ | ⟨_, h2, h3, _⟩ | ⟨_, h2, h3⟩
  · simp [cmpS, h1, h2]
  · simp [cmpS, h2, h3]
  · simp [cmpS, h2, h3]
theorem cmpS_trans {a b c : ByteArray} (h1 : cmpS a b ≤ 0) (h2 : cmpS b c ≤ 0) : cmpS a c ≤ 0 ∧ (cmpS a c < 0 ∨ cmpS a b = 0 ∧ cmpS b c = 0) := by
  have fa := cmpS_flip a b; have fb := cmpS_flip b c
  by_cases e1 : cmpS a b = 0
  · have := fa.2.2.2.1 e1; subst this
    refine ⟨h2, ?_⟩
    by_cases e2 : cmpS a c = 0
    · exact .inr ⟨e1, e2⟩
    · exact .inl (by omega)
  · by_cases e2 : cmpS b c = 0
    · have := fb.2.2.2.1 e2; subst this
      exact ⟨h1, .inl (by omega)⟩
    · have l1 := (cmpS_neg a b).1 (by omega)
      have l2 := (cmpS_neg b c).1 (by omega)
      have := (cmpS_neg a c).2 (lessL_trans l1 l2)
      omega
theorem cmpI_spec (x y : Int) : cmpI y x = - cmpI x y ∧ -1 ≤ cmpI x y ∧ cmpI x y ≤ 1 ∧ (cmpI x y = 0 ↔ x = y) ∧ (cmpI x y < 0 ↔ x < y) := by
  unfold cmpI
  by_cases h1 : x < y
  · have h2 : ¬ y < x := by omega
    simp [h1, h2]; omega
  · by_cases h2 : y < x
    · simp [h1, h2]; omega
    · simp [h1, h2]; omega
theorem cmpV_flip (a b : Vv) : cmpV b a = - cmpV a b ∧ -1 ≤ cmpV a b ∧ cmpV a b ≤ 1 ∧ (cmpV a b = 0 ↔ a = b) := by
  obtain ⟨k1, n1, s1⟩ := a
  obtain ⟨k2, n2, s2⟩ := b
  have f1 := cmpI_spec k1 k2; have f2 := cmpI_spec n1 n2; have f3 := cmpS_flip s1 s2
  simp only [cmpV, f1.1, f2.1, f3.1, or3, Prod.mk.injEq]
  obtain ⟨x, hx⟩ : ∃ x, cmpI k1 k2 = x := ⟨_, rfl⟩
  obtain ⟨y, hy⟩ : ∃ x, cmpI n1 n2 = x := ⟨_, rfl⟩
  obtain ⟨z, hz⟩ : ∃ x, cmpS s1 s2 = x := ⟨_, rfl⟩
  rw [hx] at f1 ⊢
  rw [hy] at f2 ⊢
  rw [hz] at f3 ⊢
  by_cases e1 : x = 0
  · have := f1.2.2.2.1.1 e1; subst this
    subst e1
    by_cases e2 : y = 0
    · have := f2.2.2.2.1.1 e2; subst this
      subst e2
      simp; exact ⟨f3.2.1, f3.2.2.1, f3.2.2.2⟩
    · have h1 : ¬ n1 = n2 := fun h => e2 (f2.2.2.2.1.2 h)
      simp [e2, h1]; omega
  · have h1 : ¬ k1 = k2 := fun h => e1 (f1.2.2.2.1.2 h)
    simp [e1, h1]; omega
theorem cmpV_trans {a b c : Vv} (h1 : cmpV a b ≤ 0) (h2 : cmpV b c ≤ 0) : cmpV a c ≤ 0 ∧ (cmpV a c < 0 ∨ cmpV a b = 0 ∧ cmpV b c = 0) := by
  obtain ⟨k1, n1, s1⟩ := a
  obtain ⟨k2, n2, s2⟩ := b
  obtain ⟨k3, n3, s3⟩ := c
  simp only [cmpV, or3] at *
  have a1 := cmpI_spec k1 k2; have a2 := cmpI_spec k2 k3; have a3 := cmpI_spec k1 k3
  have b1 := cmpI_spec n1 n2; have b2 := cmpI_spec n2 n3; have b3 := cmpI_spec n1 n3
  by_cases e1 : cmpI k1 k2 = 0
  · have := a1.2.2.2.1.1 e1; subst this
    simp only [e1, ne_eq, not_true_eq_false, if_false] at h1 ⊢
    by_cases e2 : cmpI k1 k3 = 0
    · simp only [e2, ne_eq, not_true_eq_false, if_false] at h2 ⊢
      by_cases e3 : cmpI n1 n2 = 0
      · have := b1.2.2.2.1.1 e3; subst this
        simp only [e3, ne_eq, not_true_eq_false, if_false] at h1 ⊢
        by_cases e4 : cmpI n1 n3 = 0
        · simp only [e4, ne_eq, not_true_eq_false, if_false] at h2 ⊢
          exact cmpS_trans h1 h2
        · simp only [ne_eq, e4, not_false_eq_true, if_true] at h2 ⊢
          omega
      · simp only [ne_eq, e3, not_false_eq_true, if_true] at h1 ⊢
        by_cases e4 : cmpI n2 n3 = 0
        · have := b2.2.2.2.1.1 e4; subst this
          simp only [ne_eq, e3, not_false_eq_true, if_true]
          omega
        · simp only [ne_eq, e4, not_false_eq_true, if_true] at h2 ⊢
          have l1 := b1.2.2.2.2.1 (by omega)
          have l2 := b2.2.2.2.2.1 (by omega)
          have l3 := b3.2.2.2.2.2 (by omega)
          have : ¬ cmpI n1 n3 = 0 := by omega
          simp only [this, not_false_eq_true, if_true]
          omega
    · simp only [ne_eq, e2, not_false_eq_true, if_true] at h2 ⊢
      omega
  · simp only [ne_eq, e1, not_false_eq_true, if_true] at h1 ⊢
    by_cases e2 : cmpI k2 k3 = 0
    · have := a2.2.2.2.1.1 e2; subst this
      simp only [ne_eq, e1, not_false_eq_true, if_true]
      omega
    · simp only [ne_eq, e2, not_false_eq_true, if_true] at h2 ⊢
      have l1 := a1.2.2.2.2.1 (by omega)
      have l2 := a2.2.2.2.2.1 (by omega)
      have l3 := a3.2.2.2.2.2 (by omega)
      have : ¬ cmpI k1 k3 = 0 := by omega
      simp only [this, not_false_eq_true, if_true]
      omega
end Go.Proofs.YtnicaiofjficnaaDoor
