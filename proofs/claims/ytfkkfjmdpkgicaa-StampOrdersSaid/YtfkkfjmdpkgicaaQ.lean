/- The plain law of StampEldest. -/
import Derived.Test.YtfkkfjmdpkgicaaP
namespace Go.Proofs.Ytfkkfjmdpkgicaa
def IsMin (m : Sp) (S : List Sp) : Prop := m ∈ S ∧ ∀ x ∈ S, ¬ eldS x m
theorem IsMin.unique {m m' : Sp} {S : List Sp} (h : IsMin m S) (h' : IsMin m' S) : m = m' := eld_total (h'.2 m h.1) (h.2 m' h'.1)
theorem minS_isMin (y : Sp) (L : List Sp) : IsMin (minS y L) (y :: L) :=
  ⟨by rcases minS_mem y L with h | h <;> simp [h], fun x hx => by
    rcases List.mem_cons.1 hx with rfl | hx
    · exact minS_le _ L
    · exact minS_all y L x hx⟩
theorem IsMin.app {m m' : Sp} {A B : List Sp} (h : IsMin m A) (h' : IsMin m' B) : IsMin (if eldS m' m then m' else m) (A ++ B) := by
  split
  · rename_i hlt
    refine ⟨List.mem_append_right _ h'.1, fun x hx => ?_⟩
    rcases List.mem_append.1 hx with hx | hx
    · intro hxm
      exact h.2 x hx (eld_trans hxm hlt)
    · exact h'.2 x hx
  · rename_i hnl
    refine ⟨List.mem_append_left _ h.1, fun x hx => ?_⟩
    rcases List.mem_append.1 hx with hx | hx
    · exact h.2 x hx
    · exact eld_ntrans (h'.2 x hx) hnl
theorem sortS_up (L : List Sp) : (sortS L).Pairwise fun x y => (!(ltOf ordS) y x) = true :=
  List.pairwise_mergeSort (le := fun x y => !(ltOf ordS) y x) (fun a b c h1 h2 => by
    rw [ltOf_ordS] at *
    simp only [Bool.not_eq_true', decide_eq_false_iff_not] at *
    exact eld_ntrans h2 h1) (fun a b => by
    rw [ltOf_ordS, ltOf_ordS]
    simp only [Bool.or_eq_true, Bool.not_eq_true', decide_eq_false_iff_not]
    by_cases h : eldS b a
    · right
      intro h2
      exact eld_irrefl a (eld_trans h2 h)
    · exact .inl h) L
theorem sortS_perm (L : List Sp) : (sortS L).Perm L := List.mergeSort_perm _ _
theorem sortS_sortS (L : List Sp) : sortS (sortS L) = sortS L := List.mergeSort_of_pairwise (sortS_up L)
theorem sortS_head {L : List Sp} {x : Sp} {r : List Sp} (h : sortS L = x :: r) : IsMin x L := by
  have hu := sortS_up L
  have hp := sortS_perm L
  rw [h] at hu hp
  refine ⟨hp.mem_iff.1 (by simp), fun y hy => ?_⟩
  rcases List.mem_cons.1 (hp.mem_iff.2 hy) with rfl | hy
  · exact eld_irrefl _
  · have h1 := (List.pairwise_cons.1 hu).1 y hy
    rw [ltOf_ordS] at h1
    simpa using h1
end Go.Proofs.Ytfkkfjmdpkgicaa
