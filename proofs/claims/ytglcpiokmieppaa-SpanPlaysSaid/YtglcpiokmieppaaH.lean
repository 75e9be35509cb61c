/- The plain law of Drop and Add. -/
import Derived.Test.YtglcpiokmieppaaF
namespace Go.Proofs.Ytglcpiokmieppaa
open Go.RowKit

def Has (S : List Sp) (n : Int) : Prop := ∃ x ∈ S, x.1 ≤ n ∧ n ≤ x.2
theorem has_app (S T : List Sp) (n : Int) : Has (S ++ T) n ↔ Has S n ∨ Has T n := by
  simp only [Has, List.mem_append]
  constructor
  · rintro ⟨x, h | h, h2⟩
    · exact .inl ⟨x, h, h2⟩
    · exact .inr ⟨x, h, h2⟩
  · rintro (⟨x, h, h2⟩ | ⟨x, h, h2⟩)
    · exact ⟨x, .inl h, h2⟩
    · exact ⟨x, .inr h, h2⟩
theorem has_one (x : Sp) (n : Int) : Has [x] n ↔ x.1 ≤ n ∧ n ≤ x.2 := by simp [Has]
abbrev Apart (x y : Sp) : Prop := x.2 + 1 < y.1
theorem Good.pw {S : List Sp} (h : Good S) : S.Pairwise Apart := by
  rw [List.pairwise_iff_getElem]
  intro i j hi hj hij
  by_cases he : j = i + 1
  · subst he
    exact h.r i S[i] S[i + 1] (by simp [hi]) (by simp)
  · have h1 := h.r i S[i] S[i + 1] (by simp [hi]) (by simp)
    have h2 := h.lt (j - (i + 1 + 1)) (i + 1) S[i + 1] S[j] (by simp) (by rw [show i + 1 + 1 + (j - (i + 1 + 1)) = j by omega]; simp)
    have h3 := h.b S[i + 1] (List.getElem_mem _)
    simp only [Apart]
    omega
theorem Good.of {S : List Sp} (hb : ∀ x ∈ S, 0 ≤ x.1 ∧ x.1 ≤ x.2 ∧ x.2 ≤ 4294967295) (hp : S.Pairwise Apart) : Good S := by
  rw [List.pairwise_iff_getElem] at hp
  refine ⟨fun i x y hx hy => ?_, hb⟩
  obtain ⟨h1, e1⟩ := List.getElem?_eq_some_iff.1 hx
  obtain ⟨h2, e2⟩ := List.getElem?_eq_some_iff.1 hy
  have := hp i (i + 1) h1 h2 (by omega)
  rw [e1, e2] at this
  exact this
theorem Good.nil : Good [] := ⟨by simp, by simp⟩
theorem cut_split (S : List Sp) (a b : Int) : S = S.take (aft S a) ++ cutM S a b ++ S.drop (cutJ S a b) := by
  have h1 : cutM S a b ++ S.drop (cutJ S a b) = S.drop (aft S a) := by
    rw [cutJ, ← List.drop_drop]
    unfold cutM
    generalize S.drop (aft S a) = T
    have : ∀ (p : Sp → Bool) (T : List Sp), T.takeWhile p ++ T.drop (T.takeWhile p).length = T := by
      intro p T
      induction T with
      | nil => rfl
      | cons x T ih => by_cases h : p x = true <;> simp [List.takeWhile_cons, h, ih]
    exact this _ T
  rw [List.append_assoc, h1, List.take_append_drop]
structure CutFacts (S : List Sp) (a b : Int) (L M R : List Sp) : Prop where
  l : ∀ x ∈ L, x.2 < a
  m : ∀ x ∈ M, x.1 ≤ b ∧ a ≤ x.2
  r : ∀ x ∈ R, b < x.1
  e : S = L ++ M ++ R
theorem cut_facts {S : List Sp} (h : Good S) (a b : Int) (hab : a ≤ b) : CutFacts S a b (S.take (aft S a)) (cutM S a b) (S.drop (cutJ S a b)) := by
  have hi : ∀ x ∈ S.drop (aft S a), a ≤ x.2 := by
    intro x hx
    obtain ⟨k, hk, e⟩ := List.mem_iff_getElem.1 hx
    have h2 := (tw_step (fun x : Sp => decide (x.2 < a)) S (aft S a) (Nat.le_refl _)).1
    simp only [List.getElem_drop] at e
    simp at hk
    have h0 : aft S a < S.length := by omega
    have h3 := h2 S[aft S a] (by simp [h0])
    have h4 : ¬ (S[aft S a]'h0).2 < a := by
      intro hlt
      have h5 := h3.1 (by simpa using hlt)
      have h6 := (List.getElem?_eq_some_iff.1 h5).1
      unfold aft at h6
      omega
    rcases Nat.eq_zero_or_pos k with rfl | hk0
    · simp at e; subst e; omega
    · have h7 := h.rising (aft S a) (aft S a + k) S[aft S a] x (by omega) (by simp [h0]) (by rw [← e]; simp)
      omega
  refine ⟨fun x hx => ?_, fun x hx => ?_, fun x hx => ?_, cut_split S a b⟩
  · obtain ⟨k, hk, e⟩ := List.mem_iff_getElem.1 hx
    have hk' : k < aft S a := by simp at hk; omega
    have hk2 : k < (S.takeWhile fun x => decide (x.2 < a)).length := hk'
    have h3 := tw_get (fun x : Sp => decide (x.2 < a)) S k _ (by rw [List.getElem?_eq_getElem hk2])
    have h4 : (S.takeWhile fun x => decide (x.2 < a))[k] = x := by
      have h5 := h3.2
      rw [← e]
      simp only [List.getElem_take]
      obtain ⟨_, e5⟩ := List.getElem?_eq_some_iff.1 h5
      exact e5.symm
    rw [h4] at h3
    simpa using h3.1
  · obtain ⟨k, hk⟩ := List.mem_iff_getElem?.1 hx
    have h3 := tw_get _ _ k x hk
    exact ⟨by simpa using h3.1, hi x (List.mem_of_getElem? h3.2)⟩
  · obtain ⟨k, hk⟩ := List.mem_iff_getElem?.1 hx
    have hj := (tw_step (fun x : Sp => decide (x.1 ≤ b)) (S.drop (aft S a)) (cutM S a b).length (Nat.le_refl _)).1
    rw [List.getElem?_drop] at hk
    have hkl := (List.getElem?_eq_some_iff.1 hk).1
    have h0 : cutJ S a b < S.length := by omega
    have h3 := hj S[cutJ S a b] (by rw [List.getElem?_drop]; exact List.getElem?_eq_getElem h0)
    have h4 : b < (S[cutJ S a b]'h0).1 := by
      apply Classical.byContradiction
      intro hn
      have h5 := h3.1 (by simpa using hn)
      have h6 := (List.getElem?_eq_some_iff.1 h5).1
      unfold cutM at h6
      omega
    rcases Nat.eq_zero_or_pos k with rfl | hk0
    · obtain ⟨_, e⟩ := List.getElem?_eq_some_iff.1 hk
      simp at e; subst e; exact h4
    · have h7 := h.lt (k - 1) (cutJ S a b) S[cutJ S a b] x (by simp [h0]) (by rw [show cutJ S a b + 1 + (k - 1) = cutJ S a b + k by omega]; exact hk)
      have h8 := h.b S[cutJ S a b] (List.getElem_mem _)
      omega
def dropS (S : List Sp) (a b : Int) : List Sp := if b < a then S else S.take (aft S a) ++ (cutA (cutM S a b) a ++ cutB (cutM S a b) b) ++ S.drop (cutJ S a b)
theorem mem_cutA {M : List Sp} {a : Int} {y : Sp} : y ∈ cutA M a ↔ ∃ x ∈ M, x.1 < a ∧ y = (x.1, a - 1) := by
  simp only [cutA, List.mem_map, List.mem_filter, decide_eq_true_eq]
  constructor
  · rintro ⟨x, ⟨h1, h2⟩, h3⟩; exact ⟨x, h1, h2, h3.symm⟩
  · rintro ⟨x, h1, h2, h3⟩; exact ⟨x, ⟨h1, h2⟩, h3.symm⟩
theorem mem_cutB {M : List Sp} {b : Int} {y : Sp} : y ∈ cutB M b ↔ ∃ x ∈ M, b < x.2 ∧ y = (b + 1, x.2) := by
  simp only [cutB, List.mem_map, List.mem_filter, decide_eq_true_eq]
  constructor
  · rintro ⟨x, ⟨h1, h2⟩, h3⟩; exact ⟨x, h1, h2, h3.symm⟩
  · rintro ⟨x, h1, h2, h3⟩; exact ⟨x, ⟨h1, h2⟩, h3.symm⟩
theorem has_M_drop {M : List Sp} {a b : Int} (hm : ∀ x ∈ M, x.1 ≤ b ∧ a ≤ x.2) (n : Int) : Has (cutA M a ++ cutB M b) n ↔ Has M n ∧ ¬ (a ≤ n ∧ n ≤ b) := by
  rw [has_app]
  constructor
  · rintro (⟨y, hy, h1, h2⟩ | ⟨y, hy, h1, h2⟩)
    · obtain ⟨x, hx, hlt, rfl⟩ := mem_cutA.1 hy
      have := hm x hx
      simp only at h1 h2
      exact ⟨⟨x, hx, h1, by omega⟩, by omega⟩
    · obtain ⟨x, hx, hlt, rfl⟩ := mem_cutB.1 hy
      have := hm x hx
      simp only at h1 h2
      exact ⟨⟨x, hx, by omega, h2⟩, by omega⟩
  · rintro ⟨⟨x, hx, h1, h2⟩, h3⟩
    by_cases hn : n < a
    · exact .inl ⟨_, mem_cutA.2 ⟨x, hx, by omega, rfl⟩, h1, by simp only; omega⟩
    · exact .inr ⟨_, mem_cutB.2 ⟨x, hx, by omega, rfl⟩, by simp only; omega, h2⟩
theorem CutFacts.pw {S L M R : List Sp} {a b : Int} (h : Good S) (c : CutFacts S a b L M R) :
    L.Pairwise Apart ∧ M.Pairwise Apart ∧ R.Pairwise Apart ∧ (∀ x ∈ L, ∀ y ∈ M, Apart x y) ∧ (∀ x ∈ L, ∀ y ∈ R, Apart x y) ∧ (∀ x ∈ M, ∀ y ∈ R, Apart x y) := by
  have hp := h.pw
  rw [c.e, List.pairwise_append, List.pairwise_append] at hp
  obtain ⟨⟨h1, h2, h3⟩, h4, h5⟩ := hp
  exact ⟨h1, h2, h4, h3, fun x hx y hy => h5 x (List.mem_append.2 (.inl hx)) y hy, fun x hx y hy => h5 x (List.mem_append.2 (.inr hx)) y hy⟩
theorem CutFacts.bd {S L M R : List Sp} {a b : Int} (h : Good S) (c : CutFacts S a b L M R) (x : Sp) (hx : x ∈ L ∨ x ∈ M ∨ x ∈ R) : 0 ≤ x.1 ∧ x.1 ≤ x.2 ∧ x.2 ≤ 4294967295 := h.b x (by rw [c.e]; rw [List.mem_append, List.mem_append, or_assoc]; exact hx)
/-- of those that meet a span at most one begins ahead of it -/
theorem cutA_pw {S L M R : List Sp} {a b : Int} (h : Good S) (c : CutFacts S a b L M R) : (M.filter (fun x => decide (x.1 < a))).Pairwise (fun _ _ => False) := by
  have h2 := (c.pw h).2.1
  refine (List.Pairwise.filter _ h2).imp_of_mem (fun {x y} hx hy hxy => ?_)
  have h3 := c.m x (List.mem_filter.1 hx).1
  have h4 := (List.mem_filter.1 hy).2
  simp only [decide_eq_true_eq] at h4
  simp only [Apart] at hxy
  omega
theorem cutB_pw {S L M R : List Sp} {a b : Int} (h : Good S) (c : CutFacts S a b L M R) : (M.filter (fun x => decide (b < x.2))).Pairwise (fun _ _ => False) := by
  have h2 := (c.pw h).2.1
  refine (List.Pairwise.filter _ h2).imp_of_mem (fun {x y} hx hy hxy => ?_)
  have h3 := c.m y (List.mem_filter.1 hy).1
  have h4 := (List.mem_filter.1 hx).2
  simp only [decide_eq_true_eq] at h4
  simp only [Apart] at hxy
  omega
theorem drop_law {S : List Sp} (h : Good S) (a b : Int) (ha : 0 ≤ a) (hb : b ≤ 4294967295) : Good (dropS S a b) ∧ ∀ n, Has (dropS S a b) n ↔ Has S n ∧ ¬ (a ≤ n ∧ n ≤ b) := by
  unfold dropS
  by_cases hab : b < a
  · rw [if_pos hab]
    exact ⟨h, fun n => ⟨fun h => ⟨h, by omega⟩, fun h => h.1⟩⟩
  · rw [if_neg hab]
    have c := cut_facts h a b (by omega)
    have pA := cutA_pw h c
    have pB := cutB_pw h c
    have p := c.pw h
    have bd := c.bd h
    have hm := c.m
    have hl := c.l
    have hr := c.r
    have he := c.e
    generalize S.take (aft S a) = L at *
    generalize S.drop (cutJ S a b) = R at *
    generalize cutM S a b = M at *
    obtain ⟨p1, p2, p3, p4, p5, p6⟩ := p
    refine ⟨Good.of (fun y hy => ?_) ?_, fun n => ?_⟩
    · simp only [List.mem_append] at hy
      rcases hy with (hy | hy | hy) | hy
      · exact bd y (.inl hy)
      · obtain ⟨x, hx, hlt, rfl⟩ := mem_cutA.1 hy
        have := bd x (.inr (.inl hx)); have := hm x hx
        refine ⟨by simp only; omega, by simp only; omega, by simp only; omega⟩
      · obtain ⟨x, hx, hlt, rfl⟩ := mem_cutB.1 hy
        have := bd x (.inr (.inl hx)); have := hm x hx
        refine ⟨by simp only; omega, by simp only; omega, by simp only; omega⟩
      · exact bd y (.inr (.inr hy))
    · rw [List.pairwise_append, List.pairwise_append, List.pairwise_append]
      refine ⟨⟨p1, ⟨?_, ?_, fun x hx y hy => ?_⟩, fun x hx y hy => ?_⟩, p3, fun x hx y hy => ?_⟩
      · unfold cutA
        rw [List.pairwise_map]
        exact pA.imp (fun h => h.elim)
      · unfold cutB
        rw [List.pairwise_map]
        exact pB.imp (fun h => h.elim)
      · obtain ⟨x', hx', hlt, rfl⟩ := mem_cutA.1 hx
        obtain ⟨y', hy', hlt', rfl⟩ := mem_cutB.1 hy
        simp only [Apart]; omega
      · rcases List.mem_append.1 hy with hy | hy
        · obtain ⟨y', hy', hlt', rfl⟩ := mem_cutA.1 hy
          exact p4 x hx y' hy'
        · obtain ⟨y', hy', hlt', rfl⟩ := mem_cutB.1 hy
          have := hl x hx
          simp only [Apart]; omega
      · rcases List.mem_append.1 hx with hx | hx
        · exact p5 x hx y hy
        · rcases List.mem_append.1 hx with hx | hx
          · obtain ⟨x', hx', hlt', rfl⟩ := mem_cutA.1 hx
            have := hr y hy
            simp only [Apart]; omega
          · obtain ⟨x', hx', hlt', rfl⟩ := mem_cutB.1 hx
            exact p6 x' hx' y hy
    · rw [has_app, has_app, has_M_drop hm, he, has_app, has_app]
      constructor
      · rintro ((⟨x, hx, h1, h2⟩ | ⟨h1, h2⟩) | ⟨x, hx, h1, h2⟩)
        · exact ⟨.inl (.inl ⟨x, hx, h1, h2⟩), by have := hl x hx; omega⟩
        · exact ⟨.inl (.inr h1), h2⟩
        · exact ⟨.inr ⟨x, hx, h1, h2⟩, by have := hr x hx; omega⟩
      · rintro ⟨(h1 | h1) | h1, h2⟩
        · exact .inl (.inl h1)
        · exact .inl (.inr ⟨h1, h2⟩)
        · exact .inr h1
end Go.Proofs.Ytglcpiokmieppaa
