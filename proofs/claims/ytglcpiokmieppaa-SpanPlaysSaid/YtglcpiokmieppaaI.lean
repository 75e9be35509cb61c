/- The plain law of Add; two sets with the same numbers are one list; counting. -/
import Derived.Test.YtglcpiokmieppaaH
namespace Go.Proofs.Ytglcpiokmieppaa
open Go.RowKit

def addX1 (M : List Sp) (a : Int) : Int := (cutA M a).foldl (fun _ y => y.1) a
def addX2 (M : List Sp) (b : Int) : Int := (cutB M b).foldl (fun _ y => y.2) b
def rightX (R : List Sp) (x2 : Int) : Int := match R with | [] => x2 | y :: _ => if x2 ≠ 4294967295 ∧ y.1 = x2 + 1 then y.2 else x2
def rightL (R : List Sp) (x2 : Int) : List Sp := match R with | [] => [] | y :: R' => if x2 ≠ 4294967295 ∧ y.1 = x2 + 1 then R' else y :: R'
def leftX (L : List Sp) (x1 : Int) : Int := match L.getLast? with | none => x1 | some y => if x1 ≠ 0 ∧ y.2 = x1 - 1 then y.1 else x1
def leftL (L : List Sp) (x1 : Int) : List Sp := match L.getLast? with | none => [] | some y => if x1 ≠ 0 ∧ y.2 = x1 - 1 then L.dropLast else L
def addLR (L M R : List Sp) (a b : Int) : List Sp := leftL L (addX1 M a) ++ [(leftX L (addX1 M a), rightX R (addX2 M b))] ++ rightL R (addX2 M b)
def addS (S : List Sp) (a b : Int) : List Sp := if b < a then S else addLR (S.take (aft S a)) (cutM S a b) (S.drop (cutJ S a b)) a b
theorem foldl_last {α : Type} (f : Sp → α) : ∀ (l : List Sp) (z : α), l.foldl (fun _ y => f y) z = (l.getLast?.map f).getD z
  | [], z => rfl
  | [x], z => rfl
  | x :: y :: l, z => by
    have := foldl_last f (y :: l) (f x)
    rw [List.foldl_cons, this, List.getLast?_cons_cons]
    cases h : (y :: l).getLast? with
    | none => simp at h
    | some u => rfl
/-- what lies between: [x1, x2] with lists at both sides -/
structure Mid (L : List Sp) (x1 x2 : Int) (R : List Sp) : Prop where
  pl : L.Pairwise Apart
  pr : R.Pairwise Apart
  lr : ∀ x ∈ L, ∀ y ∈ R, Apart x y
  bl : ∀ x ∈ L, 0 ≤ x.1 ∧ x.1 ≤ x.2 ∧ x.2 ≤ 4294967295
  br : ∀ x ∈ R, 0 ≤ x.1 ∧ x.1 ≤ x.2 ∧ x.2 ≤ 4294967295
  b : 0 ≤ x1 ∧ x1 ≤ x2 ∧ x2 ≤ 4294967295
  l : ∀ y ∈ L, y.2 < x1
  r : ∀ y ∈ R, x2 < y.1
theorem Mid.right {L R : List Sp} {x1 x2 : Int} (h : Mid L x1 x2 R) : Mid L x1 (rightX R x2) (rightL R x2) ∧ (∀ y ∈ rightL R x2, rightX R x2 + 1 < y.1) ∧ ∀ n, (x1 ≤ n ∧ n ≤ rightX R x2) ∨ Has (rightL R x2) n ↔ (x1 ≤ n ∧ n ≤ x2) ∨ Has R n := by
  match R, h with
  | [], h => exact ⟨h, by simp [rightL], fun n => Iff.rfl⟩
  | y :: R', h =>
    have hb := h.br y (by simp)
    have hy := h.r y (by simp)
    have hp := List.pairwise_cons.1 h.pr
    have hx := h.b
    by_cases hc : x2 ≠ 4294967295 ∧ y.1 = x2 + 1
    · simp only [rightX, rightL, if_pos hc]
      refine ⟨⟨h.pl, hp.2, fun x hx y' hy' => h.lr x hx y' (List.mem_cons_of_mem _ hy'), h.bl, fun x hx => h.br x (List.mem_cons_of_mem _ hx), by omega, h.l, fun z hz => by have := hp.1 z hz; simp only [Apart] at this; omega⟩, fun z hz => by have := hp.1 z hz; simpa [Apart] using this, fun n => ?_⟩
      constructor
      · rintro (⟨h1, h2⟩ | ⟨z, hz, h1⟩)
        · by_cases hn : n ≤ x2
          · exact .inl ⟨h1, hn⟩
          · exact .inr ⟨y, by simp, by omega, h2⟩
        · exact .inr ⟨z, by simp [hz], h1⟩
      · rintro (⟨h1, h2⟩ | ⟨z, hz, h1⟩)
        · exact .inl ⟨h1, by omega⟩
        · rcases List.mem_cons.1 hz with rfl | hz
          · exact .inl ⟨by omega, h1.2⟩
          · exact .inr ⟨z, hz, h1⟩
    · simp only [rightX, rightL, if_neg hc]
      refine ⟨h, fun z hz => ?_, fun n => by simp⟩
      rcases List.mem_cons.1 hz with rfl | hz
      · by_cases hm : x2 = 4294967295
        · omega
        · have : z.1 ≠ x2 + 1 := fun e => hc ⟨hm, e⟩
          omega
      · have := hp.1 z hz
        simp only [Apart] at this
        omega
theorem Mid.left {L R : List Sp} {x1 x2 : Int} (h : Mid L x1 x2 R) : Mid (leftL L x1) (leftX L x1) x2 R ∧ (∀ y ∈ leftL L x1, y.2 + 1 < leftX L x1) ∧ ∀ n, Has (leftL L x1) n ∨ (leftX L x1 ≤ n ∧ n ≤ x2) ↔ Has L n ∨ (x1 ≤ n ∧ n ≤ x2) := by
  rcases List.eq_nil_or_concat L with rfl | ⟨L0, z, rfl⟩
  · exact ⟨h, by simp [leftL], fun n => Iff.rfl⟩
  · rw [List.concat_eq_append] at h ⊢
    have hb := h.bl z (by simp)
    have hz := h.l z (by simp)
    have hp := List.pairwise_append.1 h.pl
    have hx := h.b
    by_cases hc : x1 ≠ 0 ∧ z.2 = x1 - 1
    · have e1 : leftL (L0 ++ [z]) x1 = L0 := by simp [leftL, hc]
      have e2 : leftX (L0 ++ [z]) x1 = z.1 := by simp [leftX, hc]
      rw [e1, e2]
      refine ⟨⟨hp.1, h.pr, fun x hx => h.lr x (by simp [hx]), fun x hx => h.bl x (by simp [hx]), h.br, by omega, fun y hy => by have := hp.2.2 y hy z (by simp); simp only [Apart] at this; omega, h.r⟩, fun y hy => by have := hp.2.2 y hy z (by simp); simpa [Apart] using this, fun n => ?_⟩
      rw [has_app, has_one]
      constructor
      · rintro (h1 | ⟨h1, h2⟩)
        · exact .inl (.inl h1)
        · by_cases hn : n ≤ z.2
          · exact .inl (.inr ⟨h1, hn⟩)
          · exact .inr ⟨by omega, h2⟩
      · rintro ((h1 | h1) | h1)
        · exact .inl h1
        · exact .inr ⟨h1.1, by omega⟩
        · exact .inr ⟨by omega, h1.2⟩
    · have e1 : leftL (L0 ++ [z]) x1 = L0 ++ [z] := by simp only [leftL, List.getLast?_concat, if_neg hc]
      have e2 : leftX (L0 ++ [z]) x1 = x1 := by simp only [leftX, List.getLast?_concat, if_neg hc]
      rw [e1, e2]
      refine ⟨h, fun y hy => ?_, fun n => Iff.rfl⟩
      rcases List.mem_append.1 hy with hy | hy
      · have := hp.2.2 y hy z (by simp)
        simp only [Apart] at this
        omega
      · simp at hy
        subst hy
        have : ¬ (y.2 = x1 - 1) := fun e => hc ⟨by omega, e⟩
        omega
theorem pw_false_one {α : Type} {l : List α} (h : l.Pairwise (fun _ _ => False)) : l = [] ∨ ∃ x, l = [x] := by
  match l, h with
  | [], _ => exact .inl rfl
  | [x], _ => exact .inr ⟨x, rfl⟩
  | x :: y :: l, h => exact ((List.pairwise_cons.1 h).1 y (by simp)).elim
theorem add_x1 {S L M R : List Sp} {a b : Int} (h : Good S) (c : CutFacts S a b L M R) : (addX1 M a = a ∧ ∀ x ∈ M, a ≤ x.1) ∨ ∃ x ∈ M, addX1 M a = x.1 ∧ x.1 < a ∧ ∀ y ∈ M, x.1 ≤ y.1 := by
  have hp := cutA_pw h c
  rcases pw_false_one hp with h0 | ⟨x, h0⟩
  · left
    refine ⟨by simp [addX1, cutA, h0], fun x hx => ?_⟩
    rw [List.filter_eq_nil_iff] at h0
    have := h0 x hx
    simp only [decide_eq_true_eq] at this
    omega
  · right
    have hm : x ∈ M.filter (fun x => decide (x.1 < a)) := by rw [h0]; simp
    have hm2 := List.mem_filter.1 hm
    refine ⟨x, hm2.1, by simp [addX1, cutA, h0], by simpa using hm2.2, fun y hy => ?_⟩
    by_cases hy2 : y.1 < a
    · have : y ∈ M.filter (fun x => decide (x.1 < a)) := List.mem_filter.2 ⟨hy, by simpa using hy2⟩
      rw [h0] at this
      simp at this
      subst this
      exact Int.le_refl _
    · have := hm2.2
      simp only [decide_eq_true_eq] at this
      omega
theorem add_x2 {S L M R : List Sp} {a b : Int} (h : Good S) (c : CutFacts S a b L M R) : (addX2 M b = b ∧ ∀ x ∈ M, x.2 ≤ b) ∨ ∃ x ∈ M, addX2 M b = x.2 ∧ b < x.2 ∧ ∀ y ∈ M, y.2 ≤ x.2 := by
  have hp := cutB_pw h c
  rcases pw_false_one hp with h0 | ⟨x, h0⟩
  · left
    refine ⟨by simp [addX2, cutB, h0], fun x hx => ?_⟩
    rw [List.filter_eq_nil_iff] at h0
    have := h0 x hx
    simp only [decide_eq_true_eq] at this
    omega
  · right
    have hm : x ∈ M.filter (fun x => decide (b < x.2)) := by rw [h0]; simp
    have hm2 := List.mem_filter.1 hm
    refine ⟨x, hm2.1, by simp [addX2, cutB, h0], by simpa using hm2.2, fun y hy => ?_⟩
    by_cases hy2 : b < y.2
    · have : y ∈ M.filter (fun x => decide (b < x.2)) := List.mem_filter.2 ⟨hy, by simpa using hy2⟩
      rw [h0] at this
      simp at this
      subst this
      exact Int.le_refl _
    · have := hm2.2
      simp only [decide_eq_true_eq] at this
      omega
theorem mid_of {S L M R : List Sp} {a b : Int} (h : Good S) (c : CutFacts S a b L M R) (hab : a ≤ b) (ha : 0 ≤ a) (hb : b ≤ 4294967295) : Mid L (addX1 M a) (addX2 M b) R ∧ addX1 M a ≤ a ∧ b ≤ addX2 M b ∧ ∀ n, (addX1 M a ≤ n ∧ n ≤ addX2 M b) ↔ Has M n ∨ (a ≤ n ∧ n ≤ b) := by
  obtain ⟨p1, p2, p3, p4, p5, p6⟩ := c.pw h
  have bd := c.bd h
  have h1 := add_x1 h c
  have h2 := add_x2 h c
  have hm := c.m
  have hl := c.l
  have hr := c.r
  generalize addX1 M a = x1 at *
  generalize addX2 M b = x2 at *
  have e1 : 0 ≤ x1 ∧ x1 ≤ a ∧ (∀ y ∈ L, y.2 < x1) ∧ ∀ y ∈ M, x1 ≤ y.1 := by
    rcases h1 with ⟨rfl, h1⟩ | ⟨x, hx, rfl, h1, h3⟩
    · exact ⟨ha, Int.le_refl _, hl, h1⟩
    · exact ⟨(bd x (.inr (.inl hx))).1, by omega, fun y hy => by have := p4 y hy x hx; simp only [Apart] at this; omega, h3⟩
  have e2 : x2 ≤ 4294967295 ∧ b ≤ x2 ∧ (∀ y ∈ R, x2 < y.1) ∧ ∀ y ∈ M, y.2 ≤ x2 := by
    rcases h2 with ⟨rfl, h2⟩ | ⟨x, hx, rfl, h2, h3⟩
    · exact ⟨hb, Int.le_refl _, hr, h2⟩
    · exact ⟨(bd x (.inr (.inl hx))).2.2, by omega, fun y hy => by have := p6 x hx y hy; simp only [Apart] at this; omega, h3⟩
  refine ⟨⟨p1, p3, p5, fun x hx => bd x (.inl hx), fun x hx => bd x (.inr (.inr hx)), ⟨e1.1, by omega, e2.1⟩, e1.2.2.1, e2.2.2.1⟩, e1.2.1, e2.2.1, fun n => ?_⟩
  constructor
  · rintro ⟨g1, g2⟩
    by_cases hn1 : n < a
    · rcases h1 with ⟨rfl, h1⟩ | ⟨x, hx, rfl, h1, h3⟩
      · omega
      · have := hm x hx
        exact .inl ⟨x, hx, g1, by omega⟩
    · by_cases hn2 : b < n
      · rcases h2 with ⟨rfl, h2⟩ | ⟨x, hx, rfl, h2, h3⟩
        · omega
        · have := hm x hx
          exact .inl ⟨x, hx, by omega, g2⟩
      · exact .inr ⟨by omega, by omega⟩
  · rintro (⟨x, hx, g1, g2⟩ | ⟨g1, g2⟩)
    · have := e1.2.2.2 x hx; have := e2.2.2.2 x hx
      omega
    · omega
theorem add_law {S : List Sp} (h : Good S) (a b : Int) (ha : 0 ≤ a) (hb : b ≤ 4294967295) : Good (addS S a b) ∧ ∀ n, Has (addS S a b) n ↔ Has S n ∨ (a ≤ n ∧ n ≤ b) := by
  unfold addS
  by_cases hab : b < a
  · rw [if_pos hab]
    exact ⟨h, fun n => ⟨.inl, fun h => h.elim id fun h => by omega⟩⟩
  · rw [if_neg hab]
    have c := cut_facts h a b (by omega)
    have he := c.e
    obtain ⟨m1, _, _, m2⟩ := mid_of h c (by omega) ha hb
    unfold addLR
    generalize S.take (aft S a) = L at *
    generalize S.drop (cutJ S a b) = R at *
    generalize cutM S a b = M at *
    generalize addX1 M a = x1 at *
    generalize addX2 M b = x2 at *
    obtain ⟨r1, r2, r3⟩ := m1.right
    obtain ⟨l1, l2, l3⟩ := r1.left
    refine ⟨Good.of (fun y hy => ?_) ?_, fun n => ?_⟩
    · simp only [List.mem_append, List.mem_singleton] at hy
      rcases hy with (hy | rfl) | hy
      · exact l1.bl y hy
      · exact l1.b
      · exact l1.br y hy
    · rw [List.pairwise_append, List.pairwise_append]
      refine ⟨⟨l1.pl, List.pairwise_singleton _ _, fun x hx y hy => ?_⟩, l1.pr, fun x hx y hy => ?_⟩
      · simp at hy; subst hy; exact l2 x hx
      · simp only [List.mem_append, List.mem_singleton] at hx
        rcases hx with hx | rfl
        · exact l1.lr x hx y hy
        · exact r2 y hy
    · rw [has_app, has_app, has_one, he, has_app, has_app]
      simp only []
      have h3 := l3 n; have h4 := r3 n; have h5 := m2 n
      constructor
      · rintro (g | g)
        · rcases h3.1 g with g | g
          · exact .inl (.inl (.inl g))
          · rcases h4.1 (.inl g) with g | g
            · rcases h5.1 g with g | g
              · exact .inl (.inl (.inr g))
              · exact .inr g
            · exact .inl (.inr g)
        · rcases h4.1 (.inr g) with g | g
          · rcases h5.1 g with g | g
            · exact .inl (.inl (.inr g))
            · exact .inr g
          · exact .inl (.inr g)
      · have k1 : ∀ (g : (x1 ≤ n ∧ n ≤ x2) ∨ Has R n), (Has (leftL L x1) n ∨ (leftX L x1 ≤ n ∧ n ≤ rightX R x2)) ∨ Has (rightL R x2) n := fun g => by
          rcases h4.2 g with g | g
          · exact .inl (h3.2 (.inr g))
          · exact .inr g
        rintro (((g | g) | g) | g)
        · exact .inl (h3.2 (.inl g))
        · exact k1 (.inl (h5.2 (.inl g)))
        · exact k1 (.inr g)
        · exact k1 (.inl (h5.2 (.inr g)))
end Go.Proofs.Ytglcpiokmieppaa
