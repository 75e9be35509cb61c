/- Plain laws: one list for one set; counting; what two sets share. -/
import Derived.Test.YtglcpiokmieppaaM
import Derived.Test.YtglcpiokmieppaaI
namespace Go.Proofs.Ytglcpiokmieppaa
open Go.RowKit

theorem uniq : ∀ (S T : List Sp), S.Pairwise Apart → T.Pairwise Apart → (∀ x ∈ S, x.1 ≤ x.2) → (∀ x ∈ T, x.1 ≤ x.2) → (∀ n, Has S n ↔ Has T n) → S = T
  | [], [], _, _, _, _, _ => rfl
  | [], y :: T, _, _, _, hT, h => by
    obtain ⟨x, hx, _⟩ := (h y.1).2 ⟨y, by simp, Int.le_refl _, hT y (by simp)⟩
    cases hx
  | x :: S, [], _, _, hS, _, h => by
    obtain ⟨y, hy, _⟩ := (h x.1).1 ⟨x, by simp, Int.le_refl _, hS x (by simp)⟩
    cases hy
  | x :: S, y :: T, hpS, hpT, hS, hT, h => by
    have pS := List.pairwise_cons.1 hpS
    have pT := List.pairwise_cons.1 hpT
    have bx := hS x (by simp)
    have by' := hT y (by simp)
    have e1 : x.1 = y.1 := by
      obtain ⟨z, hz, h1, h2⟩ := (h x.1).1 ⟨x, by simp, Int.le_refl _, bx⟩
      obtain ⟨u, hu, h3, h4⟩ := (h y.1).2 ⟨y, by simp, Int.le_refl _, by'⟩
      have k1 : y.1 ≤ z.1 := by
        rcases List.mem_cons.1 hz with rfl | hz
        · exact Int.le_refl _
        · have := pT.1 z hz; simp only [Apart] at this; omega
      have k2 : x.1 ≤ u.1 := by
        rcases List.mem_cons.1 hu with rfl | hu
        · exact Int.le_refl _
        · have := pS.1 u hu; simp only [Apart] at this; omega
      omega
    have e2 : x.2 = y.2 := by
      apply Classical.byContradiction
      intro hne
      rcases Int.lt_or_gt_of_ne hne with hlt | hgt
      · obtain ⟨z, hz, h1, h2⟩ := (h (x.2 + 1)).2 ⟨y, by simp, by omega, by omega⟩
        rcases List.mem_cons.1 hz with rfl | hz
        · omega
        · have := pS.1 z hz; simp only [Apart] at this; omega
      · obtain ⟨z, hz, h1, h2⟩ := (h (y.2 + 1)).1 ⟨x, by simp, by omega, by omega⟩
        rcases List.mem_cons.1 hz with rfl | hz
        · omega
        · have := pT.1 z hz; simp only [Apart] at this; omega
    have e3 : S = T := uniq S T pS.2 pT.2 (fun z hz => hS z (by simp [hz])) (fun z hz => hT z (by simp [hz])) (fun n => by
      constructor
      · rintro ⟨z, hz, h1, h2⟩
        have := pS.1 z hz
        simp only [Apart] at this
        obtain ⟨u, hu, h3, h4⟩ := (h n).1 ⟨z, by simp [hz], h1, h2⟩
        rcases List.mem_cons.1 hu with rfl | hu
        · omega
        · exact ⟨u, hu, h3, h4⟩
      · rintro ⟨z, hz, h1, h2⟩
        have := pT.1 z hz
        simp only [Apart] at this
        obtain ⟨u, hu, h3, h4⟩ := (h n).2 ⟨z, by simp [hz], h1, h2⟩
        rcases List.mem_cons.1 hu with rfl | hu
        · omega
        · exact ⟨u, hu, h3, h4⟩)
    rw [e3, show x = y from Prod.ext e1 e2]
theorem good_eq {S T : List Sp} (hS : Good S) (hT : Good T) (h : ∀ n, Has S n ↔ Has T n) : S = T :=
  uniq S T hS.pw hT.pw (fun x hx => (hS.b x hx).2.1) (fun x hx => (hT.b x hx).2.1) h
/-- how many of the numbers ahead of N -/
def cN (p : Nat → Bool) : Nat → Int
  | 0 => 0
  | n + 1 => cN p n + (if p n = true then 1 else 0)
theorem cN_or (p q : Nat → Bool) : ∀ N, cN (fun n => p n || q n) N + cN (fun n => p n && q n) N = cN p N + cN q N
  | 0 => rfl
  | N + 1 => by
    have := cN_or p q N
    simp only [cN]
    by_cases h1 : p N = true <;> by_cases h2 : q N = true <;> simp [h1, h2] <;> omega
theorem cN_none (p : Nat → Bool) (h : ∀ n, p n = false) : ∀ N, cN p N = 0
  | 0 => rfl
  | N + 1 => by simp [cN, cN_none p h N, h]
theorem cN_int (a b : Int) (ha : 0 ≤ a) (hab : a ≤ b) : ∀ N : Nat, cN (fun n => decide (a ≤ (n : Int) ∧ (n : Int) ≤ b)) N = if (N : Int) ≤ a then 0 else if (N : Int) ≤ b + 1 then (N : Int) - a else b + 1 - a
  | 0 => by simp only [cN]; rw [if_pos (by simpa using ha)]
  | N + 1 => by
    rw [cN, cN_int a b ha hab N]
    simp only [decide_eq_true_eq]
    split <;> split <;> split <;> (try split) <;> omega
def hasS (S : List Sp) (n : Nat) : Bool := S.any fun x => decide (x.1 ≤ (n : Int) ∧ (n : Int) ≤ x.2)
theorem hasS_iff (S : List Sp) (n : Nat) : hasS S n = true ↔ Has S n := by
  simp [hasS, Has]
theorem cntS_is : ∀ (S : List Sp) (N : Nat), S.Pairwise Apart → (∀ x ∈ S, 0 ≤ x.1 ∧ x.1 ≤ x.2 ∧ x.2 < (N : Int)) → cntS S = cN (hasS S) N
  | [], N, _, _ => by rw [cN_none _ (fun n => by simp [hasS])]; rfl
  | x :: S, N, hp, hb => by
    have hp' := List.pairwise_cons.1 hp
    have h1 := cntS_is S N hp'.2 (fun y hy => hb y (by simp [hy]))
    have hx := hb x (by simp)
    have h2 := cN_int x.1 x.2 hx.1 hx.2.1 N
    rw [if_neg (by omega)] at h2
    have h2' : cN (fun n => decide (x.1 ≤ (n : Int) ∧ (n : Int) ≤ x.2)) N = x.2 + 1 - x.1 := by rw [h2]; split <;> omega
    clear h2
    have h3 := cN_or (fun n => decide (x.1 ≤ (n : Int) ∧ (n : Int) ≤ x.2)) (hasS S) N
    rw [cN_none (fun n => decide (x.1 ≤ (n : Int) ∧ (n : Int) ≤ x.2) && hasS S n) (fun n => by
      apply Bool.eq_false_iff.2
      intro h
      simp only [Bool.and_eq_true, decide_eq_true_eq, hasS_iff] at h
      obtain ⟨h4, z, hz, h5, h6⟩ := h
      have := hp'.1 z hz
      simp only [Apart] at this
      omega)] at h3
    have h4 : hasS (x :: S) = fun n : Nat => decide (x.1 ≤ (n : Int) ∧ (n : Int) ≤ x.2) || hasS S n := by funext n; rfl
    rw [h4, cntS]
    omega
theorem cN_congr {p q : Nat → Bool} (h : ∀ n, p n = q n) (N : Nat) : cN p N = cN q N := by rw [show p = q from funext h]
theorem Good.cntIs {S : List Sp} (h : Good S) : cntS S = cN (hasS S) 4294967296 := cntS_is S _ h.pw (fun x hx => by have := h.b x hx; omega)
def meet : List Sp → List Sp → List Sp
  | [], _ => []
  | _ :: _, [] => []
  | a :: A, b :: B => (if max a.1 b.1 ≤ min a.2 b.2 then [(max a.1 b.1, min a.2 b.2)] else []) ++ (if a.2 < b.2 then meet A (b :: B) else meet (a :: A) B)
termination_by A B => A.length + B.length
theorem meet_nil (A : List Sp) : meet A [] = [] := by cases A <;> simp [meet]
theorem nil_meet (B : List Sp) : meet [] B = [] := by simp [meet]
theorem meet_cons (a b : Sp) (A B : List Sp) : meet (a :: A) (b :: B) = (if max a.1 b.1 ≤ min a.2 b.2 then [(max a.1 b.1, min a.2 b.2)] else []) ++ (if a.2 < b.2 then meet A (b :: B) else meet (a :: A) B) := by
  rw [meet]
theorem meet_mem : ∀ (A B : List Sp) (x : Sp), x ∈ meet A B → ∃ a ∈ A, ∃ b ∈ B, x = (max a.1 b.1, min a.2 b.2) ∧ x.1 ≤ x.2
  | [], B, x, h => by rw [nil_meet] at h; cases h
  | a :: A, [], x, h => by rw [meet_nil] at h; cases h
  | a :: A, b :: B, x, h => by
    rw [meet_cons] at h
    rcases List.mem_append.1 h with h | h
    · split at h
      · rename_i hc
        simp at h
        exact ⟨a, by simp, b, by simp, h, by rw [h]; exact hc⟩
      · cases h
    · split at h
      · obtain ⟨a', ha, b', hb, e, hc⟩ := meet_mem A (b :: B) x h
        exact ⟨a', by simp [ha], b', hb, e, hc⟩
      · obtain ⟨a', ha, b', hb, e, hc⟩ := meet_mem (a :: A) B x h
        exact ⟨a', ha, b', by simp [hb], e, hc⟩
termination_by A B => A.length + B.length
theorem meet_pw : ∀ (A B : List Sp), A.Pairwise Apart → B.Pairwise Apart → (meet A B).Pairwise Apart
  | [], B, _, _ => by rw [nil_meet]; exact List.Pairwise.nil
  | a :: A, [], _, _ => by rw [meet_nil]; exact List.Pairwise.nil
  | a :: A, b :: B, hA, hB => by
    have pA := List.pairwise_cons.1 hA
    have pB := List.pairwise_cons.1 hB
    rw [meet_cons, List.pairwise_append]
    refine ⟨by split <;> simp, by split; exact meet_pw A (b :: B) pA.2 hB; exact meet_pw (a :: A) B hA pB.2, fun x hx y hy => ?_⟩
    split at hx
    · simp at hx
      subst hx
      split at hy
      · obtain ⟨a', ha, b', hb, rfl, _⟩ := meet_mem A (b :: B) y hy
        have := pA.1 a' ha
        simp only [Apart] at this ⊢
        omega
      · obtain ⟨a', ha, b', hb, rfl, _⟩ := meet_mem (a :: A) B y hy
        have := pB.1 b' hb
        simp only [Apart] at this ⊢
        omega
    · cases hx
termination_by A B => A.length + B.length
theorem meet_has : ∀ (A B : List Sp) (n : Int), A.Pairwise Apart → B.Pairwise Apart → (Has (meet A B) n ↔ Has A n ∧ Has B n)
  | [], B, n, _, _ => by rw [nil_meet]; simp [Has]
  | a :: A, [], n, _, _ => by rw [meet_nil]; simp [Has]
  | a :: A, b :: B, n, hA, hB => by
    have pA := List.pairwise_cons.1 hA
    have pB := List.pairwise_cons.1 hB
    constructor
    · rintro ⟨x, hx, h1, h2⟩
      obtain ⟨a', ha, b', hb, rfl, _⟩ := meet_mem _ _ x hx
      simp only at h1 h2
      exact ⟨⟨a', ha, by omega, by omega⟩, ⟨b', hb, by omega, by omega⟩⟩
    · rintro ⟨⟨a', ha, h1, h2⟩, ⟨b', hb, h3, h4⟩⟩
      rw [meet_cons, has_app]
      by_cases hab : a.2 < b.2
      · rw [if_pos hab]
        rcases List.mem_cons.1 ha with rfl | ha
        · rcases List.mem_cons.1 hb with rfl | hb
          · exact .inl ⟨(max a'.1 b'.1, min a'.2 b'.2), by rw [if_pos (by omega)]; simp, by simp only; omega, by simp only; omega⟩
          · have := pB.1 b' hb
            simp only [Apart] at this
            omega
        · exact .inr ((meet_has A (b :: B) n pA.2 hB).2 ⟨⟨a', ha, h1, h2⟩, ⟨b', hb, h3, h4⟩⟩)
      · rw [if_neg hab]
        rcases List.mem_cons.1 hb with rfl | hb
        · rcases List.mem_cons.1 ha with rfl | ha
          · exact .inl ⟨(max a'.1 b'.1, min a'.2 b'.2), by rw [if_pos (by omega)]; simp, by simp only; omega, by simp only; omega⟩
          · have := pA.1 a' ha
            simp only [Apart] at this
            omega
        · exact .inr ((meet_has (a :: A) B n hA pB.2).2 ⟨⟨a', ha, h1, h2⟩, ⟨b', hb, h3, h4⟩⟩)
termination_by A B => A.length + B.length
theorem meet_law {A B : List Sp} (hA : Good A) (hB : Good B) : Good (meet A B) ∧ ∀ n, Has (meet A B) n ↔ Has A n ∧ Has B n := by
  refine ⟨Good.of (fun x hx => ?_) (meet_pw A B hA.pw hB.pw), fun n => meet_has A B n hA.pw hB.pw⟩
  obtain ⟨a, ha, b, hb, rfl, hc⟩ := meet_mem A B x hx
  have := hA.b a ha; have := hB.b b hb
  refine ⟨by simp only; omega, hc, by simp only; omega⟩
end Go.Proofs.Ytglcpiokmieppaa
