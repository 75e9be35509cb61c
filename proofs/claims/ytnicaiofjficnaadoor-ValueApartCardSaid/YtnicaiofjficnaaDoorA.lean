/- Values: the plain part. -/
import Derived.Test.YtnicaiofjficnaaDoorLaw
import Derived.Lib.Bytealg
namespace Go.Proofs.YtnicaiofjficnaaDoor
open Go.RowKit
abbrev Vv := Int × Int × ByteArray
def encV (v : Vv) : List Value := [.int .u8 v.1, .int .i64 v.2.1, .string v.2.2]
def vv (v : Vv) : Value := .agg #[.int .u8 v.1, .int .i64 v.2.1, .string v.2.2]
def cmpI (x y : Int) : Int := if x < y then -1 else if y < x then 1 else 0
def or3 (a b c : Int) : Int := if a ≠ 0 then a else if b ≠ 0 then b else c
abbrev cmpS (a b : ByteArray) : Int := Lib.compareBytes a.data.toList b.data.toList
def letterN (b : Nat) : Bool := (97 ≤ b && b ≤ 122) || (48 ≤ b && b ≤ 57) || b == 46 || b == 45
def textB (s : ByteArray) : Bool := s.data.toList.all (fun b => letterN b.toNat) && decide (s.size ≤ 8)
def formB (v : Vv) : Bool := if v.1 = 0 then v.2.1 == 0 && v.2.2.size == 0 else if v.1 = 1 then v.2.2.size == 0 else if v.1 = 2 then v.2.1 == 0 && textB v.2.2 else false
def cmpV (a b : Vv) : Int := or3 (cmpI a.1 b.1) (cmpI a.2.1 b.2.1) (cmpS a.2.2 b.2.2)
def lessL : List UInt8 → List UInt8 → Bool
  | [], [] => false
  | [], _ :: _ => true
  | _ :: _, [] => false
  | a :: xs, b :: ys => if a ≠ b then decide (a < b) else lessL xs ys
def lessV (a b : Vv) : Bool := if a.1 ≠ b.1 then decide (a.1 < b.1) else if a.1 = 1 then decide (a.2.1 < b.2.1) else lessL a.2.2.data.toList b.2.2.data.toList
set_option maxRecDepth 10000 in
theorem cmpL_spec : ∀ a b : List UInt8, (lessL a b = true ∧ Lib.compareBytes a b = -1 ∧ lessL b a = false ∧ Lib.compareBytes b a = 1 ∧ a ≠ b) ∨ (lessL b a = true ∧ Lib.compareBytes a b = 1 ∧ lessL a b = false ∧ Lib.compareBytes b a = -1 ∧ a ≠ b) ∨ (a = b ∧ Lib.compareBytes a b = 0 ∧ lessL a b = false)
  | [], [] => .inr (.inr ⟨rfl, rfl, rfl⟩)
  | [], _ :: _ => .inl ⟨rfl, rfl, rfl, rfl, by simp⟩
  | _ :: _, [] => .inr (.inl ⟨rfl, rfl, rfl, rfl, by simp⟩)
  | a :: xs, b :: ys => by
    have ih := cmpL_spec xs ys
    by_cases hab : a = b
    · subst hab
      have hn : ¬ a < a := by simp [UInt8.lt_iff_toNat_lt]
      simp only [lessL, Lib.compareBytes, ne_eq, not_true_eq_false, if_false, hn, List.cons.injEq, true_and]
      rcases ih with ⟨h1, h2, h3, h4, h5⟩ | ⟨h1, h2, h3, h4, h5⟩ | ⟨h1, h2, h3⟩
      · exact .inl ⟨h1, h2, h3, h4, by simpa using h5⟩
      · exact .inr (.inl ⟨h1, h2, h3, h4, by simpa using h5⟩)
      · exact .inr (.inr ⟨h1, h2, h3⟩)
    · have hba : ¬ b = a := fun h => hab h.symm
      have hne : a.toNat ≠ b.toNat := fun h => hab (UInt8.toNat_inj.1 h)
      by_cases hlt : a < b
      · have hnl : ¬ b < a := by rw [UInt8.lt_iff_toNat_lt] at hlt ⊢; omega
        refine .inl ?_
        simp [lessL, Lib.compareBytes, hab, hba, hlt, hnl]
      · have hgt : b < a := by rw [UInt8.lt_iff_toNat_lt] at hlt ⊢; omega
        refine .inr (.inl ?_)
        simp [lessL, Lib.compareBytes, hab, hba, hlt, hgt]
theorem lessL_trans : ∀ {a b c : List UInt8}, lessL a b = true → lessL b c = true → lessL a c = true
  | [], [], _, h, _ => by simp [lessL] at h
  | [], _ :: _, [], _, h => by simp [lessL] at h
  | [], _ :: _, _ :: _, _, _ => rfl
  | _ :: _, [], _, h, _ => by simp [lessL] at h
  | _ :: _, _ :: _, [], _, h => by simp [lessL] at h
  | a :: xs, b :: ys, c :: zs, h1, h2 => by
    simp only [lessL] at h1 h2 ⊢
    by_cases hab : a = b
    · subst hab
      by_cases hac : a = c
      · subst hac
        simp only [ne_eq, not_true_eq_false, if_false] at h1 h2 ⊢
        exact lessL_trans h1 h2
      · simp only [ne_eq, hac, not_false_eq_true, if_true] at h2 ⊢
        exact h2
    · simp only [ne_eq, hab, not_false_eq_true, if_true, decide_eq_true_eq] at h1
      by_cases hbc : b = c
      · subst hbc
        simp only [ne_eq, hab, not_false_eq_true, if_true, decide_eq_true_eq]
        exact h1
      · simp only [ne_eq, hbc, not_false_eq_true, if_true, decide_eq_true_eq] at h2
        rw [UInt8.lt_iff_toNat_lt] at h1 h2
        have hac : ¬ a = c := fun h => by subst h; omega
        simp only [ne_eq, hac, not_false_eq_true, if_true, decide_eq_true_eq]
        rw [UInt8.lt_iff_toNat_lt]; omega
theorem toList_inj {a b : ByteArray} (h : a.data.toList = b.data.toList) : a = b := by
  cases a; cases b; simp only [ByteArray.mk.injEq]; exact Array.ext' h
theorem size_zero {s : ByteArray} (h : s.size = 0) : s.data.toList = [] := by
  have : s.data.toList.length = 0 := by rw [Array.length_toList]; exact h
  exact List.length_eq_zero_iff.1 this
/-- the program's order and the document's -/
theorem cmpV_doc {a b : Vv} (ha : formB a = true) (hb : formB b = true) : cmpV a b = (if lessV a b then -1 else if lessV b a then 1 else 0) := by
  obtain ⟨k1, n1, s1⟩ := a
  obtain ⟨k2, n2, s2⟩ := b
  simp only [formB] at ha hb
  simp only [cmpV, lessV]
  by_cases hk : k1 = k2
  · subst hk
    have e0 : cmpI k1 k1 = 0 := by simp [cmpI]
    rw [e0]
    simp only [ne_eq, not_true_eq_false, if_false, or3]
    by_cases h1 : k1 = 1
    · subst h1
      simp only [if_true, Int.reduceEq, if_false, beq_iff_eq] at ha hb
      have z1 := size_zero ha; have z2 := size_zero hb
      simp only [cmpS, z1, z2, Lib.compareBytes, if_true, decide_eq_true_eq, cmpI]
      by_cases h2 : n1 < n2
      · simp [h2]
      · by_cases h3 : n2 < n1
        · simp [h2, h3]
        · simp [h2, h3]
    · simp only [h1, if_false]
      have hn : n1 = 0 ∧ n2 = 0 := by
        by_cases h0 : k1 = 0
        · simp [h0] at ha hb; exact ⟨ha.1, hb.1⟩
        · by_cases h2 : k1 = 2
          · simp [h2] at ha hb; exact ⟨ha.1, hb.1⟩
          · simp [h0, h1, h2] at ha
      obtain ⟨rfl, rfl⟩ := hn
      have e1 : cmpI 0 0 = 0 := by simp [cmpI]
      rw [e1]
      simp only [not_true_eq_false, if_false]
      rcases cmpL_spec s1.data.toList s2.data.toList with ⟨h1, h2, _⟩ | ⟨h1, h2, h3, _⟩ | ⟨h1, h2, h3⟩
      · rw [cmpS, h2, h1]; rfl
      · rw [cmpS, h2, h1, h3]; rfl
      · have h4 : lessL s2.data.toList s1.data.toList = false := by rw [h1] at h3 ⊢; exact h3
        rw [cmpS, h2, h3, h4]; rfl
  · have hk' : ¬ k2 = k1 := fun h => hk h.symm
    simp only [ne_eq, hk, hk', not_false_eq_true, if_true, decide_eq_true_eq, or3, cmpI]
    by_cases h2 : k1 < k2
    · simp [h2]
    · have h3 : k2 < k1 := by omega
      simp [h2, h3]
end Go.Proofs.YtnicaiofjficnaaDoor
