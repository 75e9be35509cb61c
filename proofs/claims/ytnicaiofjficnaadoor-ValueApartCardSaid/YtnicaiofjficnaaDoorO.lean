/- Numbers and their digits, plain. -/
import Derived.Test.YtnicaiofjficnaaDoorJ
import Derived.Lib.ParseIntBCases
import Derived.Lib.ItoaNum
namespace Go.Proofs.YtnicaiofjficnaaDoor
open Go.Lib
def dig (c : UInt8) : Prop := 48 ≤ c.toNat ∧ c.toNat ≤ 57
instance (c : UInt8) : Decidable (dig c) := by unfold dig; infer_instance
def valF (a : Nat) (l : List UInt8) : Nat := l.foldl (fun n c => 10 * n + (c.toNat - 48)) a
theorem valF_snoc (a : Nat) (l : List UInt8) (c : UInt8) : valF a (l ++ [c]) = 10 * valF a l + (c.toNat - 48) := by simp [valF, List.foldl_append]
theorem valF_cons (a : Nat) (c : UInt8) (l : List UInt8) : valF a (c :: l) = valF (10 * a + (c.toNat - 48)) l := by unfold valF; rw [List.foldl_cons]
theorem valF_le : ∀ (l : List UInt8) (a : Nat), a ≤ valF a l
  | [], a => Nat.le_refl _
  | c :: l, a => by rw [valF_cons]; have := valF_le l (10 * a + (c.toNat - 48)); omega
theorem parse_ok (M : Nat) (hM : M = 18446744073709551615) (l : List UInt8) : ∀ a : Nat, (∀ c ∈ l, dig c) → valF a l ≤ M → parseUintM M a l = .ok (valF a l) := by
  induction l with
  | nil => intro a _ _; rfl
  | cons c l ih =>
    intro a hd hv
    have h1 := hd c (by simp)
    rw [valF_cons] at hv ⊢
    have h2 := valF_le l (10 * a + (c.toNat - 48))
    have h3 := ih (10 * a + (c.toNat - 48)) (fun x hx => hd x (by simp [hx])) hv
    unfold dig at h1
    unfold parseUintM
    rw [if_pos h1, if_neg (by omega), if_neg (by omega), Nat.mul_comm a 10]
    exact h3
theorem dig_of {d : Nat} (h : d < 10) : (UInt8.ofNat (48 + d)).toNat = 48 + d := by
  simp [UInt8.toNat_ofNat']; omega
theorem dec_all (u : Nat) : (∀ c ∈ decDigits u, dig c) ∧ valF 0 (decDigits u) = u ∧ decDigits u ≠ [] ∧ ((decDigits u).head?.map (·.toNat) = some 48 → u = 0) := by
  induction u using Nat.strongRecOn with
  | _ u ih =>
    unfold decDigits
    by_cases h : u < 10
    · rw [dif_pos h]
      refine ⟨fun c hc => ?_, ?_, by simp, fun hh => ?_⟩
      · rw [List.mem_singleton] at hc; subst hc; unfold dig; rw [dig_of h]; omega
      · show 10 * 0 + ((UInt8.ofNat (48 + u)).toNat - 48) = u; rw [dig_of h]; omega
      · simp only [List.head?_cons, Option.map_some, Option.some.injEq] at hh
        rw [dig_of h] at hh; omega
    · rw [dif_neg h]
      obtain ⟨h1, h2, h3, h4⟩ := ih (u / 10) (by omega)
      have hm : u % 10 < 10 := Nat.mod_lt _ (by decide)
      refine ⟨fun c hc => ?_, ?_, by simp, fun hh => ?_⟩
      · rcases List.mem_append.1 hc with hc | hc
        · exact h1 c hc
        · rw [List.mem_singleton] at hc; subst hc; unfold dig; rw [dig_of hm]; omega
      · rw [valF_snoc, h2, dig_of hm]; omega
      · obtain ⟨c, r, e⟩ := List.exists_cons_of_ne_nil h3
        rw [e] at hh h4
        have := h4 (by simpa using hh)
        omega
theorem dec_len (k : Nat) : ∀ u, u < 10 ^ (k + 1) → (decDigits u).length ≤ k + 1 := by
  induction k with
  | zero => intro u hu; unfold decDigits; rw [dif_pos (by simpa using hu)]; simp
  | succ k ih =>
    intro u hu
    unfold decDigits
    by_cases h : u < 10
    · rw [dif_pos h]; simp
    · rw [dif_neg h, List.length_append]
      have := ih (u / 10) (by rw [Nat.pow_succ] at hu; omega)
      simp; omega
theorem dec_one {u : Nat} (h : u < 10) : decDigits u = [UInt8.ofNat (48 + u)] := by unfold decDigits; rw [dif_pos h]
theorem byte_of {c : UInt8} (h : dig c) : UInt8.ofNat (48 + (c.toNat - 48)) = c := by
  unfold dig at h
  have e : 48 + (c.toNat - 48) = c.toNat := by omega
  rw [e]; simp
theorem dec_val : ∀ (n : Nat) (r : List UInt8), r.length = n → r ≠ [] → (∀ c ∈ r, dig c) → (r.length = 1 ∨ r.head?.map (·.toNat) ≠ some 48) → decDigits (valF 0 r) = r
  | 0, r, hn, h0, _, _ => absurd (List.length_eq_zero_iff.1 hn) h0
  | n + 1, r, hn, h0, hd, hh => by
    obtain ⟨q, c, rfl⟩ : ∃ q c, r = q ++ [c] := ⟨r.dropLast, r.getLast h0, (List.dropLast_concat_getLast h0).symm⟩
    have hc := hd c (by simp)
    rw [valF_snoc]
    cases q with
    | nil =>
      have e : valF 0 ([] : List UInt8) = 0 := rfl
      rw [e, dec_one (by unfold dig at hc; omega)]
      have := byte_of hc
      simpa using this
    | cons x q =>
      have hx : (x :: q).head?.map (·.toNat) ≠ some 48 := by
        rcases hh with hh | hh
        · simp at hh
        · simpa using hh
      have ih := dec_val n (x :: q) (by simpa using hn) (by simp) (fun y hy => hd y (List.mem_append_left _ hy)) (.inr hx)
      have h1 : 1 ≤ valF 0 (x :: q) := by
        have h2 := valF_le q (10 * 0 + (x.toNat - 48))
        have h3 := hd x (by simp)
        unfold dig at h3
        rw [valF_cons]
        have : x.toNat ≠ 48 := by simpa using hx
        omega
      unfold dig at hc
      have e1 : (10 * valF 0 (x :: q) + (c.toNat - 48)) / 10 = valF 0 (x :: q) := by omega
      have e2 : (10 * valF 0 (x :: q) + (c.toNat - 48)) % 10 = c.toNat - 48 := by omega
      rw [decDigits, dif_neg (by omega), e1, e2, ih, byte_of hc]
theorem val_lt : ∀ (r : List UInt8), (∀ c ∈ r, dig c) → ∀ a, valF a r < (a + 1) * 10 ^ r.length
  | [], _, a => by simp [valF]
  | c :: r, hd, a => by
    have h1 := hd c (by simp)
    unfold dig at h1
    have ih := val_lt r (fun x hx => hd x (by simp [hx])) (10 * a + (c.toNat - 48))
    rw [valF_cons, List.length_cons, Nat.pow_succ]
    refine Nat.lt_of_lt_of_le ih ?_
    have : 10 * a + (c.toNat - 48) + 1 ≤ 10 * (a + 1) := by omega
    calc (10 * a + (c.toNat - 48) + 1) * 10 ^ r.length ≤ (10 * (a + 1)) * 10 ^ r.length := Nat.mul_le_mul_right _ this
      _ = (a + 1) * (10 ^ r.length * 10) := by rw [Nat.mul_comm 10 (a + 1), Nat.mul_assoc, Nat.mul_comm 10]
/-- ParseInt reads back what FormatInt writes -/
theorem parse_itoa {n : Int} (h0 : -9223372036854775808 ≤ n) (h1 : n ≤ 9223372036854775807) : parseIntB 64 (itoa n) = .ok n := by
  have key : ∀ u : Nat, u ≤ 9223372036854775808 → parseUintB 64 (decDigits u) = .ok u := fun u hu => by
    obtain ⟨d1, d2, d3, _⟩ := dec_all u
    unfold parseUintB
    rw [if_neg d3, show 2 ^ 64 - 1 = 18446744073709551615 from rfl, parse_ok _ rfl _ _ d1 (by rw [d2]; omega), d2]
  unfold itoa
  by_cases h : n < 0
  · rw [if_pos h, parseIntB_minus, key _ (by omega)]
    simp only [signedC]
    rw [if_neg (by omega)]
    congr 1; omega
  · rw [if_neg h]
    obtain ⟨d1, d2, d3, _⟩ := dec_all n.toNat
    have hk := key n.toNat (by omega)
    obtain ⟨c, r, e⟩ := List.exists_cons_of_ne_nil d3
    rw [e] at d1 hk ⊢
    have hc := d1 c (by simp)
    unfold dig at hc
    rw [parseIntB_plain _ _ _ (by omega) (by omega), hk]
    simp only [signlessC]
    rw [if_neg (by omega)]
    congr 1; omega
/-- the document's number -/
def numOk (l : List UInt8) : Option Int :=
  let m := l.head?.map (·.toNat) = some 45
  let r := if m then l.tail else l
  if 1 ≤ r.length ∧ r.length ≤ 19 ∧ ¬ (r.head?.map (·.toNat) = some 48 ∧ (1 < r.length ∨ m)) ∧ (∀ c ∈ r, dig c) then
    if m then (if valF 0 r ≤ 9223372036854775808 then some (-(valF 0 r : Int)) else none) else (if valF 0 r < 9223372036854775808 then some (valF 0 r : Int) else none)
  else none
theorem numOk_iff (l : List UInt8) (v : Int) : numOk l = some v ↔ l = itoa v ∧ -9223372036854775808 ≤ v ∧ v ≤ 9223372036854775807 := by
  constructor
  · intro h
    unfold numOk at h
    simp only at h
    by_cases hm : l.head?.map (·.toNat) = some 45
    · simp only [hm, if_true] at h
      split at h
      · rename_i hr
        obtain ⟨r1, r2, r3, r4⟩ := hr
        split at h
        · rename_i hv
          simp only [Option.some.injEq] at h
          obtain ⟨c, r, e⟩ : ∃ c r, l = c :: r := by cases l with | nil => simp at hm | cons c r => exact ⟨c, r, rfl⟩
          subst e
          simp only [List.tail_cons] at *
          have hc : c = 45 := by
            have : c.toNat = 45 := by simpa using hm
            exact UInt8.toNat_inj.1 this
          subst hc
          have hne : r ≠ [] := by intro e; rw [e] at r1; simp at r1
          have hdv := dec_val r.length r rfl hne r4 (by
            by_cases hl : r.length = 1
            · exact .inl hl
            · exact .inr fun hz => r3 ⟨hz, .inl (by omega)⟩)
          have hpos : 1 ≤ valF 0 r := by
            rcases Nat.eq_zero_or_pos (valF 0 r) with hz | hz
            · rw [hz, dec_one (by omega)] at hdv
              exact absurd ⟨by rw [← hdv]; rfl, .inr trivial⟩ r3
            · exact hz
          refine ⟨?_, by omega, by omega⟩
          rw [← h]
          unfold itoa
          rw [if_pos (by omega)]
          have : (-(valF 0 r : Int)).natAbs = valF 0 r := by omega
          rw [this, hdv]
        · cases h
      · cases h
    · simp only [hm, if_false] at h
      split at h
      · rename_i hr
        obtain ⟨r1, r2, r3, r4⟩ := hr
        split at h
        · rename_i hv
          simp only [Option.some.injEq] at h
          have hne : l ≠ [] := by intro e; rw [e] at r1; simp at r1
          have hdv := dec_val l.length l rfl hne r4 (by
            by_cases hl : l.length = 1
            · exact .inl hl
            · exact .inr fun hz => r3 ⟨hz, .inl (by omega)⟩)
          refine ⟨?_, by omega, by omega⟩
          rw [← h]
          unfold itoa
          rw [if_neg (by omega)]
          have : ((valF 0 l : Int)).toNat = valF 0 l := by omega
          rw [this, hdv]
        · cases h
      · cases h
  · rintro ⟨rfl, h0, h1⟩
    unfold numOk
    simp only
    by_cases hv : v < 0
    · obtain ⟨d1, d2, d3, d4⟩ := dec_all v.natAbs
      have hl := dec_len 18 v.natAbs (by omega)
      have e : itoa v = 45 :: decDigits v.natAbs := by unfold itoa; rw [if_pos hv]
      have hm : (itoa v).head?.map (·.toNat) = some 45 := by rw [e]; rfl
      rw [e] at hm ⊢
      simp only [hm, if_true, List.tail_cons]
      rw [if_pos ⟨by have := List.length_pos_iff.2 d3; omega, by omega, fun hz => by have := d4 hz.1; omega, d1⟩, d2, if_pos (by omega)]
      congr 1; omega
    · obtain ⟨d1, d2, d3, d4⟩ := dec_all v.toNat
      have hl := dec_len 18 v.toNat (by omega)
      have e : itoa v = decDigits v.toNat := by unfold itoa; rw [if_neg hv]
      have hm : ¬ (itoa v).head?.map (·.toNat) = some 45 := by
        rw [e]
        obtain ⟨c, r, e2⟩ := List.exists_cons_of_ne_nil d3
        have hc := d1 c (by rw [e2]; simp)
        unfold dig at hc
        rw [e2]; simp; omega
      rw [e] at hm ⊢
      simp only [hm, if_false]
      have hz0 : ¬ ((decDigits v.toNat).head?.map (·.toNat) = some 48 ∧ (1 < (decDigits v.toNat).length ∨ False)) := fun hz => by
        have h00 := d4 hz.1
        rw [h00, dec_one (by omega)] at hz
        rcases hz.2 with hz | hz
        · simp at hz
        · exact hz
      rw [if_pos ⟨by have := List.length_pos_iff.2 d3; omega, by omega, hz0, d1⟩, d2, if_pos (by omega)]
      congr 1; omega
end Go.Proofs.YtnicaiofjficnaaDoor
