/- Texts, plain: what is read is what was written. -/
import Derived.Test.YtnicaiofjficnaaDoorV
namespace Go.Proofs.YtnicaiofjficnaaDoor
open Go.RowKit
theorem empty_of {s : ByteArray} (h : s.size = 0) : s = ⟨#[]⟩ := toList_inj (size_zero h)
theorem none_num : numOk noneB.data.toList = none := by decide +kernel
theorem pd_ok {s : ByteArray} {a : Vv} (h : pd s = (a, 0)) : formB a = true ∧ wrS a = s ∧ (s.size ≤ 140737488355327 → okV a) := by
  by_cases hn : s = noneB
  · subst hn
    rw [pd_none] at h
    simp only [Prod.mk.injEq, and_true] at h
    subst h
    exact ⟨rfl, wrS_zero, fun _ => ⟨(show (ByteArray.mk #[]).size ≤ 4611686018427387904 by decide), by decide, by decide⟩⟩
  · cases hno : numOk s.data.toList with
    | some v =>
      rw [pd_num hn hno] at h
      simp only [Prod.mk.injEq, and_true] at h
      subst h
      obtain ⟨e, e1, e2⟩ := (numOk_iff _ v).1 hno
      exact ⟨rfl, by rw [wrS_int]; exact toList_inj (by rw [e]), fun _ => ⟨(show (ByteArray.mk #[]).size ≤ 4611686018427387904 by decide), e1, e2⟩⟩
    | none =>
      by_cases hq : quoted s
      · rw [pd_quoted hq] at h
        split at h
        · rename_i hf
          simp only [Prod.mk.injEq, and_true] at h
          subst h
          refine ⟨hf, ?_, fun hs => ⟨?_, by simp, by simp⟩⟩
          · unfold wrS; rw [if_pos hf]
            simp only [wr1, Int.reduceEq, if_false, if_true]
            exact mid_back hq
          · show (mid s).size ≤ 4611686018427387904
            unfold mid; rw [ByteArray.size_extract]; omega
        · simp at h
      · rw [pd_bad hn hno hq] at h
        simp at h
theorem mid_of (s : ByteArray) : quoted ((⟨#[39]⟩ ++ s) ++ ⟨#[39]⟩) ∧ mid ((⟨#[39]⟩ ++ s) ++ ⟨#[39]⟩) = s := by
  have hl : ((⟨#[39]⟩ ++ s) ++ ⟨#[39]⟩ : ByteArray).data.toList = 39 :: (s.data.toList ++ [39]) := by
    simp [ByteArray.data_append]
  have hs : ((⟨#[39]⟩ ++ s) ++ ⟨#[39]⟩ : ByteArray).size = s.size + 2 := by
    rw [← size_len, hl, List.length_cons, List.length_append, size_len]; simp
  refine ⟨⟨by rw [hs]; omega, by rw [hl]; rfl, by rw [hl, ← List.cons_append, List.getLast?_append]; rfl⟩, ?_⟩
  apply toList_inj
  unfold mid
  rw [ByteArray.data_extract, Array.toList_extract, List.extract_eq_take_drop, hl, hs]
  simp only [List.drop_succ_cons, List.drop_zero]
  have e : s.size + 2 - 1 - 1 = s.data.toList.length := by rw [size_len]; omega
  rw [e, List.take_left]
theorem pd_back {v : Vv} (hf : formB v = true) (hv : okV v) : pd (wrS v) = (v, 0) := by
  obtain ⟨k, n, s⟩ := v
  obtain ⟨_, h0, h1⟩ := hv
  simp only at h0 h1
  have hf' := hf
  simp only [formB] at hf
  split at hf
  · rename_i hk
    simp only [Bool.and_eq_true, beq_iff_eq] at hf
    obtain ⟨rfl, hs⟩ := hf
    subst hk
    rw [empty_of hs, wrS_zero, pd_none]; rfl
  · split at hf
    · rename_i _ hk
      subst hk
      rw [beq_iff_eq] at hf
      rw [empty_of hf, wrS_int]
      have hno := (numOk_iff (Lib.itoa n) n).2 ⟨rfl, h0, h1⟩
      have hne : (⟨(Lib.itoa n).toArray⟩ : ByteArray) ≠ noneB := fun e => by
        have h := none_num
        rw [← e] at h
        simp only at h
        rw [hno] at h
        cases h
      exact pd_num hne hno
    · split at hf
      · rename_i _ _ hk
        subst hk
        simp only [Bool.and_eq_true, beq_iff_eq] at hf
        obtain ⟨rfl, ht⟩ := hf
        have hw : wrS (2, 0, s) = (⟨#[39]⟩ ++ s) ++ ⟨#[39]⟩ := by
          unfold wrS; rw [if_pos hf']
          simp only [wr1, Int.reduceEq, if_false, if_true]
        obtain ⟨m1, m2⟩ := mid_of s
        rw [hw, pd_quoted m1, m2, if_pos hf']
      · cases hf
theorem wrS_size {v : Vv} (hv : okV v) : (wrS v).size ≤ 140737488355327 := by
  unfold wrS
  split
  · rename_i hf
    unfold wr1
    split
    · have hl := (show (Lib.itoa v.2.1).length ≤ 22 by
        unfold Lib.itoa
        obtain ⟨_, h0, h1⟩ := hv
        split
        · have := dec_len 19 v.2.1.natAbs (by omega)
          simp; omega
        · have := dec_len 19 v.2.1.toNat (by omega)
          omega)
      show (Lib.itoa v.2.1).toArray.size ≤ _
      simp; omega
    · split
      · rename_i hk1 hk2
        have h8 : v.2.2.size ≤ 8 := by
          unfold formB at hf
          rw [if_neg (by omega), if_neg hk1, if_pos hk2] at hf
          simp only [textB, Bool.and_eq_true, decide_eq_true_eq] at hf
          exact hf.2.2
        have : ((⟨#[39]⟩ ++ v.2.2) ++ ⟨#[39]⟩ : ByteArray).size = v.2.2.size + 2 := by
          rw [ByteArray.size_append, ByteArray.size_append]
          have : (ByteArray.mk #[39]).size = 1 := rfl
          omega
        rw [this]; omega
      · decide
  · decide
end Go.Proofs.YtnicaiofjficnaaDoor
