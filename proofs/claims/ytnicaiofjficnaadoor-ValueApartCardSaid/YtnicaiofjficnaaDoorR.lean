/- Parse. -/
import Derived.Test.YtnicaiofjficnaaDoorQ
namespace Go.Proofs.YtnicaiofjficnaaDoor
open Go.RowKit
theorem strEq {s t : ByteArray} (h : s.toList = t.toList) : s = t := by
  rw [ByteArray.toList_eq, ByteArray.toList_eq] at h
  exact toList_inj h
theorem three_set {w : World} {b T : Nat} {a0 a1 a2 : Value} (h : w.heap[b]? = some (.cells #[a0, a1, a2] T (0, 0))) (x y z : Value) :
    ∃ w', ((w.setCell ⟨b, 0, none⟩ x).setCell ⟨b, 1, none⟩ y).setCell ⟨b, 2, none⟩ z = w' ∧ w'.heap[b]? = some (.cells #[x, y, z] T (0, 0)) ∧ Kept (fun i => i = b) w w' :=
  ⟨_, rfl, row_set (row_set (row_set h 0 x) 1 y) 2 z,
    (((Kept.refl (fun i => i = b) w).setCell (p := ⟨b, 0, none⟩) (.inl rfl) _).setCell (p := ⟨b, 1, none⟩) (.inl rfl) _).setCell (p := ⟨b, 2, none⟩) (.inl rfl) _⟩
def quoted (s : ByteArray) : Prop := 2 ≤ s.size ∧ s.data.toList.head? = some 39 ∧ s.data.toList.getLast? = some 39
instance (s : ByteArray) : Decidable (quoted s) := by unfold quoted; infer_instance
def mid (s : ByteArray) : ByteArray := s.extract 1 (s.size - 1)
def noneB : ByteArray := ⟨#[110, 111, 110, 101]⟩
def zeroV : Vv := (0, 0, ⟨#[]⟩)
def pd (s : ByteArray) : Vv × Int :=
  if s = noneB then (zeroV, 0) else match numOk s.data.toList with
  | some n => ((1, n, ⟨#[]⟩), 0)
  | none => if quoted s ∧ formB (2, 0, mid s) = true then ((2, 0, mid s), 0) else (zeroV, 5)
theorem quoted_num {s : ByteArray} (h : quoted s) : numOk s.data.toList = none ∧ s ≠ noneB := by
  obtain ⟨h1, h2, h3⟩ := h
  refine ⟨?_, fun e => by subst e; revert h2; decide⟩
  obtain ⟨c, r, e⟩ : ∃ c r, s.data.toList = c :: r := by
    cases hl : s.data.toList with
    | nil => rw [hl] at h2; cases h2
    | cons c r => exact ⟨c, r, rfl⟩
  rw [e] at h2 ⊢
  simp only [List.head?_cons, Option.some.injEq] at h2
  subst h2
  unfold numOk
  simp only [List.head?_cons, Option.map_some]
  have h39 : ¬ (some (39 : UInt8).toNat = some 45) := by decide
  simp only [h39, if_false]
  rw [if_neg]
  rintro ⟨_, _, _, h4⟩
  have := h4 39 (by simp)
  revert this; decide
theorem mid_back {s : ByteArray} (h : quoted s) : (⟨#[39]⟩ ++ mid s) ++ ⟨#[39]⟩ = s := by
  obtain ⟨h1, h2, h3⟩ := h
  apply toList_inj
  have hl : s.data.toList.length = s.size := by rw [Array.length_toList]; rfl
  have e : (mid s).data.toList = (s.data.toList.drop 1).take (s.size - 1 - 1) := by
    unfold mid
    rw [ByteArray.data_extract, Array.toList_extract, List.extract_eq_take_drop]
  simp only [ByteArray.data_append, Array.toList_append, e]
  cases hs : s.data.toList with
  | nil => rw [hs] at h2; cases h2
  | cons c r =>
    rw [hs] at h2 h3 hl
    simp only [List.head?_cons, Option.some.injEq] at h2
    subst h2
    have hr : r ≠ [] := by intro e; subst e; simp at hl; omega
    have hlast : r.getLast? = some 39 := by
      cases r with
      | nil => exact absurd rfl hr
      | cons x r => simpa using h3
    have hr2 : r = r.take (s.size - 1 - 1) ++ [39] := by
      have e1 := List.dropLast_concat_getLast hr
      have e2 : r.getLast hr = 39 := by
        rw [List.getLast?_eq_some_getLast hr] at hlast
        simpa using hlast
      rw [e2, List.dropLast_eq_take] at e1
      have e3 : r.length - 1 = s.size - 1 - 1 := by simp at hl; omega
      rw [e3] at e1
      exact e1.symm
    simp only [List.drop_succ_cons, List.drop_zero]
    show [39] ++ List.take (s.size - 1 - 1) r ++ [39] = 39 :: r
    simp only [List.cons_append, List.nil_append]
    rw [← hr2]
theorem bytes_head {s : ByteArray} (h : 0 < s.size) : s.data.toList.head? = some (s[0]'h) := by
  rw [List.head?_eq_getElem?, ByteArray.getElem_eq_getElem_data, Array.getElem?_toList]
  exact Array.getElem?_eq_getElem h
theorem bytes_last {s : ByteArray} {L : Nat} (h : L < s.size) (hL : L + 1 = s.size) : s.data.toList.getLast? = some (s[L]'h) := by
  have hl : s.data.toList.length = s.size := by rw [Array.length_toList]; rfl
  rw [List.getLast?_eq_getElem?, hl, ByteArray.getElem_eq_getElem_data, Array.getElem?_toList]
  have : s.size - 1 = L := by omega
  rw [this]
  exact Array.getElem?_eq_getElem h
theorem pd_quoted {s : ByteArray} (h : quoted s) : pd s = if formB (2, 0, mid s) = true then ((2, 0, mid s), 0) else (zeroV, 5) := by
  obtain ⟨h1, h2⟩ := quoted_num h
  unfold pd
  rw [if_neg h2, h1]
  simp only [h, true_and]
theorem none_pint (v : Int) : pint noneB ≠ .ok v := by
  intro h
  have e : (match pint noneB with | .ok _ => true | _ => false) = false := by decide +kernel
  rw [h] at e
  cases e
theorem pd_int {s : ByteArray} (hq : ¬ quoted s) {n : Int} (h : pint s = .ok n) : pd s = if s = ⟨(Lib.itoa n).toArray⟩ then ((1, n, ⟨#[]⟩), 0) else (zeroV, 5) := by
  have hb := Lib.parseIntB_bounds h
  have hne : s ≠ noneB := fun e => by subst e; exact none_pint _ h
  unfold pd
  rw [if_neg hne]
  by_cases e : s = ⟨(Lib.itoa n).toArray⟩
  · have e2 : s.data.toList = Lib.itoa n := by rw [e]
    rw [(numOk_iff _ n).2 ⟨e2, by have := hb.1; simp at this; omega, by have := hb.2; simp at this; omega⟩, if_pos e]
  · have hno : numOk s.data.toList = none := by
      cases hn : numOk s.data.toList with
      | none => rfl
      | some m =>
        obtain ⟨m1, m2, m3⟩ := (numOk_iff _ m).1 hn
        have := parse_itoa m2 m3
        rw [← m1] at this
        have := h.symm.trans this
        simp only [Lib.NumEnd.ok.injEq] at this
        subst this
        exact absurd (toList_inj (by rw [m1])) e
    rw [hno, if_neg e]
    simp only [hq, false_and, if_false]
theorem pd_no {s : ByteArray} (hq : ¬ quoted s) (h : ∀ v, pint s ≠ .ok v) : pd s = if s = noneB then (zeroV, 0) else (zeroV, 5) := by
  unfold pd
  by_cases e : s = noneB
  · rw [if_pos e, if_pos e]
  · have hno : numOk s.data.toList = none := by
      cases hn : numOk s.data.toList with
      | none => rfl
      | some m =>
        obtain ⟨m1, m2, m3⟩ := (numOk_iff _ m).1 hn
        have := parse_itoa m2 m3
        rw [← m1] at this
        exact absurd this (h m)
    rw [if_neg e, if_neg e, hno]
    simp only [hq, false_and, if_false]
end Go.Proofs.YtnicaiofjficnaaDoor
