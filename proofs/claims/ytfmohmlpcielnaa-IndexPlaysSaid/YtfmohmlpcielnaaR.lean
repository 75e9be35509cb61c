/- Delete: the plain law. -/
import Derived.Test.YtfmohmlpcielnaaQ
namespace Go.Proofs.Ytfmohmlpcielnaa
open Go.RowKit
def eraI (L : List It) (j : Nat) : List It := L.take j ++ L.drop (j + 1)
theorem eraI_len {L : List It} {j : Nat} (h : j < L.length) : (eraI L j).length = L.length - 1 := by
  simp [eraI]; omega
def delI (PL : List (List It)) (i j : Nat) : List (List It) :=
  if 2 ≤ (eraI (PL[i]?.getD []) j).length then PL.take i ++ [eraI (PL[i]?.getD []) j] ++ PL.drop (i + 1)
  else if PL.length = 1 then (if (eraI (PL[i]?.getD []) j).length = 0 then [] else [eraI (PL[i]?.getD []) j])
  else if i + 1 < PL.length then PL.take i ++ split8 (eraI (PL[i]?.getD []) j ++ PL[i + 1]?.getD []) ++ PL.drop (i + 2)
  else PL.take (i - 1) ++ split8 (PL[i - 1]?.getD [] ++ eraI (PL[i]?.getD []) j) ++ PL.drop (i + 1)
def delP (PL : List (List It)) (k : Int) : List (List It) := if (findP PL k).2.2 then delI PL (findP PL k).1 (findP PL k).2.1 else PL
def dropL (M : List It) (k : Int) : List It := M.filter (fun x => decide (x.1 ≠ k))
theorem dropL_split {A B : List It} {x : It} (h : Up (A ++ x :: B)) : dropL (A ++ x :: B) x.1 = A ++ B := by
  unfold Up at h
  rw [List.pairwise_append] at h
  obtain ⟨h1, h2, h3⟩ := h
  obtain ⟨h4, h5⟩ := List.pairwise_cons.1 h2
  unfold dropL
  rw [List.filter_append, List.filter_cons]
  rw [filter_all (L := A) (fun y hy => by have := h3 y hy x (by simp); simp; omega), filter_all (L := B) (fun y hy => by have := h4 y hy; simp; omega)]
  simp
theorem two_split {α : Type} {l : List α} {i : Nat} {x y : α} (h : l[i]? = some x) (h' : l[i + 1]? = some y) : l = l.take i ++ x :: y :: l.drop (i + 2) := by
  conv => lhs; rw [split_at h]
  congr 2
  obtain ⟨hl, e⟩ := List.getElem?_eq_some_iff.1 h'
  rw [← List.getElem_cons_drop hl, e]
theorem delP_flat {PL : List (List It)} (hw : Wf PL) (k : Int) : (delP PL k).flatten = dropL PL.flatten k := by
  obtain ⟨i, j, b, hf⟩ : ∃ i j b, findP PL k = (i, j, b) := ⟨_, _, _, rfl⟩
  unfold delP
  rw [hf]
  cases b with
  | false =>
    rw [if_neg (by simp)]
    have h1 := getI_out hw hf
    unfold getI at h1
    rw [Option.map_eq_none_iff, List.find?_eq_none] at h1
    unfold dropL
    exact (filter_all (fun x hx => by have := h1 x hx; simpa using this)).symm
  | true =>
    rw [if_pos rfl]
    obtain ⟨L, v0, hL, hj⟩ := findP_some hf
    have hil := (List.getElem?_eq_some_iff.1 hL).1
    have hfl : PL.flatten = ((PL.take i).flatten ++ L.take j) ++ (k, v0) :: (L.drop (j + 1) ++ (PL.drop (i + 1)).flatten) := by
      conv => lhs; rw [split_at hL]
      conv => lhs; rw [split_at hj]
      simp
    have hd : dropL PL.flatten k = (PL.take i).flatten ++ eraI L j ++ (PL.drop (i + 1)).flatten := by
      have hu := hw.up
      rw [hfl] at hu ⊢
      have := dropL_split hu
      rw [this]
      simp [eraI]
    rw [hd]
    unfold delI
    rw [hL, Option.getD_some]
    dsimp only
    split
    · simp
    · split
      · rename_i h2 h1
        have : i = 0 := by omega
        subst this
        have ed : PL.drop 1 = [] := List.drop_of_length_le (by omega)
        split
        · rename_i h0
          rw [List.eq_nil_of_length_eq_zero h0, ed]; simp
        · rw [ed]; simp
      · split
        · rename_i h2 h1 h3
          obtain ⟨B, hB⟩ : ∃ B, PL[i + 1]? = some B := ⟨_, List.getElem?_eq_getElem h3⟩
          have e : PL.drop (i + 1) = B :: PL.drop (i + 2) := by
            obtain ⟨hl, e⟩ := List.getElem?_eq_some_iff.1 hB
            rw [← List.getElem_cons_drop hl, e]
          rw [hB, e]
          simp [split8_flat]
        · rename_i h2 h1 h3
          obtain ⟨A, hA⟩ : ∃ A, PL[i - 1]? = some A := ⟨_, List.getElem?_eq_getElem (by omega)⟩
          have e : PL.take i = PL.take (i - 1) ++ [A] := by
            obtain ⟨hl, e⟩ := List.getElem?_eq_some_iff.1 hA
            have := List.take_succ_eq_append_getElem hl
            rw [show i - 1 + 1 = i by omega] at this
            rw [this, e]
          rw [hA, e]
          simp [split8_flat]
theorem dropL_up {M : List It} (h : Up M) (k : Int) : Up (dropL M k) := h.sublist (List.filter_sublist)
theorem delP_wf {PL : List (List It)} (hw : Wf PL) (k : Int) : Wf (delP PL k) := by
  have hup : Up (delP PL k).flatten := by rw [delP_flat hw]; exact dropL_up hw.up k
  unfold delP at hup ⊢
  obtain ⟨i, j, b, hf⟩ : ∃ i j b, findP PL k = (i, j, b) := ⟨_, _, _, rfl⟩
  rw [hf] at hup ⊢
  cases b with
  | false => exact hw
  | true =>
    rw [if_pos rfl] at hup ⊢
    obtain ⟨L, v0, hL, hj⟩ := findP_some hf
    have hil := (List.getElem?_eq_some_iff.1 hL).1
    have hjl := (List.getElem?_eq_some_iff.1 hj).1
    have hmem := List.mem_of_getElem? hL
    have hne := hw.ne L hmem
    have hel := eraI_len hjl
    unfold delI at hup ⊢
    rw [hL, Option.getD_some] at hup ⊢
    dsimp only at hup ⊢
    obtain ⟨M, hM⟩ : ∃ M, eraI L j = M := ⟨_, rfl⟩
    rw [hM] at hup hel ⊢
    by_cases h2 : 2 ≤ M.length
    · rw [if_pos h2] at hup ⊢
      refine ⟨fun X hX => ?_, fun h X hX => ?_, hup⟩
      · simp only [List.mem_append, List.mem_singleton] at hX
        rcases hX with (hX | rfl) | hX
        · exact hw.ne X (List.mem_of_mem_take hX)
        · omega
        · exact hw.ne X (List.mem_of_mem_drop hX)
      · have hl : 1 < PL.length := by simp at h; omega
        simp only [List.mem_append, List.mem_singleton] at hX
        rcases hX with (hX | rfl) | hX
        · exact hw.two hl X (List.mem_of_mem_take hX)
        · exact h2
        · exact hw.two hl X (List.mem_of_mem_drop hX)
    · rw [if_neg h2] at hup ⊢
      by_cases h1 : PL.length = 1
      · rw [if_pos h1] at hup ⊢
        by_cases h0 : M.length = 0
        · rw [if_pos h0] at hup ⊢
          exact ⟨by simp, by simp, hup⟩
        · rw [if_neg h0] at hup ⊢
          exact ⟨fun X hX => by simp at hX; subst hX; omega, by simp, hup⟩
      · rw [if_neg h1] at hup ⊢
        have hl : 1 < PL.length := by omega
        by_cases h3 : i + 1 < PL.length
        · rw [if_pos h3] at hup ⊢
          obtain ⟨B, hB⟩ : ∃ B, PL[i + 1]? = some B := ⟨_, List.getElem?_eq_getElem h3⟩
          rw [hB, Option.getD_some] at hup ⊢
          have hBn := hw.ne B (List.mem_of_getElem? hB)
          have hB2 := hw.two hl B (List.mem_of_getElem? hB)
          have hsp := split8_len (L := M ++ B) (by simp; omega) (by simp; omega)
          have h22 : 2 ≤ (M ++ B).length := by simp; omega
          refine ⟨fun X hX => ?_, fun _ X hX => ?_, hup⟩
          · simp only [List.mem_append] at hX
            rcases hX with (hX | hX) | hX
            · exact hw.ne X (List.mem_of_mem_take hX)
            · exact ⟨(hsp X hX).1, (hsp X hX).2.1⟩
            · exact hw.ne X (List.mem_of_mem_drop hX)
          · simp only [List.mem_append] at hX
            rcases hX with (hX | hX) | hX
            · exact hw.two hl X (List.mem_of_mem_take hX)
            · exact (hsp X hX).2.2 h22
            · exact hw.two hl X (List.mem_of_mem_drop hX)
        · rw [if_neg h3] at hup ⊢
          obtain ⟨B, hB⟩ : ∃ B, PL[i - 1]? = some B := ⟨_, List.getElem?_eq_getElem (by omega)⟩
          rw [hB, Option.getD_some] at hup ⊢
          have hBn := hw.ne B (List.mem_of_getElem? hB)
          have hB2 := hw.two hl B (List.mem_of_getElem? hB)
          have hsp := split8_len (L := B ++ M) (by simp; omega) (by simp; omega)
          have h22 : 2 ≤ (B ++ M).length := by simp; omega
          refine ⟨fun X hX => ?_, fun _ X hX => ?_, hup⟩
          · simp only [List.mem_append] at hX
            rcases hX with (hX | hX) | hX
            · exact hw.ne X (List.mem_of_mem_take hX)
            · exact ⟨(hsp X hX).1, (hsp X hX).2.1⟩
            · exact hw.ne X (List.mem_of_mem_drop hX)
          · simp only [List.mem_append] at hX
            rcases hX with (hX | hX) | hX
            · exact hw.two hl X (List.mem_of_mem_take hX)
            · exact (hsp X hX).2.2 h22
            · exact hw.two hl X (List.mem_of_mem_drop hX)
end Go.Proofs.Ytfmohmlpcielnaa
