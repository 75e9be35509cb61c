/- Range: the walk. -/
import Derived.Test.YtfmohmlpcielnaaL
namespace Go.Proofs.Ytfmohmlpcielnaa
open Go.RowKit

def rangeI (M : List It) (from_ to : Int) : List It := M.filter (fun x => decide (from_ ≤ x.1) && decide (x.1 ≤ to))
def restP (PL : List (List It)) (p q : Nat) : List It := (PL[p]?.getD []).drop q ++ (PL.drop (p + 1)).flatten
def upTo (M : List It) (to : Int) : List It := M.filter (fun x => decide (x.1 ≤ to))
theorem restP_done {PL : List (List It)} {p q : Nat} (h : PL.length ≤ p) : restP PL p q = [] := by
  have e : PL.drop (p + 1) = [] := List.drop_of_length_le (by omega)
  unfold restP
  rw [List.getElem?_eq_none h, e]
  simp
theorem rangeI_start {PL : List (List It)} (hw : Wf PL) {k to : Int} {i j : Nat} {b : Bool} (hf : findP PL k = (i, j, b)) : rangeI PL.flatten k to = upTo (restP PL i j) to := by
  cases hL : PL[i]? with
  | none =>
    obtain ⟨rfl, rfl, rfl, h⟩ := find_out hw hf hL
    rw [restP_done (Nat.le_refl _)]
    unfold rangeI upTo
    rw [filter_none (fun x hx => by have := h x hx; simp; omega)]
    rfl
  | some L =>
    unfold rangeI upTo restP
    rw [hL]
    obtain ⟨_, h2, h3, h4, _⟩ := find_in hw hf hL
    rw [h4, List.filter_append, filter_none (fun x hx => by have := h2 x hx; simp; omega)]
    simp only [Option.getD_some, List.nil_append]
    refine List.filter_congr fun x hx => ?_
    have := h3 x hx
    simp [this]
theorem restP_next {PL : List (List It)} {p : Nat} {L : List It} (h : PL[p]? = some L) : restP PL p L.length = restP PL (p + 1) 0 := by
  unfold restP
  rw [h, Option.getD_some, List.drop_length, List.nil_append, List.drop_zero]
  cases h2 : PL[p + 1]? with
  | none =>
    rw [List.drop_eq_nil_of_le (by rw [List.getElem?_eq_none_iff] at h2; omega), List.drop_eq_nil_of_le (by rw [List.getElem?_eq_none_iff] at h2; omega)]
    simp
  | some M =>
    obtain ⟨hl, e⟩ := List.getElem?_eq_some_iff.1 h2
    rw [← List.getElem_cons_drop hl, e]
    simp
theorem restP_cons {PL : List (List It)} {p q : Nat} {L : List It} {x : It} (h : PL[p]? = some L) (hx : L[q]? = some x) : restP PL p q = x :: restP PL p (q + 1) := by
  obtain ⟨hl, e⟩ := List.getElem?_eq_some_iff.1 hx
  unfold restP
  rw [h, Option.getD_some, ← List.getElem_cons_drop hl, e]
  simp
theorem restP_sub {PL : List (List It)} {p q : Nat} (hw : Wf PL) : Up (restP PL p q) := by
  have hu := hw.up
  cases h : PL[p]? with
  | none => rw [restP_done (List.getElem?_eq_none_iff.1 h)]; exact List.Pairwise.nil
  | some L =>
    refine hu.sublist ?_
    unfold restP
    rw [h, Option.getD_some]
    conv => rhs; rw [split_at h]
    rw [List.flatten_append, List.flatten_cons]
    exact ((List.drop_sublist q L).append (List.Sublist.refl _)).trans (List.sublist_append_right _ _)
theorem upTo_take {PL : List (List It)} {p q : Nat} {L : List It} {x : It} {to : Int} (h : PL[p]? = some L) (hx : L[q]? = some x) (hle : x.1 ≤ to) : upTo (restP PL p q) to = x :: upTo (restP PL p (q + 1)) to := by
  rw [restP_cons h hx]
  simp [upTo, hle]
theorem upTo_stop {PL : List (List It)} (hw : Wf PL) {p q : Nat} {L : List It} {x : It} {to : Int} (h : PL[p]? = some L) (hx : L[q]? = some x) (hlt : to < x.1) : upTo (restP PL p q) to = [] := by
  have hu := restP_sub (p := p) (q := q) hw
  rw [restP_cons h hx] at hu ⊢
  unfold upTo
  refine filter_none fun y hy => ?_
  rcases List.mem_cons.1 hy with rfl | hy
  · simp; omega
  · have := (List.pairwise_cons.1 hu).1 y hy
    simp; omega
def RangePost (w : World) (R : List It) (e : Ending) (w' : World) : Prop := ∃ ao c, e = .returned (.slice ao R.length c) ∧ Seg w' 33 2 (.slice ao R.length c) R.length (icells R) ∧ (∀ g, (Value.slice ao R.length c).ownBlock = some g → w.heap.size ≤ g) ∧ Kept (fun _ => False) w w'
end Go.Proofs.Ytfmohmlpcielnaa
