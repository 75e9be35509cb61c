/- What a Put makes: plain. -/
import Derived.Test.YtfmohmlpcielnaaF
namespace Go.Proofs.Ytfmohmlpcielnaa
open Go.RowKit

/-- a list of items with one laid -/
def layL (M : List It) (k v : Int) : List It := M.filter (fun x => decide (x.1 < k)) ++ (k, v) :: M.filter (fun x => decide (k < x.1))
theorem filter_all {p : It → Bool} {L : List It} (h : ∀ x ∈ L, p x = true) : L.filter p = L := List.filter_eq_self.2 h
theorem filter_none {p : It → Bool} {L : List It} (h : ∀ x ∈ L, p x = false) : L.filter p = [] := List.filter_eq_nil_iff.2 (fun x hx => by rw [h x hx]; decide)
/-- where k stands: lesser ones ahead of A ++ C, greater ones in D ++ B -/
theorem layL_split {A C D : List It} {k v : Int} (h1 : ∀ x ∈ A, x.1 < k) (h2 : ∀ x ∈ C, x.1 = k) (h3 : ∀ x ∈ D, k < x.1) : layL (A ++ C ++ D) k v = A ++ (k, v) :: D := by
  unfold layL
  simp only [List.filter_append]
  rw [filter_all (p := fun x => decide (x.1 < k)) (L := A) (fun x hx => by have := h1 x hx; simpa using this), filter_none (p := fun x => decide (x.1 < k)) (L := C) (fun x hx => by have := h2 x hx; simp; omega), filter_none (p := fun x => decide (x.1 < k)) (L := D) (fun x hx => by have := h3 x hx; simp; omega),
    filter_none (p := fun x => decide (k < x.1)) (L := A) (fun x hx => by have := h1 x hx; simp; omega), filter_none (p := fun x => decide (k < x.1)) (L := C) (fun x hx => by have := h2 x hx; simp; omega), filter_all (p := fun x => decide (k < x.1)) (L := D) (fun x hx => by have := h3 x hx; simpa using this)]
  simp
theorem layL_up {M : List It} (h : Up M) (k v : Int) : Up (layL M k v) := by
  unfold layL Up
  rw [List.pairwise_append, List.pairwise_cons]
  refine ⟨h.sublist List.filter_sublist, ⟨fun y hy => ?_, h.sublist List.filter_sublist⟩, fun x hx y hy => ?_⟩
  · rw [List.mem_filter] at hy; simpa using hy.2
  · rw [List.mem_filter] at hx
    have hx := hx.2
    simp at hx
    rw [List.mem_cons] at hy
    rcases hy with rfl | hy
    · exact hx
    · rw [List.mem_filter] at hy
      have hy := hy.2
      simp at hy
      omega

def putI (L : List It) (j : Nat) (x : It) : List It := L.take j ++ x :: L.drop j
theorem putI_len (L : List It) (j : Nat) (x : It) : (putI L j x).length = L.length + 1 := by
  simp [putI]; omega
/-- the page that takes a new item, and its place there -/
def spot (PL : List (List It)) (k : Int) : Nat × Nat :=
  if aft (PL.map lastK) k = PL.length then (PL.length - 1, (PL.getLast?.getD []).length) else (aft (PL.map lastK) k, (findP PL k).2.1)
def split8 (L : List It) : List (List It) := if 8 < L.length then [L.take (L.length / 2), L.drop (L.length / 2)] else [L]
def putP (PL : List (List It)) (k v : Int) : List (List It) :=
  if (findP PL k).2.2 then PL.set (findP PL k).1 ((PL[(findP PL k).1]?.getD []).set (findP PL k).2.1 (k, v))
  else if PL = [] then [[(k, v)]]
  else PL.take (spot PL k).1 ++ split8 (putI (PL[(spot PL k).1]?.getD []) (spot PL k).2 (k, v)) ++ PL.drop ((spot PL k).1 + 1)
theorem split8_flat (L : List It) : (split8 L).flatten = L := by
  unfold split8; split <;> simp

theorem aft_cons (y : Int) (S : List Int) (n : Int) : aft (y :: S) n = if y < n then aft S n + 1 else 0 := by
  unfold aft
  rw [List.takeWhile_cons]
  by_cases h : y < n <;> simp [h]
theorem aft_lt : ∀ {S : List Int} {n : Int} {p : Nat} {x : Int}, p < aft S n → S[p]? = some x → x < n
  | [], n, p, x, hp, hx => by simp at hx
  | y :: S, n, p, x, hp, hx => by
    rw [aft_cons] at hp
    split at hp
    · rename_i hy
      cases p with
      | zero => simp at hx; omega
      | succ p => exact aft_lt (S := S) (p := p) (by omega) (by simpa using hx)
    · omega
theorem aft_ge : ∀ {S : List Int} {n : Int} {x : Int}, S[aft S n]? = some x → n ≤ x
  | [], n, x, hx => by simp at hx
  | y :: S, n, x, hx => by
    rw [aft_cons] at hx
    split at hx
    · exact aft_ge (S := S) (by simpa using hx)
    · simp at hx; omega
theorem take_mem {α : Type} {l : List α} {n : Nat} {x : α} (h : x ∈ l.take n) : ∃ p, p < n ∧ l[p]? = some x := by
  obtain ⟨p, hp⟩ := List.mem_iff_getElem?.1 h
  rw [List.getElem?_take] at hp
  split at hp
  · exact ⟨p, by assumption, hp⟩
  · cases hp
theorem drop_mem {α : Type} {l : List α} {n : Nat} {x : α} (h : x ∈ l.drop n) : ∃ p, n ≤ p ∧ l[p]? = some x := by
  obtain ⟨p, hp⟩ := List.mem_iff_getElem?.1 h
  rw [List.getElem?_drop] at hp
  exact ⟨n + p, by omega, hp⟩
/-- all ahead of the page found are lesser -/
theorem ahead {PL : List (List It)} (hw : Wf PL) {k : Int} {n : Nat} (hn : n ≤ aft (PL.map lastK) k) : ∀ x ∈ (PL.take n).flatten, x.1 < k := by
  intro x hx
  obtain ⟨L, hL, hxL⟩ := List.mem_flatten.1 hx
  obtain ⟨p, hp, hpl⟩ := take_mem hL
  have h1 : lastK L < k := aft_lt (S := PL.map lastK) (p := p) (by omega) (by rw [List.getElem?_map, hpl]; rfl)
  have h2 := lastK_ge ((up_flatten hw.up).1 L (List.mem_of_getElem? hpl)) x hxL
  omega
theorem behind {PL : List (List It)} (hw : Wf PL) {k : Int} {L : List It} (hL : PL[aft (PL.map lastK) k]? = some L) : k ≤ lastK L ∧ ∀ x ∈ (PL.drop (aft (PL.map lastK) k + 1)).flatten, k < x.1 := by
  have h1 : k ≤ lastK L := aft_ge (S := PL.map lastK) (by rw [List.getElem?_map, hL]; rfl)
  refine ⟨h1, fun x hx => ?_⟩
  obtain ⟨M, hM, hxM⟩ := List.mem_flatten.1 hx
  obtain ⟨p, hp, hpl⟩ := drop_mem hM
  obtain ⟨u, hu, eu⟩ := lastK_mem (hw.ne L (List.mem_of_getElem? hL)).1
  obtain ⟨q1, e1⟩ := List.getElem?_eq_some_iff.1 hL
  obtain ⟨q2, e2⟩ := List.getElem?_eq_some_iff.1 hpl
  have := (List.pairwise_iff_getElem.1 (up_flatten hw.up).2) _ p q1 q2 (by omega)
  rw [e1, e2] at this
  have := this u hu x hxM
  omega
theorem inner {L : List It} (hL : Up L) (k : Int) : (∀ x ∈ L.take (aft (L.map (·.1)) k), x.1 < k) ∧ ∀ x ∈ L.drop (aft (L.map (·.1)) k), k ≤ x.1 := by
  refine ⟨fun x hx => ?_, fun x hx => ?_⟩
  · obtain ⟨p, hp, hpl⟩ := take_mem hx
    exact aft_lt (S := L.map (·.1)) hp (by rw [List.getElem?_map, hpl]; rfl)
  · obtain ⟨p, hp, hpl⟩ := drop_mem hx
    obtain ⟨hl, e⟩ := List.getElem?_eq_some_iff.1 hpl
    have hz : L[aft (L.map (·.1)) k]? = some (L[aft (L.map (·.1)) k]'(by omega)) := by simp
    have h1 : k ≤ (L[aft (L.map (·.1)) k]'(by omega)).1 := aft_ge (S := L.map (·.1)) (by rw [List.getElem?_map, hz]; rfl)
    rcases Nat.eq_or_lt_of_le hp with h2 | h2
    · subst h2; rw [← e]; exact h1
    · have := (List.pairwise_iff_getElem.1 hL) _ p (by omega) hl h2
      rw [e] at this; omega
theorem split_at {α : Type} {l : List α} {n : Nat} {x : α} (h : l[n]? = some x) : l = l.take n ++ x :: l.drop (n + 1) := by
  obtain ⟨hl, e⟩ := List.getElem?_eq_some_iff.1 h
  rw [← e, List.getElem_cons_drop, List.take_append_drop]
theorem set_at {α : Type} {l : List α} {n : Nat} (h : n < l.length) (y : α) : l.set n y = l.take n ++ y :: l.drop (n + 1) := by
  rw [List.set_eq_take_append_cons_drop, if_pos h]
theorem putP_flat {PL : List (List It)} (hw : Wf PL) (k v : Int) : (putP PL k v).flatten = layL PL.flatten k v := by
  obtain ⟨i, hi⟩ : ∃ i, aft (PL.map lastK) k = i := ⟨_, rfl⟩
  cases hL : PL[i]? with
  | none =>
    have hf : findP PL k = (i, 0, false) := by unfold findP; rw [hi, hL]
    have hil : i = PL.length := by
      have h1 := aft_le (PL.map lastK) k
      rw [hi, List.length_map] at h1
      have := List.getElem?_eq_none_iff.1 hL
      omega
    have hall : ∀ x ∈ PL.flatten, x.1 < k := fun x hx => by
      have := ahead hw (k := k) (n := PL.length) (by omega)
      rw [List.take_length] at this
      exact this x hx
    unfold putP
    rw [hf]
    simp only [Bool.false_eq_true, if_false]
    have hlay : layL PL.flatten k v = PL.flatten ++ [(k, v)] := by
      have := layL_split (A := PL.flatten) (C := []) (D := []) (k := k) (v := v) hall (by simp) (by simp)
      simpa using this
    by_cases he : PL = []
    · subst he; simp [layL]
    · rw [if_neg he]
      have hs : spot PL k = (PL.length - 1, (PL.getLast?.getD []).length) := by unfold spot; rw [if_pos (by omega)]
      have hpos : 0 < PL.length := by
        cases PL with
        | nil => exact absurd rfl he
        | cons _ _ => simp
      have hg : PL[PL.length - 1]? = some (PL[PL.length - 1]'(by omega)) := by simp
      have hgl : PL.getLast? = some (PL[PL.length - 1]'(by omega)) := by rw [List.getLast?_eq_getElem?, hg]
      rw [hs]
      simp only [hg, hgl, Option.getD_some, List.flatten_append, split8_flat]
      rw [hlay]
      conv => rhs; rw [split_at hg]
      simp only [List.flatten_append, List.flatten_cons, putI]
      have : PL.drop (PL.length - 1 + 1) = [] := List.drop_of_length_le (by omega)
      rw [this]
      simp
  | some L =>
    have hLw := hw.ne L (List.mem_of_getElem? hL)
    have hup := (up_flatten hw.up).1 L (List.mem_of_getElem? hL)
    obtain ⟨j, hj⟩ : ∃ j, aft (L.map (·.1)) k = j := ⟨_, rfl⟩
    have hf : findP PL k = (i, j, decide ((L.map (·.1))[j]? = some k)) := by unfold findP; rw [hi, hL]; simp only [hj]
    have ha := ahead hw (k := k) (n := i) (by omega)
    have hb := behind hw (k := k) (L := L) (by rw [hi]; exact hL)
    rw [hi] at hb
    obtain ⟨in1, in2⟩ := inner hup k
    rw [hj] at in1 in2
    have hil : i < PL.length := (List.getElem?_eq_some_iff.1 hL).1
    have hfl : PL.flatten = (PL.take i).flatten ++ L ++ (PL.drop (i + 1)).flatten := by
      conv => lhs; rw [split_at hL]
      simp
    unfold putP
    rw [hf]
    by_cases hok : (L.map (·.1))[j]? = some k
    · simp only [hok, decide_true, if_true]
      obtain ⟨x, hx, hxk⟩ : ∃ x, L[j]? = some x ∧ x.1 = k := by
        rw [List.getElem?_map, Option.map_eq_some_iff] at hok; exact hok
      have hjl := (List.getElem?_eq_some_iff.1 hx).1
      rw [hL, Option.getD_some, set_at hil, set_at hjl, hfl]
      have hx2 : ∀ y ∈ L.drop (j + 1), k < y.1 := fun y hy => by
        obtain ⟨p, hp, hpl⟩ := drop_mem hy
        obtain ⟨q2, e2⟩ := List.getElem?_eq_some_iff.1 hpl
        obtain ⟨q1, e1⟩ := List.getElem?_eq_some_iff.1 hx
        have := (List.pairwise_iff_getElem.1 hup) j p q1 q2 (by omega)
        rw [e1, e2] at this; omega
      have := layL_split (A := (PL.take i).flatten ++ L.take j) (C := [x]) (D := L.drop (j + 1) ++ (PL.drop (i + 1)).flatten) (k := k) (v := v)
        (fun y hy => by rcases List.mem_append.1 hy with h | h; exact ha y h; exact in1 y h) (fun y hy => by simp at hy; subst hy; exact hxk) (fun y hy => by rcases List.mem_append.1 hy with h | h; exact hx2 y h; exact hb.2 y h)
      have e : (PL.take i).flatten ++ L ++ (PL.drop (i + 1)).flatten = ((PL.take i).flatten ++ L.take j) ++ [x] ++ (L.drop (j + 1) ++ (PL.drop (i + 1)).flatten) := by
        conv => lhs; rw [split_at hx]
        simp
      rw [e, this]
      simp
    · simp only [hok, decide_false, Bool.false_eq_true, if_false]
      have he : PL ≠ [] := by intro e; rw [e] at hil; simp at hil
      rw [if_neg he]
      have hs : spot PL k = (i, j) := by unfold spot; rw [if_neg (by omega), hi, hf]
      rw [hs]
      simp only [hL, Option.getD_some, List.flatten_append, split8_flat]
      rw [hfl]
      have hx2 : ∀ y ∈ L.drop j, k < y.1 := fun y hy => by
        have h1 := in2 y hy
        obtain ⟨p, hp, hpl⟩ := drop_mem hy
        rcases Nat.eq_or_lt_of_le hp with h2 | h2
        · subst h2
          rcases Int.lt_or_eq_of_le h1 with h3 | h3
          · exact h3
          · exact absurd (by rw [List.getElem?_map, hpl, h3]; rfl) hok
        · obtain ⟨q2, e2⟩ := List.getElem?_eq_some_iff.1 hpl
          have h3 := in2 (L[j]'(by omega)) (by
            rw [List.mem_iff_getElem?]
            exact ⟨0, by simp⟩)
          have := (List.pairwise_iff_getElem.1 hup) j p (by omega) q2 h2
          rw [e2] at this; omega
      have := layL_split (A := (PL.take i).flatten ++ L.take j) (C := []) (D := L.drop j ++ (PL.drop (i + 1)).flatten) (k := k) (v := v)
        (fun y hy => by rcases List.mem_append.1 hy with h | h; exact ha y h; exact in1 y h) (by simp) (fun y hy => by rcases List.mem_append.1 hy with h | h; exact hx2 y h; exact hb.2 y h)
      have e : (PL.take i).flatten ++ L ++ (PL.drop (i + 1)).flatten = ((PL.take i).flatten ++ L.take j) ++ [] ++ (L.drop j ++ (PL.drop (i + 1)).flatten) := by
        rw [List.append_nil, List.append_assoc, List.append_assoc, ← List.append_assoc (L.take j), List.take_append_drop]
      rw [e, this]
      simp [putI]
theorem spot_lt {PL : List (List It)} (h : PL ≠ []) (k : Int) : (spot PL k).1 < PL.length := by
  have hpos : 0 < PL.length := by
    cases PL with
    | nil => exact absurd rfl h
    | cons _ _ => simp
  have := aft_le (PL.map lastK) k
  rw [List.length_map] at this
  unfold spot
  split
  · simp only; omega
  · simp only; omega
theorem split8_len {L : List It} (h0 : 0 < L.length) (h9 : L.length ≤ 9) : ∀ M ∈ split8 L, 0 < M.length ∧ M.length ≤ 8 ∧ (2 ≤ L.length → 2 ≤ M.length) := by
  intro M hM
  unfold split8 at hM
  split at hM
  · rename_i h8
    simp only [List.mem_cons, List.not_mem_nil, or_false] at hM
    rcases hM with rfl | rfl <;> (simp; omega)
  · simp only [List.mem_singleton] at hM
    subst hM
    exact ⟨h0, by omega, id⟩
theorem split8_one {L : List It} (h : (split8 L).length = 1) : split8 L = [L] := by
  unfold split8 at h ⊢
  split
  · rename_i h8; rw [if_pos h8] at h; simp at h
  · rfl
theorem putP_wf {PL : List (List It)} (hw : Wf PL) (k v : Int) : Wf (putP PL k v) := by
  have hup : Up (putP PL k v).flatten := by rw [putP_flat hw]; exact layL_up hw.up k v
  unfold putP at hup ⊢
  by_cases hok : (findP PL k).2.2 = true
  · rw [if_pos hok] at hup ⊢
    obtain ⟨i, j, e⟩ : ∃ i j, findP PL k = (i, j, true) := ⟨_, _, by rw [← hok]⟩
    rw [e] at hup ⊢
    have hi : ∃ L, PL[i]? = some L := by
      unfold findP at e
      cases hL : PL[aft (PL.map lastK) k]? with
      | none => rw [hL] at e; simp at e
      | some L => rw [hL] at e; simp only [Prod.mk.injEq] at e; obtain ⟨rfl, _⟩ := e; exact ⟨L, hL⟩
    obtain ⟨L, hL⟩ := hi
    have hmem := List.mem_of_getElem? hL
    rw [hL, Option.getD_some] at hup ⊢
    refine ⟨fun M hM => ?_, fun h M hM => ?_, hup⟩
    · rcases List.mem_or_eq_of_mem_set hM with h | rfl
      · exact hw.ne M h
      · simpa using hw.ne L hmem
    · rw [List.length_set] at h
      rcases List.mem_or_eq_of_mem_set hM with h' | rfl
      · exact hw.two h M h'
      · simpa using hw.two h L hmem
  · rw [if_neg hok] at hup ⊢
    by_cases he : PL = []
    · rw [if_pos he] at hup ⊢
      refine ⟨fun M hM => ?_, fun h => by simp at h, hup⟩
      simp at hM; subst hM; simp
    · rw [if_neg he] at hup ⊢
      have hlt := spot_lt he k
      obtain ⟨L, hL⟩ : ∃ L, PL[(spot PL k).1]? = some L := ⟨_, List.getElem?_eq_getElem hlt⟩
      have hmem := List.mem_of_getElem? hL
      have hne := hw.ne L hmem
      rw [hL, Option.getD_some] at hup ⊢
      have hsp := split8_len (L := putI L (spot PL k).2 (k, v)) (by rw [putI_len]; omega) (by rw [putI_len]; omega)
      refine ⟨fun M hM => ?_, fun h M hM => ?_, hup⟩
      · rcases List.mem_append.1 hM with hM | hM
        · rcases List.mem_append.1 hM with hM | hM
          · exact hw.ne M (List.mem_of_mem_take hM)
          · exact ⟨(hsp M hM).1, (hsp M hM).2.1⟩
        · exact hw.ne M (List.mem_of_mem_drop hM)
      · by_cases h2 : 1 < PL.length
        · rcases List.mem_append.1 hM with hM | hM
          · rcases List.mem_append.1 hM with hM | hM
            · exact hw.two h2 M (List.mem_of_mem_take hM)
            · exact (hsp M hM).2.2 (by rw [putI_len]; omega)
          · exact hw.two h2 M (List.mem_of_mem_drop hM)
        · have e0 : (spot PL k).1 = 0 := by omega
          rw [e0] at hM
          simp only [List.take_zero, List.nil_append, Nat.zero_add] at hM
          have ed : PL.drop 1 = [] := List.drop_of_length_le (by omega)
          rw [ed, List.append_nil] at hM
          exact (hsp M hM).2.2 (by rw [putI_len]; omega)
end Go.Proofs.Ytfmohmlpcielnaa
