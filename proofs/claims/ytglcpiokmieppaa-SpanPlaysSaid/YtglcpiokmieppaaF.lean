/- cut. -/
import Derived.Test.YtglcpiokmieppaaE
namespace Go.Proofs.Ytglcpiokmieppaa
open Go.RowKit

def cutM (S : List Sp) (a b : Int) : List Sp := (S.drop (aft S a)).takeWhile (fun x => decide (x.1 ≤ b))
def cutJ (S : List Sp) (a b : Int) : Nat := aft S a + (cutM S a b).length
def cutA (M : List Sp) (a : Int) : List Sp := (M.filter (fun x => decide (x.1 < a))).map (fun x => (x.1, a - 1))
def cutB (M : List Sp) (b : Int) : List Sp := (M.filter (fun x => decide (b < x.2))).map (fun x => (b + 1, x.2))
def cutS (S : List Sp) (a b : Int) : List Sp := S.take (aft S a) ++ S.drop (cutJ S a b)
theorem tw_step {α : Type} (p : α → Bool) : ∀ (l : List α) (k : Nat), k ≤ (l.takeWhile p).length → (∀ x, l[k]? = some x → (p x = true → (l.takeWhile p)[k]? = some x) ∧ (p x = false → k = (l.takeWhile p).length)) ∧ (l[k]? = none → k = (l.takeWhile p).length)
  | [], k, h => by simp at h; subst h; simp
  | y :: l, 0, h => by
    refine ⟨fun x hx => ?_, fun h => by simp at h⟩
    simp at hx; subst hx
    refine ⟨fun h => by simp [List.takeWhile_cons, h], fun h => by simp [List.takeWhile_cons, h]⟩
  | y :: l, k + 1, h => by
    by_cases hy : p y = true
    · simp [List.takeWhile_cons, hy] at h ⊢
      have := tw_step p l k h
      simpa using this
    · simp [List.takeWhile_cons, hy] at h
theorem aft_le (S : List Sp) (n : Int) : aft S n ≤ S.length := by
  unfold aft
  exact List.Sublist.length_le (List.takeWhile_sublist _)
theorem tw_get {α : Type} (p : α → Bool) : ∀ (l : List α) (k : Nat) (x : α), (l.takeWhile p)[k]? = some x → p x = true ∧ l[k]? = some x
  | [], k, x, h => by simp at h
  | y :: l, k, x, h => by
    by_cases hy : p y = true
    · match k, h with
      | 0, h => simp [List.takeWhile_cons, hy] at h; subst h; exact ⟨hy, rfl⟩
      | k + 1, h => simp [List.takeWhile_cons, hy] at h; simpa using tw_get p l k x h
    · simp [List.takeWhile_cons, hy] at h
theorem cutJ_le (S : List Sp) (a b : Int) : cutJ S a b ≤ S.length := by
  have h := List.Sublist.length_le (List.takeWhile_sublist (fun x : Sp => decide (x.1 ≤ b)) (l := S.drop (aft S a)))
  have := aft_le S a
  simp at h
  unfold cutJ cutM
  omega
/-- the numbers of a set fit: so many spans at most -/
theorem Good.fst {S : List Sp} (h : Good S) : ∀ (i : Nat) (x : Sp), S[i]? = some x → (2 * i : Int) ≤ x.1
  | 0, x, hx => by have := (h.b x (List.mem_of_getElem? hx)).1; simpa using this
  | i + 1, x, hx => by
    have hl : i < S.length := by have := (List.getElem?_eq_some_iff.1 hx).1; omega
    have h1 := h.fst i S[i] (by simp [hl])
    have h2 := h.r i S[i] x (by simp [hl]) hx
    have h3 := h.b S[i] (List.getElem_mem _)
    omega
theorem Good.len {S : List Sp} (h : Good S) : S.length ≤ 2147483648 := by
  rcases Nat.eq_zero_or_pos S.length with h0 | h0
  · omega
  · have hl : S.length - 1 < S.length := by omega
    have h1 := h.fst (S.length - 1) S[S.length - 1] (by simp [hl])
    have h2 := h.b S[S.length - 1] (List.getElem_mem _)
    omega
/-- some that stand ahead, and some that stand behind -/
theorem Good.cut {S : List Sp} (h : Good S) (i j : Nat) (hij : i ≤ j) : Good (S.take i ++ S.drop j) := by
  refine ⟨fun p x y hx hy => ?_, fun x hx => ?_⟩
  · by_cases hj : j < S.length
    · have hi : i < S.length := by omega
      have hlen : (S.take i).length = i := by simp; omega
      by_cases hp : p + 1 < i
      · rw [List.getElem?_append_left (by omega), List.getElem?_take_of_lt (by omega)] at hx
        rw [List.getElem?_append_left (by omega), List.getElem?_take_of_lt (by omega)] at hy
        exact h.r p x y hx hy
      · rw [List.getElem?_append_right (by omega), hlen, List.getElem?_drop] at hy
        by_cases hp2 : p < i
        · rw [List.getElem?_append_left (by omega), List.getElem?_take_of_lt (by omega)] at hx
          have hxl := (List.getElem?_eq_some_iff.1 hy).1
          have h1 := h.r p x S[p + 1] hx (by simp)
          by_cases he : p + 1 = j + (p + 1 - i)
          · have e : S[p + 1]? = some y := by rw [he]; exact hy
            exact h.r p x y hx e
          · have h2 := h.lt (j + (p + 1 - i) - (p + 1 + 1)) (p + 1) S[p + 1] y (by simp) (by rw [show p + 1 + 1 + (j + (p + 1 - i) - (p + 1 + 1)) = j + (p + 1 - i) by omega]; exact hy)
            have h3 := h.b S[p + 1] (List.getElem_mem _)
            omega
        · rw [List.getElem?_append_right (by omega), hlen, List.getElem?_drop] at hx
          exact h.r (j + (p - i)) x y hx (by rw [show j + (p - i) + 1 = j + (p + 1 - i) by omega]; exact hy)
    · rw [List.drop_of_length_le (by omega), List.append_nil] at hx hy
      have hxl := (List.getElem?_eq_some_iff.1 hx).1
      have hyl := (List.getElem?_eq_some_iff.1 hy).1
      simp at hxl hyl
      rw [List.getElem?_take_of_lt (by omega)] at hx hy
      exact h.r p x y hx hy
  · rcases List.mem_append.1 hx with h1 | h1
    · exact h.b x (List.mem_of_mem_take h1)
    · exact h.b x (List.mem_of_mem_drop h1)
theorem Good.cutS {S : List Sp} (h : Good S) (a b : Int) : Good (cutS S a b) := h.cut _ _ (by unfold cutJ; omega)
theorem scells_app (l k : List Sp) : scells (l ++ k) = scells l ++ scells k := by simp [scells]
theorem scells_take : ∀ (l : List Sp) (i : Nat), scells (l.take i) = (scells l).take (i * 2)
  | [], i => by simp [scells]
  | x :: l, 0 => by simp [scells]
  | x :: l, i + 1 => by
    have := scells_take l i
    rw [show (i + 1) * 2 = i * 2 + 1 + 1 by omega]
    simp only [scells, List.take_succ_cons, List.flatMap_cons, scell, List.cons_append, List.nil_append] at this ⊢
    rw [this]
theorem scells_drop : ∀ (l : List Sp) (i : Nat), scells (l.drop i) = (scells l).drop (i * 2)
  | [], i => by simp [scells]
  | x :: l, 0 => by simp
  | x :: l, i + 1 => by
    have := scells_drop l i
    rw [show (i + 1) * 2 = i * 2 + 1 + 1 by omega]
    simp only [scells, List.drop_succ_cons, List.flatMap_cons, scell, List.cons_append, List.nil_append] at this ⊢
    rw [this]
theorem src_two {w : World} {E : TypeId} (u v : Value) (h1 : u.oneCell' = true) (h2 : v.oneCell' = true) : Src (w.alloc (.cells #[u, v] E)) 2 (.slice (some ⟨w.heap.size, 0, none⟩) 1 1) 1 [u, v] :=
  src_row rfl (fun j x hx => by match j, hx with | 0, hx => simp at hx; subst hx; simp | 1, hx => simp at hx; subst hx; simp) (by simp [h1, h2])
theorem cutA_snoc (M : List Sp) (x : Sp) (a : Int) : cutA (M ++ [x]) a = cutA M a ++ (if x.1 < a then [(x.1, a - 1)] else []) := by
  by_cases h : x.1 < a <;> simp [cutA, List.filter_append, h]
theorem cutB_snoc (M : List Sp) (x : Sp) (b : Int) : cutB (M ++ [x]) b = cutB M b ++ (if b < x.2 then [(b + 1, x.2)] else []) := by
  by_cases h : b < x.2 <;> simp [cutB, List.filter_append, h]
theorem cutA_len (M : List Sp) (a : Int) : (cutA M a).length ≤ M.length := by simp only [cutA, List.length_map]; exact List.length_filter_le _ _
theorem cutB_len (M : List Sp) (a : Int) : (cutB M a).length ≤ M.length := by simp only [cutB, List.length_map]; exact List.length_filter_le _ _
/-- a row of spans, new since a world with n0 blocks -/
def Fresh (n0 : Nat) (w : World) (v : Value) (L : List Sp) : Prop := ∃ ao c, v = .slice ao L.length c ∧ Own w 46 2 (.slice ao L.length c) L.length (scells L) ∧ ∀ g, (Value.slice ao L.length c).ownBlock = some g → n0 ≤ g
theorem Fresh.kept {F : Nat → Prop} {n0 : Nat} {w w' : World} {v : Value} {L : List Sp} (h : Fresh n0 w v L) (k : Kept F w w') (hF : ∀ g, v.ownBlock = some g → ¬ F g) : Fresh n0 w' v L := by
  obtain ⟨ao, c, rfl, h1, h2⟩ := h
  exact ⟨ao, c, rfl, h1.kept k hF, h2⟩
structure CutIn (F : Nat → Prop) (w wr : World) (sb : Nat) (S : List Sp) (A B : List Sp) (va vb : Value) : Prop where
  s : SetAt F wr sb S
  a : Fresh w.heap.size wr va A
  b : Fresh w.heap.size wr vb B
  ne : ∀ g, va.ownBlock = some g → vb.ownBlock ≠ some g
  k : Kept (fun _ => False) w wr
def CutPost (F : Nat → Prop) (w : World) (sb : Nat) (S : List Sp) (a b : Int) (e : Ending) (w' : World) : Prop :=
  ∃ va vb, e = .returned (.tuple #[.int .i64 (aft S a), va, vb]) ∧ SetAt F w' sb (cutS S a b) ∧ Fresh w.heap.size w' va (cutA (cutM S a b) a) ∧ Fresh w.heap.size w' vb (cutB (cutM S a b) b) ∧ (∀ g, va.ownBlock = some g → vb.ownBlock ≠ some g) ∧ Kept F w w'
end Go.Proofs.Ytglcpiokmieppaa
