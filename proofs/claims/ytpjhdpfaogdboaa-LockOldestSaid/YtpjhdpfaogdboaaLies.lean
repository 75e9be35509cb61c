/- Slices that are read: where their cells lie, outside some blocks. -/
import Derived.Test.YtpjhdpfaogdboaaBare
namespace Go.Proofs.Ytpjhdpfaogdboaa
set_option linter.unusedSimpArgs false
set_option linter.unusedVariables false
open Go.RowKit

/-- v is a slice of m elements of 'size' cells each, whose cells are news; none of them lies in a block of F. -/
def Lies (F : Nat → Prop) (w : World) (size : Nat) (v : Value) (m : Nat) (news : List Value) : Prop :=
  ∃ ao c, v = .slice ao m c ∧ m ≤ c ∧ c ≤ maxLen ∧ news.length = m * size ∧ (ao = none → m = 0 ∧ c = 0) ∧
    (0 < m → ∃ g off, ao = some ⟨g, off, none⟩ ∧ ¬ F g ∧ g < w.heap.size ∧ ∀ j u, news[j]? = some u → w.cell? ⟨g, off + j, none⟩ = some u) ∧ ∀ u ∈ news, u.oneCell' = true

theorem Lies.nil (F : Nat → Prop) (w : World) (size : Nat) : Lies F w size (.slice none 0 0) 0 [] :=
  ⟨none, 0, rfl, Nat.le_refl _, Nat.zero_le _, by simp, fun _ => ⟨rfl, rfl⟩, fun h => absurd h (by decide), by simp⟩
theorem Lies.isSlice {F : Nat → Prop} {w : World} {size : Nat} {v : Value} {m : Nat} {news : List Value} (h : Lies F w size v m news) : ∃ ao c, v = .slice ao m c := by
  obtain ⟨ao, c, e, _⟩ := h
  exact ⟨ao, c, e⟩
theorem Lies.one {F : Nat → Prop} {w : World} {size : Nat} {v : Value} {m : Nat} {news : List Value} (h : Lies F w size v m news) : v.oneCell' = true := by
  obtain ⟨ao, c, rfl⟩ := h.isSlice
  rfl
theorem Lies.mono {F G : Nat → Prop} {w : World} {size : Nat} {v : Value} {m : Nat} {news : List Value} (h : Lies F w size v m news) (hg : ∀ g, g < w.heap.size → G g → F g) : Lies G w size v m news := by
  obtain ⟨ao, c, h1, h2, h2', h3, h4, h5, h6⟩ := h
  refine ⟨ao, c, h1, h2, h2', h3, h4, fun hm => ?_, h6⟩
  obtain ⟨g, off, e, hF, hl, hc⟩ := h5 hm
  exact ⟨g, off, e, fun hG => hF (hg g hl hG), hl, hc⟩
/-- what turns blocks of F alone leaves it -/
theorem Lies.kept {F G : Nat → Prop} {w w' : World} {size : Nat} {v : Value} {m : Nat} {news : List Value} (h : Lies F w size v m news) (k : Kept G w w') (hg : ∀ g, g < w.heap.size → G g → F g) : Lies F w' size v m news := by
  obtain ⟨ao, c, h1, h2, h2', h3, h4, h5, h6⟩ := h
  refine ⟨ao, c, h1, h2, h2', h3, h4, fun hm => ?_, h6⟩
  obtain ⟨g, off, e, hF, hl, hc⟩ := h5 hm
  exact ⟨g, off, e, hF, Nat.lt_of_lt_of_le hl k.size, fun j u hu => k.cell (hc j u hu) (fun hG => hF (hg g hl hG))⟩
theorem Lies.same {F : Nat → Prop} {w w' : World} {size : Nat} {v : Value} {m : Nat} {news : List Value} (h : Lies F w size v m news) (k : Kept (fun _ => False) w w') : Lies F w' size v m news := h.kept k (fun _ _ h => h.elim)
theorem Lies.src {F : Nat → Prop} {w : World} {size : Nat} {v : Value} {m : Nat} {news : List Value} (h : Lies F w size v m news) : Src w size v m news := by
  obtain ⟨ao, c, h1, h2, h2', h3, h4, h5, h6⟩ := h
  by_cases hm : 0 < m
  · obtain ⟨g, off, rfl, hF, hl, hc⟩ := h5 hm
    subst h1
    exact src_row h3 hc h6
  · obtain rfl : m = 0 := by omega
    obtain rfl : news = [] := List.eq_nil_of_length_eq_zero (by simpa using h3)
    exact ⟨ao, c, h1, by simp, h4, by simp, by simp⟩
theorem Own.lies {F : Nat → Prop} {w : World} {E size : Nat} {v : Value} {n : Nat} {xs : List Value} (h : Own w E size v n xs) (h1 : ∀ u ∈ xs, u.oneCell' = true) (hF : ∀ g, v.ownBlock = some g → ¬ F g) : Lies F w size v n xs := by
  rcases h.shape with ⟨rfl, rfl, rfl⟩ | ⟨g, cap, cur, rfl, hg, hnc, hcm, _⟩
  · exact Lies.nil _ _ _
  · refine ⟨_, cap, rfl, hnc, hcm, h.len, (fun h => nomatch h), fun _ => ⟨g, 0, rfl, hF g rfl, row_lt hg, fun j u hu => ?_⟩, h1⟩
    obtain ⟨hj, e⟩ := List.getElem?_eq_some_iff.1 hu
    rw [Nat.zero_add, ← e]
    exact h.cells rfl j hj
/-- the cells of one element -/
theorem Lies.cell {F : Nat → Prop} {w : World} {size : Nat} {v : Value} {m : Nat} {news : List Value} (h : Lies F w size v m news) (hm : 0 < m) :
    ∃ g off c, v = .slice (some ⟨g, off, none⟩) m c ∧ m ≤ c ∧ c ≤ maxLen ∧ ¬ F g ∧ g < w.heap.size ∧ ∀ j u, news[j]? = some u → w.cell? ⟨g, off + j, none⟩ = some u := by
  obtain ⟨ao, c, h1, h2, h2', h3, h4, h5, h6⟩ := h
  obtain ⟨g, off, rfl, hF, hl, hc⟩ := h5 hm
  exact ⟨g, off, c, h1, h2, h2', hF, hl, hc⟩
theorem Lies.len {F : Nat → Prop} {w : World} {size : Nat} {v : Value} {m : Nat} {news : List Value} (h : Lies F w size v m news) : news.length = m * size := by
  obtain ⟨ao, c, h1, h2, h2', h3, _⟩ := h
  exact h3

/-! values (a kind, a number, a text) and numbers as cells -/
abbrev Val := Int × Int × ByteArray
def vcell (x : Val) : List Value := [.int .u8 x.1, .int .i64 x.2.1, .string x.2.2]
def vcells (l : List Val) : List Value := l.flatMap vcell
def ncells (l : List Int) : List Value := l.map (.int .u32)
theorem vcells_len (l : List Val) : (vcells l).length = l.length * 3 := by
  induction l with
  | nil => rfl
  | cons x l ih => simp [vcells, vcell, List.flatMap_cons] at ih ⊢; omega
theorem ncells_len (l : List Int) : (ncells l).length = l.length * 1 := by simp [ncells]
theorem vcells_one (l : List Val) : ∀ u ∈ vcells l, u.oneCell' = true := by
  intro u hu
  simp only [vcells, List.mem_flatMap, vcell] at hu
  obtain ⟨x, _, hx⟩ := hu
  simp at hx
  rcases hx with rfl | rfl | rfl <;> rfl
theorem ncells_one (l : List Int) : ∀ u ∈ ncells l, u.oneCell' = true := by
  intro u hu
  simp only [ncells, List.mem_map] at hu
  obtain ⟨x, _, rfl⟩ := hu
  rfl
theorem vcells_at : ∀ (l : List Val) (i : Nat) (x : Val), l[i]? = some x → (vcells l)[i * 3]? = some (.int .u8 x.1) ∧ (vcells l)[i * 3 + 1]? = some (.int .i64 x.2.1) ∧ (vcells l)[i * 3 + 2]? = some (.string x.2.2)
  | y :: l, 0, x, h => by simp at h; subst h; simp [vcells, vcell]
  | y :: l, i + 1, x, h => by
    have := vcells_at l i x (by simpa using h)
    have e : ∀ k, (vcells (y :: l))[k + 3]? = (vcells l)[k]? := fun k => by
      simp [vcells, vcell, List.flatMap_cons]
    rw [show (i + 1) * 3 = i * 3 + 3 from by omega, show i * 3 + 3 + 1 = i * 3 + 1 + 3 from by omega, show i * 3 + 3 + 2 = i * 3 + 2 + 3 from by omega, e, e, e]
    exact this
theorem ncells_at (l : List Int) (i : Nat) (x : Int) (h : l[i]? = some x) : (ncells l)[i]? = some (.int .u32 x) := by simp [ncells, h]
theorem cells4 {w : World} {b : Nat} {x y z u : Value} {T : TypeId} (h : w.heap[b]? = some (.cells #[x, y, z, u] T (0, 0))) :
    w.cell? ⟨b, 0, none⟩ = some x ∧ w.cell? ⟨b, 1, none⟩ = some y ∧ w.cell? ⟨b, 2, none⟩ = some z ∧ w.cell? ⟨b, 3, none⟩ = some u ∧ ∀ i, w.frozen? ⟨b, i, none⟩ = false := by
  have h0 := row_cell h 0
  have h1 := row_cell h 1
  have h2 := row_cell h 2
  have h3 := row_cell h 3
  simp at h0 h1 h2 h3
  exact ⟨h0, h1, h2, h3, fun i => row_free h i⟩
theorem set4 {w : World} {b : Nat} {x y z u : Value} {T : TypeId} (h : w.heap[b]? = some (.cells #[x, y, z, u] T (0, 0))) (x' y' z' u' : Value) :
    ((((w.setCell ⟨b, 0, none⟩ x').setCell ⟨b, 1, none⟩ y').setCell ⟨b, 2, none⟩ z').setCell ⟨b, 3, none⟩ u').heap[b]? = some (.cells #[x', y', z', u'] T (0, 0)) := by
  have h0 := row_set h 0 x'
  have h1 := row_set h0 1 y'
  have h2 := row_set h1 2 z'
  have h3 := row_set h2 3 u'
  rw [h3]
  rfl
theorem set4c {w : World} {b : Nat} {x y z u : Value} {T : TypeId} (h : w.heap[b]? = some (.cells #[x, y, z, u] T (0, 0))) (x' y' z' u' : Value) :
    (w.setCell ⟨b, 0, none⟩ x').cell? ⟨b, 0, none⟩ = some x' ∧ ((w.setCell ⟨b, 0, none⟩ x').setCell ⟨b, 1, none⟩ y').cell? ⟨b, 1, none⟩ = some y' ∧
    (((w.setCell ⟨b, 0, none⟩ x').setCell ⟨b, 1, none⟩ y').setCell ⟨b, 2, none⟩ z').cell? ⟨b, 2, none⟩ = some z' ∧
    ((((w.setCell ⟨b, 0, none⟩ x').setCell ⟨b, 1, none⟩ y').setCell ⟨b, 2, none⟩ z').setCell ⟨b, 3, none⟩ u').cell? ⟨b, 3, none⟩ = some u' := by
  have h0 := row_set h 0 x'
  have h1 := row_set h0 1 y'
  have h2 := row_set h1 2 z'
  have h3 := row_set h2 3 u'
  exact ⟨row_cell h0 0, row_cell h1 1, row_cell h2 2, row_cell h3 3⟩
theorem put2 {w : World} {b : Nat} {x y z u : Value} {T : TypeId} (h : w.heap[b]? = some (.cells #[x, y, z, u] T (0, 0))) (v : Value) : (w.setCell ⟨b, 2, none⟩ v).heap[b]? = some (.cells #[x, y, v, u] T (0, 0)) := row_set h 2 v
theorem put3 {w : World} {b : Nat} {x y z u : Value} {T : TypeId} (h : w.heap[b]? = some (.cells #[x, y, z, u] T (0, 0))) (v : Value) : (w.setCell ⟨b, 3, none⟩ v).heap[b]? = some (.cells #[x, y, z, v] T (0, 0)) := row_set h 3 v
theorem two_new (w : World) (o1 o2 : Obj) : ((w.alloc o1).alloc o2).heap[w.heap.size]? = some o1 ∧ ((w.alloc o1).alloc o2).heap[w.heap.size + 1]? = some o2 := by
  refine ⟨row_old (row_new w o1) o2, ?_⟩
  have := row_new (w.alloc o1) o2
  simpa using this
end Go.Proofs.Ytpjhdpfaogdboaa
