/- A row of cells written one by one. -/
import Derived.Test.YtnfdkpjklenllaaLies
namespace Go.Proofs.Ytnfdkpjklenllaa
open Go.RowKit

def putRow (b : Nat) : World → Nat → List Value → World
  | w, _, [] => w
  | w, i, v :: l => putRow b (w.setCell ⟨b, i, none⟩ v) (i + 1) l
theorem putRow_block {b : Nat} {T : TypeId} : ∀ (l : List Value) (w : World) (i : Nat) (cs : Array Value), w.heap[b]? = some (.cells cs T (0, 0)) → ∃ cs', (putRow b w i l).heap[b]? = some (.cells cs' T (0, 0)) ∧ cs'.size = cs.size ∧
    (∀ j, j < i → cs'[j]? = cs[j]?) ∧ ∀ j, i ≤ j → j < cs.size → cs'[j]? = if j < i + l.length then l[j - i]? else cs[j]?
  | [], w, i, cs, h => ⟨cs, h, rfl, fun _ _ => rfl, fun j h1 _ => by rw [if_neg]; simp; omega⟩
  | v :: l, w, i, cs, h => by
    obtain ⟨cs', h1, h2, h3, h4⟩ := putRow_block l _ (i + 1) _ (row_set h i v)
    refine ⟨cs', h1, by simpa using h2, fun j hj => ?_, fun j hj hs => ?_⟩
    · rw [h3 j (by omega), Array.getElem?_setIfInBounds_ne (by omega)]
    · by_cases e : j = i
      · subst e
        rw [h3 j (by omega), if_pos (by simp)]
        simp [hs]
      · rw [h4 j (by omega) (by simpa using hs)]
        by_cases hl : j < i + 1 + l.length
        · rw [if_pos hl, if_pos (by simp; omega)]
          have : j - i = (j - (i + 1)) + 1 := by omega
          rw [this, List.getElem?_cons_succ]
        · rw [if_neg hl, if_neg (by simp; omega), Array.getElem?_setIfInBounds_ne (by omega)]
/-- the whole row -/
theorem putRow_all {b : Nat} {T : TypeId} {w : World} {cs : Array Value} (l : List Value) (h : w.heap[b]? = some (.cells cs T (0, 0))) (hl : l.length = cs.size) : (putRow b w 0 l).heap[b]? = some (.cells l.toArray T (0, 0)) := by
  obtain ⟨cs', h1, h2, _, h4⟩ := putRow_block l w 0 cs h
  rw [h1]
  congr 2
  apply Array.ext_getElem?
  intro j
  by_cases hj : j < cs.size
  · rw [h4 j (Nat.zero_le _) hj, if_pos (by omega)]
    simp
  · rw [Array.getElem?_eq_none (by omega), Array.getElem?_eq_none (by simp; omega)]
theorem putRow_kept {b : Nat} {F : Nat → Prop} {a : World} (hb : F b ∨ a.heap.size ≤ b) : ∀ (l : List Value) (w : World) (i : Nat), Kept F a w → Kept F a (putRow b w i l)
  | [], _, _, h => h
  | v :: l, _, i, h => putRow_kept hb l _ (i + 1) (h.setCell (p := ⟨b, i, none⟩) hb v)
/-- behind the first j + 1 of them the j-th stands there -/
theorem putRow_got {b : Nat} {T : TypeId} {w : World} {cs : Array Value} (h : w.heap[b]? = some (.cells cs T (0, 0))) (l : List Value) (hl : l.length ≤ cs.size) (j : Nat) (v : Value) (hj : l[j]? = some v) :
    (putRow b w 0 (l.take (j + 1))).cell? ⟨b, j, none⟩ = some v := by
  obtain ⟨cs', h1, h2, _, h4⟩ := putRow_block (l.take (j + 1)) w 0 cs h
  have hlt := (List.getElem?_eq_some_iff.1 hj).1
  rw [row_cell h1, h4 j (Nat.zero_le _) (by omega), if_pos (by simp; omega), Nat.sub_zero, List.getElem?_take, if_pos (by omega), hj]
end Go.Proofs.Ytnfdkpjklenllaa
