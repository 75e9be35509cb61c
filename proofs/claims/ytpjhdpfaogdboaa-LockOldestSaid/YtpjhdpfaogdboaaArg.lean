/- A slice of an argument whose elements read as x's. -/
import Derived.Test.YtpjhdpfaogdboaaLies
namespace Go.Proofs.Ytpjhdpfaogdboaa
set_option linter.unusedSimpArgs false
set_option linter.unusedVariables false
open Go.RowKit

theorem enc_len {α : Type} (enc : α → List Value) (n : Nat) (hn : ∀ x, (enc x).length = n) : ∀ l : List α, (l.flatMap enc).length = l.length * n
  | [] => by simp
  | x :: l => by rw [List.flatMap_cons, List.length_append, hn, enc_len enc n hn l, List.length_cons, Nat.succ_mul]; omega
theorem enc_at {α : Type} (enc : α → List Value) (n : Nat) (hn : ∀ x, (enc x).length = n) (h0 : 0 < n) : ∀ (l : List α) (j : Nat) (u : Value), (l.flatMap enc)[j]? = some u → ∃ i x r, l[i]? = some x ∧ r < n ∧ j = i * n + r ∧ (enc x)[r]? = some u
  | [], j, u, h => by simp at h
  | y :: l, j, u, h => by
    rw [List.flatMap_cons] at h
    by_cases hj : j < n
    · rw [List.getElem?_append_left (by rw [hn]; exact hj)] at h
      exact ⟨0, y, j, by simp, hj, by omega, h⟩
    · rw [List.getElem?_append_right (by rw [hn]; omega), hn] at h
      obtain ⟨i, x, r, h1, h2, h3, h4⟩ := enc_at enc n hn h0 l _ u h
      refine ⟨i + 1, x, r, by simpa using h1, h2, ?_, h4⟩
      rw [Nat.succ_mul]; omega

/-- A slice of an argument whose elements read as x's. -/
theorem lies_of {α : Type} (enc : α → List Value) (n : Nat) (hn : ∀ x, (enc x).length = n) (h0 : 0 < n) (h1 : ∀ x, ∀ u ∈ enc x, u.oneCell' = true) (x0 : α) {w : World} {t e : TypeId} (hu : Try.prog.underlying t = some (.slice e)) (hc : Try.prog.cellsOf e = n)
    (Q : α → Prop) (hread : ∀ es, es.length = n → Rd Try.prog w e es → ∃ x, es = enc x ∧ Q x) {a : Option Addr} {len cap : Nat} (h : Rd Try.prog w t [.slice a len cap]) :
    ∃ l : List α, l.length = len ∧ Lies (fun g => w.heap.size ≤ g) w n (.slice a len cap) len (l.flatMap enc) ∧ len * Try.prog.bytesOf e ≤ reachBytes ∧ ∀ x ∈ l, Q x := by
  obtain ⟨q1, q2, q3, q4, q5⟩ := h.row hu hc h0
  have hex : ∀ i, ∃ x : α, i < len → Q x ∧ ∃ b off, a = some ⟨b, off, none⟩ ∧ b < w.heap.size ∧ ∀ j u, (enc x)[j]? = some u → w.cell? ⟨b, off + (i * n + j), none⟩ = some u := by
    intro i
    by_cases hi : i < len
    · obtain ⟨b, off, es, e1, e2, e3, e4, e5⟩ := q5 i (by omega)
      obtain ⟨x, rfl, hQ⟩ := hread es e3 e5
      refine ⟨x, fun _ => ⟨hQ, b, off, e1, e2, fun j u hj => ?_⟩⟩
      have hjn : j < n := by have := (List.getElem?_eq_some_iff.1 hj).1; omega
      rw [← Nat.add_assoc, e4 j hjn, hj]
    · exact ⟨x0, fun h => absurd h hi⟩
  obtain ⟨g, hg⟩ : ∃ g : Nat → α, ∀ i, i < len → Q (g i) ∧ ∃ b off, a = some ⟨b, off, none⟩ ∧ b < w.heap.size ∧ ∀ j u, (enc (g i))[j]? = some u → w.cell? ⟨b, off + (i * n + j), none⟩ = some u := ⟨fun i => (hex i).choose, fun i => (hex i).choose_spec⟩
  refine ⟨(List.range len).map g, by simp, ⟨a, cap, rfl, q1, q2, ?_, q4, fun hm => ?_, fun u hu => ?_⟩, Nat.le_trans (Nat.mul_le_mul_right _ q1) q3, fun x hx => ?_⟩
  · rw [enc_len enc n hn]; simp
  · obtain ⟨_, b, off, e1, e2, _⟩ := hg 0 hm
    refine ⟨b, off, e1, by omega, e2, fun j u hj => ?_⟩
    obtain ⟨i, x, r, k1, k2, k3, k4⟩ := enc_at enc n hn h0 _ j u hj
    have hi : i < len := by have := (List.getElem?_eq_some_iff.1 k1).1; simpa using this
    rw [List.getElem?_map, List.getElem?_range hi] at k1
    simp only [Option.map_some, Option.some.injEq] at k1
    subst k1
    obtain ⟨_, b', off', e1', _, e3'⟩ := hg i hi
    rw [e1] at e1'
    simp only [Option.some.injEq, Addr.mk.injEq] at e1'
    obtain ⟨rfl, rfl, _⟩ := e1'
    rw [k3]
    exact e3' r u k4
  · rw [List.mem_flatMap] at hu
    obtain ⟨x, _, hx⟩ := hu
    exact h1 x u hx
  · rw [List.mem_map] at hx
    obtain ⟨i, hi, rfl⟩ := hx
    exact (hg i (by simpa using hi)).1

end Go.Proofs.Ytpjhdpfaogdboaa
