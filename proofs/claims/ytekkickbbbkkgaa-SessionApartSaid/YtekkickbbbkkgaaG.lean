/- How an argument reads as an answer, as a call. -/
import Derived.Test.YtekkickbbbkkgaaF
namespace Go.Proofs.Ytekkickbbbkkgaa
open Go.RowKit

theorem enc_at {α : Type} (enc : α → List Value) (n : Nat) (hn : ∀ x, (enc x).length = n) (h0 : 0 < n) : ∀ (l : List α) (j : Nat) (u : Value), (l.flatMap enc)[j]? = some u → ∃ i x r, l[i]? = some x ∧ r < n ∧ j = i * n + r ∧ (enc x)[r]? = some u
  | [], j, u, h => by simp at h
  | y :: l, j, u, h => by
    rw [List.flatMap_cons] at h
    by_cases hj : j < n
    · rw [List.getElem?_append_left (by rw [hn]; exact hj)] at h
      exact ⟨0, y, j, by simp, hj, by omega, h⟩
    · rw [List.getElem?_append_right (by rw [hn]; omega), hn] at h
      obtain ⟨i, x, r, h1, h2, h3, h4⟩ := enc_at enc n hn h0 l _ u h
      refine ⟨i + 1, x, r, by simpa using h1, h2, ?_, h4⟩
      rw [Nat.succ_mul]; omega

theorem flat_len {α : Type} (enc : α → List Value) (n : Nat) (hn : ∀ x, (enc x).length = n) : ∀ l : List α, (l.flatMap enc).length = l.length * n
  | [] => by simp
  | x :: l => by rw [List.flatMap_cons, List.length_append, hn, flat_len enc n hn l, List.length_cons, Nat.succ_mul]; omega
theorem nums_flat : ∀ l : List Int, l.flatMap (fun x : Int => [Value.int .u32 x]) = ncells l
  | [] => rfl
  | x :: l => by rw [List.flatMap_cons, nums_flat l]; rfl

/-- A slice of an argument whose elements read as x's. -/
theorem lies_of {α : Type} (enc : α → List Value) (n : Nat) (hn : ∀ x, (enc x).length = n) (h0 : 0 < n) (h1 : ∀ x, ∀ u ∈ enc x, u.oneCell' = true) (x0 : α) {w : World} {t e : TypeId} (hu : Try.prog.underlying t = some (.slice e)) (hc : Try.prog.cellsOf e = n)
    (hread : ∀ es, es.length = n → Rd Try.prog w e es → ∃ x, es = enc x) {a : Option Addr} {len cap : Nat} (h : Rd Try.prog w t [.slice a len cap]) :
    ∃ l : List α, l.length = len ∧ Lies (fun g => w.heap.size ≤ g) w n (.slice a len cap) len (l.flatMap enc) ∧ len * Try.prog.bytesOf e ≤ reachBytes := by
  obtain ⟨q1, q2, q3, q4, q5⟩ := h.row hu hc h0
  have hex : ∀ i, ∃ x : α, i < len → ∃ b off, a = some ⟨b, off, none⟩ ∧ b < w.heap.size ∧ ∀ j u, (enc x)[j]? = some u → w.cell? ⟨b, off + (i * n + j), none⟩ = some u := by
    intro i
    by_cases hi : i < len
    · obtain ⟨b, off, es, e1, e2, e3, e4, e5⟩ := q5 i (by omega)
      obtain ⟨x, rfl⟩ := hread es e3 e5
      refine ⟨x, fun _ => ⟨b, off, e1, e2, fun j u hj => ?_⟩⟩
      have hjn : j < n := by have := (List.getElem?_eq_some_iff.1 hj).1; omega
      rw [← Nat.add_assoc, e4 j hjn, hj]
    · exact ⟨x0, fun h => absurd h hi⟩
  obtain ⟨g, hg⟩ : ∃ g : Nat → α, ∀ i, i < len → ∃ b off, a = some ⟨b, off, none⟩ ∧ b < w.heap.size ∧ ∀ j u, (enc (g i))[j]? = some u → w.cell? ⟨b, off + (i * n + j), none⟩ = some u := ⟨fun i => (hex i).choose, fun i => (hex i).choose_spec⟩
  refine ⟨(List.range len).map g, by simp, ⟨a, cap, rfl, q1, q2, ?_, q4, fun hm => ?_, fun u hu => ?_⟩, Nat.le_trans (Nat.mul_le_mul_right _ q1) q3⟩
  · rw [flat_len enc n hn]; simp
  · obtain ⟨b, off, e1, e2, _⟩ := hg 0 hm
    refine ⟨b, off, e1, by omega, e2, fun j u hj => ?_⟩
    obtain ⟨i, x, r, k1, k2, k3, k4⟩ := enc_at enc n hn h0 _ j u hj
    have hi : i < len := by have := (List.getElem?_eq_some_iff.1 k1).1; simpa using this
    rw [List.getElem?_map, List.getElem?_range hi] at k1
    simp only [Option.map_some, Option.some.injEq] at k1
    subst k1
    obtain ⟨b', off', e1', _, e3'⟩ := hg i hi
    rw [e1] at e1'
    simp only [Option.some.injEq, Addr.mk.injEq] at e1'
    obtain ⟨rfl, rfl, _⟩ := e1'
    rw [k3]
    exact e3' r u k4
  · rw [List.mem_flatMap] at hu
    obtain ⟨x, _, hx⟩ := hu
    exact h1 x u hx

theorem cellsV : Try.prog.cellsOf 58 = 3 := by kernel_rfl
theorem cellsN : Try.prog.cellsOf 23 = 1 := by kernel_rfl
theorem cellsA : Try.prog.cellsOf 28 = 4 := by kernel_rfl
theorem cellsO : Try.prog.cellsOf 36 = 7 := by kernel_rfl
theorem cells5 : Try.prog.cellsOf 5 = 1 := by kernel_rfl
theorem cellsI : Try.prog.cellsOf 3 = 1 := by kernel_rfl
theorem cells64 : Try.prog.cellsOf 2 = 1 := by kernel_rfl
theorem cellsS : Try.prog.cellsOf 9 = 1 := by kernel_rfl
theorem cellsE : Try.prog.cellsOf 24 = 1 := by kernel_rfl
theorem cellsLV : Try.prog.cellsOf 25 = 1 := by kernel_rfl
theorem cellsLN : Try.prog.cellsOf 26 = 1 := by kernel_rfl
theorem bytesV : Try.prog.bytesOf 58 = 32 := by kernel_rfl
theorem bytesN : Try.prog.bytesOf 23 = 4 := by kernel_rfl

theorem val_read {w : World} {es : List Value} (hl : es.length = 3) (h : Rd Try.prog w 58 es) : ∃ x : Val, es = vcell x := by
  match es, hl with
  | [x0, x1, x2], _ =>
    have h0 : Rd Try.prog w 5 [x0] := h.field Try.underlying58 0 5 0 1 rfl cells5
    have h1 : Rd Try.prog w 2 [x1] := h.field Try.underlying58 1 2 1 1 rfl cells64
    have h2 : Rd Try.prog w 9 [x2] := h.field Try.underlying58 2 9 2 1 rfl cellsS
    obtain ⟨k, e0, _⟩ := h0.int Try.underlying5
    obtain ⟨n, e1, _⟩ := h1.int Try.underlying2
    obtain ⟨s, e2, _⟩ := h2.string Try.underlying9
    simp only [List.cons.injEq, and_true] at e0 e1 e2
    subst e0 e1 e2
    exact ⟨(k, n, s), rfl⟩
theorem num_read {w : World} {es : List Value} (hl : es.length = 1) (h : Rd Try.prog w 23 es) : ∃ x : Int, es = [.int .u32 x] := by
  obtain ⟨n, e, _⟩ := h.int Try.underlying23
  exact ⟨n, e⟩

theorem ans_read {w : World} {es : List Value} (hl : es.length = 4) (h : Rd Try.prog w 28 es) : ∃ (A : Ans) (v l : Value), es = [.int .i64 A.e, .int .i64 A.p, v, l] ∧ AnsIn (fun g => w.heap.size ≤ g) w v l A := by
  match es, hl with
  | [x0, x1, x2, x3], _ =>
    have h0 : Rd Try.prog w 24 [x0] := h.field Try.underlying28 0 24 0 1 rfl cellsE
    have h1 : Rd Try.prog w 3 [x1] := h.field Try.underlying28 1 3 1 1 rfl cellsI
    have h2 : Rd Try.prog w 25 [x2] := h.field Try.underlying28 2 25 2 1 rfl cellsLV
    have h3 : Rd Try.prog w 26 [x3] := h.field Try.underlying28 3 26 3 1 rfl cellsLN
    obtain ⟨e, e0, _⟩ := h0.int Try.underlying24
    obtain ⟨p, e1, _⟩ := h1.int Try.underlying3
    obtain ⟨a2, l2, c2, e2⟩ := h2.isSlice Try.underlying25
    obtain ⟨a3, l3, c3, e3⟩ := h3.isSlice Try.underlying26
    simp only [List.cons.injEq, and_true] at e0 e1 e2 e3
    subst e0 e1 e2 e3
    obtain ⟨lv, rfl, hv, bv⟩ := lies_of vcell 3 (fun _ => rfl) (by decide) (fun x u hu => by simp [vcell] at hu; rcases hu with rfl | rfl | rfl <;> rfl) (0, 0, ByteArray.empty) Try.underlying25 cellsV (fun es => val_read) h2
    obtain ⟨ln, rfl, hn, bn⟩ := lies_of (fun x : Int => [Value.int .u32 x]) 1 (fun _ => rfl) (by decide) (fun x u hu => by simp at hu; subst hu; rfl) 0 Try.underlying26 cellsN (fun es => num_read) h3
    rw [bytesV] at bv
    rw [bytesN] at bn
    simp only [reachBytes] at bv bn
    rw [nums_flat] at hn
    exact ⟨⟨e, p, lv, ln⟩, _, _, rfl, hv, hn, by omega, by omega⟩

theorem wf8 {n : Int} (h : (Lit.int .u8 n).wf = true) : 0 ≤ n ∧ n ≤ 255 := by
  simp [Lit.wf, IntKind.min, IntKind.max, IntKind.signed, IntKind.bits] at h; omega
theorem wf32 {n : Int} (h : (Lit.int .u32 n).wf = true) : 0 ≤ n ∧ n ≤ 4294967295 := by
  simp [Lit.wf, IntKind.min, IntKind.max, IntKind.signed, IntKind.bits] at h; omega

theorem op_read {w : World} {es : List Value} (hl : es.length = 7) (h : Rd Try.prog w 36 es) : ∃ (kd c s : Int) (A : Ans) (v l : Value), es = [.int .u8 kd, .int .u8 c, .int .u32 s, .int .i64 A.e, .int .i64 A.p, v, l] ∧ AnsIn (fun g => w.heap.size ≤ g) w v l A ∧ 0 ≤ c ∧ 0 ≤ s ∧ s ≤ 4294967295 := by
  match es, hl with
  | [x0, x1, x2, x3, x4, x5, x6], _ =>
    have h0 : Rd Try.prog w 5 [x0] := h.field Try.underlying36 0 5 0 1 rfl cells5
    have h1 : Rd Try.prog w 5 [x1] := h.field Try.underlying36 1 5 1 1 rfl cells5
    have h2 : Rd Try.prog w 23 [x2] := h.field Try.underlying36 2 23 2 1 rfl cellsN
    have h3 : Rd Try.prog w 28 [x3, x4, x5, x6] := h.field Try.underlying36 3 28 3 4 rfl cellsA
    obtain ⟨kd, e0, _⟩ := h0.int Try.underlying5
    obtain ⟨c, e1, wc⟩ := h1.int Try.underlying5
    obtain ⟨s, e2, ws⟩ := h2.int Try.underlying23
    obtain ⟨A, v, l, e3, ha⟩ := ans_read rfl h3
    simp only [List.cons.injEq, and_true] at e0 e1 e2 e3
    obtain ⟨rfl, rfl, rfl, rfl⟩ := e3
    subst e0 e1 e2
    exact ⟨kd, c, s, A, _, _, rfl, ha, (wf8 wc).1, (wf32 ws).1, (wf32 ws).2⟩
end Go.Proofs.Ytekkickbbbkkgaa
