/- A script as plain data; some. -/
import Derived.Test.YtnfdkpjklenllaaH
namespace Go.Proofs.Ytnfdkpjklenllaa
open Go.RowKit

structure OpD where
  kd : Int
  i : Int
  l : List Int
/-- an operation that reads so -/
structure OpOk (w : World) (x : OpD) (bo : Option Addr) (bc : Nat) : Prop where
  b : Byt w (.slice bo x.l.length bc) x.l
  k : 0 ≤ x.kd ∧ x.kd ≤ 255
  i : -9223372036854775808 ≤ x.i ∧ x.i ≤ 9223372036854775807
  l : x.l.length ≤ 140737488351232
  r : ∀ y ∈ x.l, 0 ≤ y ∧ y ≤ 255
/-- a slice of operations -/
def ScrAt (w : World) (v : Value) (ops : List OpD) : Prop :=
  ∃ ao c, v = .slice ao ops.length c ∧ ops.length ≤ c ∧ c ≤ maxLen ∧ ∀ (k : Nat) (x : OpD), ops[k]? = some x → ∃ b off bo bc, ao = some ⟨b, off, none⟩ ∧ w.cell? ⟨b, off + k * 3, none⟩ = some (.int .u8 x.kd) ∧ w.cell? ⟨b, off + k * 3 + 1, none⟩ = some (.int .i64 x.i) ∧ w.cell? ⟨b, off + k * 3 + 2, none⟩ = some (.slice bo x.l.length bc) ∧ OpOk w x bo bc
theorem OpOk.same {w w' : World} {x : OpD} {bo : Option Addr} {bc : Nat} (h : OpOk w x bo bc) (k : Kept (fun _ => False) w w') : OpOk w' x bo bc := ⟨h.b.kept k (fun _ _ h => h), h.k, h.i, h.l, h.r⟩
theorem ScrAt.same {w w' : World} {v : Value} {ops : List OpD} (h : ScrAt w v ops) (k : Kept (fun _ => False) w w') : ScrAt w' v ops := by
  obtain ⟨ao, c, e, h1, h2, h3⟩ := h
  refine ⟨ao, c, e, h1, h2, fun j x hx => ?_⟩
  obtain ⟨b, off, bo, bc, q1, q2, q3, q4, q5⟩ := h3 j x hx
  exact ⟨b, off, bo, bc, q1, k.cell q2 id, k.cell q3 id, k.cell q4 id, q5.same k⟩

theorem cells8 : Try.prog.cellsOf 5 = 1 := by kernel_rfl
theorem cellsI : Try.prog.cellsOf 3 = 1 := by kernel_rfl
theorem cellsB : Try.prog.cellsOf 23 = 1 := by kernel_rfl
theorem cellsOp : Try.prog.cellsOf 29 = 3 := by kernel_rfl
theorem bytes8 : Try.prog.bytesOf 5 = 1 := by kernel_rfl
theorem wf8 {n : Int} (h : (Lit.int .u8 n).wf = true) : 0 ≤ n ∧ n ≤ 255 := by
  simp [Lit.wf, IntKind.min, IntKind.max, IntKind.signed, IntKind.bits] at h; omega
theorem wf64 {n : Int} (h : (Lit.int .i64 n).wf = true) : -9223372036854775808 ≤ n ∧ n ≤ 9223372036854775807 := by
  simp [Lit.wf, IntKind.min, IntKind.max, IntKind.signed, IntKind.bits] at h; omega
/-- how bytes of an argument read -/
theorem Rd.bytes {w : World} {a : Option Addr} {len cap : Nat} (h : Rd Try.prog w 23 [.slice a len cap]) : ∃ l : List Int, l.length = len ∧ Byt w (.slice a len cap) l ∧ (∀ x ∈ l, 0 ≤ x ∧ x ≤ 255) ∧ l.length ≤ 140737488351232 := by
  obtain ⟨l, h1, h2, h3⟩ := h.byt
  obtain ⟨q1, q2, q3, _⟩ := h.row1 Try.underlying23 cells8
  refine ⟨l, h1, h2, h3, ?_⟩
  rw [bytes8] at q3
  unfold reachBytes at q3
  omega
theorem op_read {w : World} {es : List Value} (hl : es.length = 3) (h : Rd Try.prog w 29 es) : ∃ (x : OpD) (bo : Option Addr) (bc : Nat), es = [.int .u8 x.kd, .int .i64 x.i, .slice bo x.l.length bc] ∧ OpOk w x bo bc := by
  match es, hl with
  | [x0, x1, x2], _ =>
    have h0 : Rd Try.prog w 5 [x0] := h.field Try.underlying29 0 5 0 1 rfl cells8
    have h1 : Rd Try.prog w 3 [x1] := h.field Try.underlying29 1 3 1 1 rfl cellsI
    have h2 : Rd Try.prog w 23 [x2] := h.field Try.underlying29 2 23 2 1 rfl cellsB
    obtain ⟨a, e0, w0⟩ := h0.int Try.underlying5
    obtain ⟨b, e1, w1⟩ := h1.int Try.underlying3
    obtain ⟨ao, n, c, e2⟩ := h2.isSlice Try.underlying23
    simp only [List.cons.injEq, and_true] at e0 e1 e2
    subst e0 e1 e2
    obtain ⟨l, rfl, q1, q2, q3⟩ := h2.bytes
    exact ⟨⟨a, b, l⟩, ao, c, rfl, q1, wf8 w0, wf64 w1, q3, q2⟩
theorem scr_read {w : World} {a : Option Addr} {len cap : Nat} (h : Rd Try.prog w 22 [.slice a len cap]) : ∃ ops : List OpD, ops.length = len ∧ ScrAt w (.slice a len cap) ops := by
  obtain ⟨q1, q2, q3, q4, q5⟩ := h.row Try.underlying22 cellsOp (by decide)
  have hex : ∀ i, ∃ x : OpD, i < len → ∃ b off bo bc, a = some ⟨b, off, none⟩ ∧ w.cell? ⟨b, off + i * 3, none⟩ = some (.int .u8 x.kd) ∧ w.cell? ⟨b, off + i * 3 + 1, none⟩ = some (.int .i64 x.i) ∧ w.cell? ⟨b, off + i * 3 + 2, none⟩ = some (.slice bo x.l.length bc) ∧ OpOk w x bo bc := by
    intro i
    by_cases hi : i < len
    · obtain ⟨b, off, es, e1, e2, e3, e4, e5⟩ := q5 i (by omega)
      obtain ⟨x, bo, bc, rfl, hok⟩ := op_read e3 e5
      exact ⟨x, fun _ => ⟨b, off, bo, bc, e1, by simpa using e4 0 (by decide), e4 1 (by decide), e4 2 (by decide), hok⟩⟩
    · exact ⟨⟨0, 0, []⟩, fun h => absurd h hi⟩
  refine ⟨(List.range len).map fun i => (hex i).choose, by simp, a, cap, by simp, by simpa using q1, q2, fun k x hx => ?_⟩
  rw [List.getElem?_map, Option.map_eq_some_iff] at hx
  obtain ⟨i, hi, rfl⟩ := hx
  obtain ⟨hk, e⟩ := List.getElem?_eq_some_iff.1 hi
  simp at hk e
  subst e
  exact (hex k).choose_spec hk
theorem Byt.take {w : World} {ao : Option Addr} {n c : Nat} {l : List Int} (h : Byt w (.slice ao n c) l) (m : Nat) (hm : m ≤ n) : Byt w (.slice ao m c) (l.take m) := by
  obtain ⟨ao', c', e, ⟨h1, h2⟩, h3, h4⟩ := h
  simp only [Value.slice.injEq] at e
  obtain ⟨rfl, rfl, rfl⟩ := e
  have hl : (l.take m).length = m := by simp; omega
  refine ⟨ao, c, by rw [hl], ⟨by omega, h2⟩, fun h => ⟨by have := (h3 h).1; omega, (h3 h).2⟩, fun j x hj => h4 j x ?_⟩
  rw [List.getElem?_take] at hj
  split at hj
  · exact hj
  · cases hj

/-- what some does at an operation -/
def someStep (S : Plt) (x : OpD) : Plt := if x.kd = 0 then tick (S.add (x.i % 8) (x.l.take 64)) else if x.kd = 1 then (tick S).flushed else S
def someS (ops : List OpD) : Plt := (tick ((ops.take 30).foldl someStep (newP 8))).flushed
structure Calm (S : Plt) (k : Nat) : Prop where
  n : S.n = 8
  off : S.off = false
  armed : S.armed = 0
  ops : 0 ≤ S.ops ∧ S.ops ≤ k
  since : S.since.length ≤ k
theorem Calm.tick {S : Plt} {k : Nat} (h : Calm S k) : Calm (tick S) (k + 1) := by
  obtain ⟨h1, h2, h3, h4, h5⟩ := h
  refine ⟨h1, ?_, ?_, ?_, ?_⟩ <;> simp [Go.Proofs.Ytnfdkpjklenllaa.tick, h3]
  · exact h2
  · omega
  · omega
theorem Calm.add {S : Plt} {k : Nat} (h : Calm S k) (i : Int) (l : List Int) : Calm (S.add i l) (k + 1) := ⟨h.n, h.off, h.armed, ⟨h.ops.1, by have := h.ops.2; simp only [Plt.add]; omega⟩, by have := h.since; simp [Plt.add]; omega⟩
theorem Calm.flushed {S : Plt} {k : Nat} (h : Calm S k) : Calm S.flushed k := ⟨h.n, h.off, h.armed, h.ops, by simp [Plt.flushed]⟩
theorem Calm.mono {S : Plt} {k m : Nat} (h : Calm S k) (hm : k ≤ m) : Calm S m := ⟨h.n, h.off, h.armed, ⟨h.ops.1, by have := h.ops.2; omega⟩, by have := h.since; omega⟩
theorem Calm.small {S : Plt} {k : Nat} (h : Calm S k) (hk : k ≤ 1000) : Small S := ⟨⟨h.ops.1, by have := h.ops.2; omega⟩, by rw [h.armed]; omega⟩
theorem calm_step {S : Plt} {k : Nat} (h : Calm S k) (x : OpD) : Calm (someStep S x) (k + 2) := by
  unfold someStep
  split
  · exact (h.add _ _).tick
  · split
    · exact (h.tick.flushed).mono (by omega)
    · exact h.mono (by omega)
theorem calm_fold (ops : List OpD) : ∀ {S : Plt} {k : Nat}, Calm S k → Calm (ops.foldl someStep S) (k + 2 * ops.length) := by
  induction ops with
  | nil => intro S k h; simpa using h
  | cons x l ih => intro S k h; rw [List.foldl_cons, List.length_cons]; exact (ih (calm_step h x)).mono (by omega)
theorem calm_new : Calm (newP 8) 0 := ⟨rfl, rfl, rfl, ⟨Int.le_refl _, Int.le_refl _⟩, Nat.le_refl _⟩
end Go.Proofs.Ytnfdkpjklenllaa
