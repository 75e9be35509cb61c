/- Texts of this claim, merged: Own. -/
import Derived.Laws.AppendOwnNone
import Derived.Laws.CopyOwn
import Derived.Lib.SliceRun
import Derived.Test.YtpjhdpfaogdboaaPm1
/- Slices that lie at the head of a block of their own: append, clear, a slice's cells; laws for a list of operations. -/
namespace Go.Proofs.Ytpjhdpfaogdboaa
set_option linter.unusedSimpArgs false
set_option linter.unusedVariables false
open Go.RowKit

/-- v is a slice of n elements (of type E, 'size' cells each), nil or at the head of a block of its own, whose first cells are xs -/
def Own (w : World) (E size : Nat) (v : Value) (n : Nat) (xs : List Value) : Prop := w.ownsRow 0 E size v n xs

section
variable {w w' : World} {E size : Nat} {v : Value} {n : Nat} {xs : List Value}
theorem Own.nil (w : World) (E size : Nat) : Own w E size (.slice none 0 0) 0 [] := World.ownsRow_nil _ _ _ _
theorem Own.len (h : Own w E size v n xs) : xs.length = n * size := h.1
theorem Own.shape (h : Own w E size v n xs) : (v = .slice none 0 0 ∧ n = 0 ∧ xs = []) ∨
    ∃ g cap cur, v = .slice (some ⟨g, 0, none⟩) n cap ∧ w.heap[g]? = some (.cells cur E (0, 0)) ∧ n ≤ cap ∧ cap ≤ maxLen ∧ cur.size = cap * size ∧ cur.toList.take (n * size) = xs := by
  rcases h.2 with ⟨rfl, rfl⟩ | ⟨g, cap, cur, h1, _, h2⟩
  · refine .inl ⟨rfl, rfl, ?_⟩
    have := h.1
    simpa using this
  · exact .inr ⟨g, cap, cur, h1, h2⟩
theorem Own.mk {g cap : Nat} {cur : Array Value} (h1 : w.heap[g]? = some (.cells cur E (0, 0))) (h2 : n ≤ cap) (h3 : cap ≤ maxLen) (h4 : cur.size = cap * size) :
    Own w E size (.slice (some ⟨g, 0, none⟩) n cap) n (cur.toList.take (n * size)) := by
  refine ⟨?_, .inr ⟨g, cap, cur, rfl, Nat.zero_le _, h1, h2, h3, h4, rfl⟩⟩
  rw [List.length_take, Array.length_toList, h4, Nat.min_eq_left (Nat.mul_le_mul_right _ h2)]
theorem Own.lt (h : Own w E size v n xs) {g : Nat} (hg : v.ownBlock = some g) : g < w.heap.size := (World.ownsRow.lt h g hg).2
theorem Own.of_block (h : Own w E size v n xs) (hb : ∀ g, v.ownBlock = some g → w'.heap[g]? = w.heap[g]?) : Own w' E size v n xs := by
  refine ⟨h.1, ?_⟩
  rcases h.2 with h2 | ⟨g, cap, cur, rfl, h3, h4, h5⟩
  · exact .inl h2
  · exact .inr ⟨g, cap, cur, rfl, h3, (hb g rfl).trans h4, h5⟩
theorem Own.kept {F : Nat → Prop} (h : Own w E size v n xs) (k : Kept F w w') (hF : ∀ g, v.ownBlock = some g → ¬ F g) : Own w' E size v n xs :=
  h.of_block fun g hg => k.block g (h.lt hg) (hF g hg)
theorem Own.alloc (h : Own w E size v n xs) (o : Obj) : Own (w.alloc o) E size v n xs := h.of_block fun _ hg => Below.heap_alloc _ _ _ (h.lt hg)
theorem Own.drew (h : Own w E size v n xs) : Own w.drew E size v n xs := h
theorem Own.cells (h : Own w E size v n xs) {g : Nat} (hg : v.ownBlock = some g) (j : Nat) (hj : j < xs.length) : w.cell? ⟨g, j, none⟩ = some xs[j] := by
  have := World.ownsRow.cells h hg j xs[j] (by simp [hj])
  have e : (⟨g, 0, none⟩ : Addr).add j = ⟨g, j, none⟩ := by unfold Addr.add; split <;> simp_all
  rw [e] at this
  exact this
theorem Own.free (h : Own w E size v n xs) {g : Nat} (hg : v.ownBlock = some g) (j : Nat) : w.frozen? ⟨g, j, none⟩ = false := by
  rcases h.shape with ⟨rfl, _⟩ | ⟨g', cap, cur, rfl, h4, _⟩
  · simp [Value.ownBlock] at hg
  · simp [Value.ownBlock] at hg
    subst hg
    exact row_free h4 j
/-- one cell is written -/
theorem Own.set {g : Nat} (h : Own w E size v n xs) (hg : v.ownBlock = some g) (j : Nat) (u : Value) : Own (w.setCell ⟨g, j, none⟩ u) E size v n (xs.set j u) := by
  rcases h.shape with ⟨rfl, _⟩ | ⟨g', cap, cur, rfl, h4, h5, h6, h7, h8⟩
  · simp [Value.ownBlock] at hg
  · simp [Value.ownBlock] at hg
    subst hg
    have hr := row_set h4 j u
    have e : xs.set j u = (cur.setIfInBounds j u).toList.take (n * size) := by
      rw [Array.toList_setIfInBounds, List.take_set, h8]
    rw [e]
    exact Own.mk hr h5 h6 (by simpa using h7)
theorem Own.some_of_pos (h : Own w E size v n xs) (hn : 0 < n) : ∃ g cap, v = .slice (some ⟨g, 0, none⟩) n cap ∧ n ≤ cap ∧ cap ≤ maxLen := by
  rcases h.shape with ⟨_, h0, _⟩ | ⟨g, cap, cur, rfl, _, h5, h6, _⟩
  · omega
  · exact ⟨g, cap, rfl, h5, h6⟩
end

theorem own_empty (w : World) (E size : Nat) : Own (w.alloc (.cells #[] E)) E size (.slice (some ⟨w.heap.size, 0, none⟩) 0 0) 0 [] := by
  have := Own.mk (w := w.alloc (.cells #[] E)) (size := size) (n := 0) (cap := 0) (row_new w (.cells #[] E)) (Nat.le_refl _) (Nat.zero_le _) (by simp)
  simpa using this

theorem Own.block {w : World} {E size : Nat} {v : Value} {n : Nat} {xs : List Value} (h : Own w E size v n xs) {g : Nat} (hg : v.ownBlock = some g) : ∃ cur, w.heap[g]? = some (.cells cur E (0, 0)) := by
  rcases h.shape with ⟨rfl, _⟩ | ⟨g', cap, cur, rfl, h4, _⟩
  · simp [Value.ownBlock] at hg
  · simp [Value.ownBlock] at hg; subst hg; exact ⟨cur, h4⟩
theorem Own.ne {w : World} {E E' size size' : Nat} {v v' : Value} {n n' : Nat} {xs xs' : List Value} (h : Own w E size v n xs) (h' : Own w E' size' v' n' xs') (hE : E ≠ E') {g : Nat} (hg : v.ownBlock = some g) : v'.ownBlock ≠ some g := by
  intro hg'
  obtain ⟨c, e⟩ := h.block hg
  obtain ⟨c', e'⟩ := h'.block hg'
  rw [e] at e'
  simp at e'
  exact hE e'.2
theorem Own.ne_block {w : World} {E size T b : Nat} {v : Value} {n : Nat} {xs : List Value} {cs : Array Value} (h : Own w E size v n xs) (hb : w.heap[b]? = some (.cells cs T (0, 0))) (hE : E ≠ T) : v.ownBlock ≠ some b := by
  intro hg
  obtain ⟨c, e⟩ := h.block hg
  rw [e] at hb
  simp at hb
  exact hE hb.2
theorem Own.one {w : World} {E size : Nat} {v : Value} {n : Nat} {xs : List Value} (h : Own w E size v n xs) : v.oneCell' = true := by
  rcases h.shape with ⟨rfl, _⟩ | ⟨g, cap, cur, rfl, _⟩ <;> rfl
theorem Own.nil_iff {w : World} {E size : Nat} {ao : Option Addr} {n cap : Nat} {xs : List Value} (h : Own w E size (.slice ao n cap) n xs) : (Value.slice ao n cap = .slice none 0 0) ↔ ao = none := by
  rcases h.shape with ⟨e, _⟩ | ⟨g, cap, cur, e, _⟩
  · simp only [Value.slice.injEq] at e; simp [e]
  · simp only [Value.slice.injEq] at e; simp [e.1]
theorem Own.isSlice {w : World} {E size : Nat} {v : Value} {n : Nat} {xs : List Value} (h : Own w E size v n xs) : ∃ ao cap, v = .slice ao n cap := by
  rcases h.shape with ⟨rfl, rfl, _⟩ | ⟨g, cap, cur, rfl, _⟩
  · exact ⟨_, _, rfl⟩
  · exact ⟨_, _, rfl⟩

/-- what is appended: m elements, whose cells are news -/
def Src (w : World) (size : Nat) (x : Value) (m : Nat) (news : List Value) : Prop :=
  ∃ ao c, x = .slice ao m c ∧ news.length = m * size ∧ (ao = none → m = 0 ∧ c = 0) ∧ (∀ ad, ao = some ad → ∀ j u, news[j]? = some u → w.cell? (ad.add j) = some u) ∧ ∀ u ∈ news, u.oneCell' = true

theorem Src.kept {F : Nat → Prop} {w w' : World} {size m : Nat} {v : Value} {news : List Value} (h : Src w size v m news) (k : Kept F w w') (hF : ∀ g, v.ownBlock = some g → ¬ F g) : Src w' size v m news := by
  obtain ⟨ao, c, rfl, h1, h2, h3, h4⟩ := h
  refine ⟨ao, c, rfl, h1, h2, fun ad had j u hu => ?_, h4⟩
  subst had
  have e := h3 ad rfl j u hu
  refine k.cell e (hF _ ?_)
  simp only [Value.ownBlock, Option.some.injEq]
  unfold Addr.add
  split <;> rfl

theorem run_append_grows {P : Program} (w : World) (t ty e : TypeId) (i : TypeInfo) (z : Value) (size bytes : Nat) (ht : P.underlying t = some (.slice e)) (hi : P.info? e = some i) (hz : i.zero = some z)
    (hsize : i.size = size) (hby : i.bytes = bytes) (hzs : z.cells.size = size) (hsz : 0 < size)
    (v : Value) (n : Nat) (xs : List Value) (hown : Own w e size v n xs) (x : Value) (m : Nat) (news : List Value) (hx : Src w size x m news)
    (h63 : n + m ≤ maxLen) (hbytes : (n + m) * bytes ≤ 140737488355328) :
    ∃ v' w', (Builtin.append_ #[t, t] ty #[v, x]).run P w = .ok v' w' ∧ Own w' e size v' (n + m) (xs ++ news) ∧ Kept (fun k => v.ownBlock = some k) w w' ∧ (∀ g, v'.ownBlock = some g → v.ownBlock = some g ∨ w.heap.size ≤ g) ∧
      (v' = .slice none 0 0 ↔ v = .slice none 0 0 ∧ m = 0) := by
  obtain ⟨ao, c, rfl, hl, hn0, hnews, h1⟩ := hx
  have hsmall : n + m ≤ 9223372036854775807 := by simp only [maxLen] at h63; omega
  cases ao with
  | none =>
    obtain ⟨rfl, rfl⟩ := hn0 rfl
    obtain rfl : news = [] := List.eq_nil_of_length_eq_zero (by simpa using hl)
    have hr := run_append_owned_none (P := P) (w := w) 0 t ty e i size ht hi v n xs hown
    exact ⟨v, w, hr, by simpa using hown, Kept.refl _ _, fun g hg => .inl hg, by simp⟩
  | some a =>
    have hnews := hnews a rfl
    obtain ⟨v', w', hr, h2, h3, h4⟩ := run_append_own (P := P) w 0 t ty e i z size bytes ht hi hz hsize hby hzs hsz v n xs hown a m c news hl hnews h1 h63 hbytes (Nat.zero_le _)
    refine ⟨v', w', hr, h2, (Kept.refl _ _).grown h3 (fun k hk => .inl hk), ?_, h4⟩
    intro g hg
    rcases hown.shape with ⟨rfl, rfl, rfl⟩ | ⟨g0, cap, cur, rfl, hg0, hnc, hcm, hcs, htake⟩
    · right
      obtain ⟨v2, w2, hr2, k2, _, _⟩ := run_append_own (P := P) w w.heap.size t ty e i z size bytes ht hi hz hsize hby hzs hsz (.slice none 0 0) 0 [] (World.ownsRow_nil _ _ _ _) a m c news hl hnews h1 h63 hbytes (Nat.le_refl _)
      have e1 := hr.symm.trans hr2
      simp only [Result.ok.injEq] at e1
      obtain ⟨rfl, rfl⟩ := e1
      exact (k2.lt g hg).1
    · by_cases hroom : n + m ≤ cap
      · left
        subst hsize
        have hr2 := run_append_room (P := P) w t ty e i ht hi g0 n cap cur hg0 a m c news hl hnews h1 hroom (by rw [hl, hcs, ← Nat.add_mul]; exact Nat.mul_le_mul_right _ hroom)
        have e1 := hr.symm.trans hr2
        simp only [Result.ok.injEq] at e1
        obtain ⟨rfl, _⟩ := e1
        simpa [Value.ownBlock] using hg
      · right
        subst hsize
        subst hby
        have holds : ∀ j u, xs[j]? = some u → w.cell? ((⟨g0, 0, none⟩ : Addr).add j) = some u := World.ownsRow.cells hown (g := g0) rfl
        have hr2 := run_append_grow (P := P) w t ty e i z ht hi hz ⟨g0, 0, none⟩ n cap xs hown.1 holds a m c news hl hnews (by omega) (by omega) (growslice_fits (by omega) hbytes)
        have e1 := hr.symm.trans hr2
        simp only [Result.ok.injEq] at e1
        obtain ⟨rfl, _⟩ := e1
        simp [Value.ownBlock] at hg
        omega

/-- an operation whose run is known -/
theorem wpList_run {P : Program} {w w' : World} {ops : Array Oper} {rest : List Oper} {o : Oper} {a : Act} {Q : Exit → Act → World → Prop} {v : Value} (hgd : o.guard = none)
    (hrun : (execOp a.eval o).run P w = .ok (.value v) w') (h : wpList P ops Q rest (a.put o.dst v) w') : wpList P ops Q (o :: rest) a w := by
  refine wpList_plain hgd fun K hK => ?_
  unfold Oper.wp
  rw [hrun]
  exact hK _ _ h

/-- append at the operation -/
theorem wpList_app {P : Program} {w : World} {ops : Array Oper} {rest : List Oper} {o : Oper} {a : Act} {Q : Exit → Act → World → Prop} (hgd : o.guard = none) (s x : Operand) (t : TypeId)
    (ho : o.op = .call { callee := .builtin .append, args := #[s, x], argTypes := #[t, t] })
    (e : TypeId) (z : Value) (size bytes : Nat) (ht : P.underlying t = some (.slice e)) (hi : (P.info? e).map (fun i => (i.zero, i.size, i.bytes)) = some (some z, size, bytes)) (hzs : z.cells.size = size) (hsz : 0 < size)
    (v : Value) (n : Nat) (xs : List Value) (hs : a.eval s = v) (hown : Own w e size v n xs) (xv : Value) (hxv : a.eval x = xv) (m : Nat) (news : List Value) (hx : Src w size xv m news)
    (h63 : n + m ≤ maxLen) (hbytes : (n + m) * bytes ≤ 140737488355328)
    (h : ∀ a' c' w', Own w' e size (.slice a' (n + m) c') (n + m) (xs ++ news) → Kept (fun k => v.ownBlock = some k) w w' → (∀ g, (Value.slice a' (n + m) c').ownBlock = some g → v.ownBlock = some g ∨ w.heap.size ≤ g) → (a' = none ↔ v = .slice none 0 0 ∧ m = 0) → wpList P ops Q rest (a.put o.dst (.slice a' (n + m) c')) w') :
    wpList P ops Q (o :: rest) a w := by
  obtain ⟨i, hi1, hi2, hi3, hi4⟩ := info_parts hi
  obtain ⟨v', w', hr, h1, h2, h3, h4⟩ := run_append_grows (P := P) w t o.type e i z size bytes ht hi1 hi2 hi3 hi4 hzs hsz v n xs hown xv m news hx h63 hbytes
  obtain ⟨a', c', rfl⟩ := h1.isSlice
  refine wpList_run hgd ?_ (h a' c' w' h1 h2 h3 (h1.nil_iff.symm.trans h4))
  simp [execOp, ho, resolve, invoke, builtin, hs, hxv, hr, Result.andThen]

/-- .. as one step of a region that draws its order -/
theorem step_app {P : Program} {ops : Array Oper} {o : Oper} {a : Act} {w : World} {K : Act → World → Prop} {Q : Exit → Act → World → Prop} {E : Prop} (hgd : o.guard = none) (s x : Operand) (t : TypeId)
    (ho : o.op = .call { callee := .builtin .append, args := #[s, x], argTypes := #[t, t] })
    (e : TypeId) (z : Value) (size bytes : Nat) (ht : P.underlying t = some (.slice e)) (hi : (P.info? e).map (fun i => (i.zero, i.size, i.bytes)) = some (some z, size, bytes)) (hzs : z.cells.size = size) (hsz : 0 < size)
    (v : Value) (n : Nat) (xs : List Value) (hs : a.eval s = v) (hown : Own w e size v n xs) (xv : Value) (hxv : a.eval x = xv) (m : Nat) (news : List Value) (hx : Src w size xv m news)
    (h63 : n + m ≤ maxLen) (hbytes : (n + m) * bytes ≤ 140737488355328)
    (h : ∀ a' c' w', Own w' e size (.slice a' (n + m) c') (n + m) (xs ++ news) → Kept (fun k => v.ownBlock = some k) w w' → (∀ g, (Value.slice a' (n + m) c').ownBlock = some g → v.ownBlock = some g ∨ w.heap.size ≤ g) → (a' = none ↔ v = .slice none 0 0 ∧ m = 0) → K (a.put o.dst (.slice a' (n + m) c')) w') :
    if Region.wanted o (yielded ops a.tmps) = true then Oper.wp P o a w K Q else E := by
  have hw : Region.wanted o (yielded ops a.tmps) = true := by simp [Region.wanted, hgd]
  rw [if_pos hw]
  obtain ⟨i, hi1, hi2, hi3, hi4⟩ := info_parts hi
  obtain ⟨v', w', hr, h1, h2, h3, h4⟩ := run_append_grows (P := P) w t o.type e i z size bytes ht hi1 hi2 hi3 hi4 hzs hsz v n xs hown xv m news hx h63 hbytes
  obtain ⟨a', c', rfl⟩ := h1.isSlice
  unfold Oper.wp
  simp only [execOp, ho, resolve, invoke, builtin, Sem.run_bind, Sem.run_pure, Result.andThen_ok, List.map_toArray, List.map_cons, List.map_nil, hs, hxv, hr]
  exact h a' c' w' h1 h2 h3 (h1.nil_iff.symm.trans h4)

theorem src_row {w : World} {size : Nat} {g off m c : Nat} {news : List Value} (hl : news.length = m * size) (hc : ∀ j u, news[j]? = some u → w.cell? ⟨g, off + j, none⟩ = some u) (h1 : ∀ u ∈ news, u.oneCell' = true) :
    Src w size (.slice (some ⟨g, off, none⟩) m c) m news := by
  refine ⟨_, _, rfl, hl, (fun h => nomatch h), fun ad had j u hu => ?_, h1⟩
  cases had
  have := hc j u hu
  unfold Addr.add
  split
  · rename_i h0; subst h0; simpa using this
  · exact this
/-- the slice of one element that append(xs, x) lays -/
theorem src_one {w : World} {E : TypeId} (v : Value) (h1 : v.oneCell' = true) : Src (w.alloc (.cells #[v] E)) 1 (.slice (some ⟨w.heap.size, 0, none⟩) 1 1) 1 [v] :=
  src_row rfl (fun j u hu => by match j, hu with | 0, hu => simp at hu; subst hu; simp) (by simpa using h1)
theorem Own.src {w : World} {E size : Nat} {v : Value} {n : Nat} {xs : List Value} (h : Own w E size v n xs) (h1 : ∀ u ∈ xs, u.oneCell' = true) : Src w size v n xs := by
  rcases h.shape with ⟨rfl, rfl, rfl⟩ | ⟨g, cap, cur, rfl, _⟩
  · exact ⟨none, 0, rfl, by simp, fun _ => ⟨rfl, rfl⟩, (fun _ h => nomatch h), by simp⟩
  · refine src_row h.len (fun j u hu => ?_) h1
    obtain ⟨hj, e⟩ := List.getElem?_eq_some_iff.1 hu
    rw [Nat.zero_add, ← e]
    exact h.cells rfl j hj

/-- append where there is room, whatever the source: also a piece of the same row -/
theorem run_app_room {P : Program} (w : World) (t ty e : TypeId) (i : TypeInfo) (ht : P.underlying t = some (.slice e)) (hi : P.info? e = some i) (size : Nat) (hsize : i.size = size)
    (g n cap : Nat) (cur : Array Value) (hg : w.heap[g]? = some (.cells cur e (0, 0))) (hcs : cur.size = cap * size) (hcm : cap ≤ maxLen) (x : Value) (m : Nat) (news : List Value) (hx : Src w size x m news) (hroom : n + m ≤ cap) :
    (Builtin.append_ #[t, t] ty #[.slice (some ⟨g, 0, none⟩) n cap, x]).run P w = .ok (.slice (some ⟨g, 0, none⟩) (n + m) cap) (w.setRow g (cur.toList.take (n * size) ++ news ++ cur.toList.drop (n * size + news.length)).toArray) := by
  obtain ⟨ao, c, rfl, hl, hn0, hnews, h1⟩ := hx
  cases ao with
  | none =>
    obtain ⟨rfl, rfl⟩ := hn0 rfl
    obtain rfl : news = [] := List.eq_nil_of_length_eq_zero (by simpa using hl)
    have hr := run_append_owned_none (P := P) (w := w) 0 t ty e i size ht hi _ n _ (Own.mk (size := size) hg (by omega : n ≤ cap) hcm hcs)
    rw [hr]
    simp
    rw [setRow_self w g cur e _ hg]
  | some a =>
    subst hsize
    exact run_append_room (P := P) w t ty e i ht hi g n cap cur hg a m c news hl (hnews a rfl) h1 hroom (by rw [hl, hcs, ← Nat.add_mul]; exact Nat.mul_le_mul_right _ hroom)

/-- clear of a piece of a row -/
theorem run_clear_row {P : Program} (w : World) (t e ty : TypeId) (z : Value) (size : Nat) (ht : P.underlying t = some (.slice e)) (hv : ∀ w, (zeroValue e).run P w = .ok z w) (hz : z.cells.size = size) (h1 : ∀ u ∈ z.cells.toList, u.oneCell' = true)
    (g o n c : Nat) (cur : Array Value) (hg : w.heap[g]? = some (.cells cur e (0, 0))) (hfit : o + n * size ≤ cur.size) :
    (Builtin.clear_ #[t] ty #[.slice (some ⟨g, o, none⟩) n c]).run P w = .ok (.tuple #[]) (w.setRow g (cur.toList.take o ++ (Builtin.zeroCells z.cells n).toList ++ cur.toList.drop (o + n * size)).toArray) := by
  have hlen : (Builtin.zeroCells z.cells n).toList.length = n * size := by rw [Array.length_toList, size_zeroCells, hz]
  have hone : ∀ u ∈ (Builtin.zeroCells z.cells n).toList, u.oneCell' = true := by
    intro u hu
    simp only [Builtin.zeroCells, Array.toList_map, List.mem_map] at hu
    obtain ⟨i, hi, rfl⟩ := hu
    have hpos : 0 < z.cells.size := by
      rcases Nat.eq_zero_or_pos z.cells.size with h0 | h0
      · simp [h0] at hi
      · exact h0
    have hlt := Nat.mod_lt i hpos
    rw [getElem!_pos z.cells (i % z.cells.size) hlt]
    exact h1 _ (by simp)
  cases n with
  | zero =>
    simp [Builtin.clear_, run_underlying ht, Builtin.zeroCells]
    rw [setRow_self w g cur e _ hg]
  | succ m =>
    have hst := run_storeCells_at P g o e (Builtin.zeroCells z.cells (m + 1)).toList 0 cur w hg (by rw [hlen]; omega) hone
    simp only [Nat.add_zero, hlen] at hst
    simp [Builtin.clear_, run_underlying ht, hv]
    simp at hst
    simp [hst]

theorem Kept.setRow {F : Nat → Prop} {a w : World} (h : Kept F a w) {g : Nat} (cs : Array Value) (hp : F g ∨ a.heap.size ≤ g) : Kept F a (w.setRow g cs) :=
  h.trans' (G := fun i => i = g) ⟨rfl, rfl, rfl, by simp, fun k _ hk => setRow_other w g k cs hk⟩ (fun i e => by subst e; exact hp)

/-- append to the head of a row, where there is room -/
theorem wpList_app_room {P : Program} {w : World} {ops : Array Oper} {rest : List Oper} {o : Oper} {a : Act} {Q : Exit → Act → World → Prop} (hgd : o.guard = none) (s x : Operand) (t : TypeId)
    (ho : o.op = .call { callee := .builtin .append, args := #[s, x], argTypes := #[t, t] })
    (e : TypeId) (z : Value) (size bytes : Nat) (ht : P.underlying t = some (.slice e)) (hi : (P.info? e).map (fun i => (i.zero, i.size, i.bytes)) = some (some z, size, bytes))
    (g n cap : Nat) (cur : Array Value) (hg : w.heap[g]? = some (.cells cur e (0, 0))) (hcs : cur.size = cap * size) (hcm : cap ≤ maxLen)
    (hs : a.eval s = .slice (some ⟨g, 0, none⟩) n cap) (xv : Value) (hxv : a.eval x = xv) (m : Nat) (news : List Value) (hx : Src w size xv m news) (hroom : n + m ≤ cap)
    (h : ∀ w' cur', Hid (w'.heap[g]? = some (.cells cur' e (0, 0))) → Hid (cur'.toList = cur.toList.take (n * size) ++ news ++ cur.toList.drop (n * size + news.length)) → Hid (Kept (fun k => k = g) w w') → wpList P ops Q rest (a.put o.dst (.slice (some ⟨g, 0, none⟩) (n + m) cap)) w') :
    wpList P ops Q (o :: rest) a w := by
  obtain ⟨i, hi1, hi2, hi3, hi4⟩ := info_parts hi
  have hr := run_app_room (P := P) w t o.type e i ht hi1 size hi3 g n cap cur hg hcs hcm xv m news hx hroom
  refine wpList_run hgd ?_ (h _ _ (hid (setRow_heap w g _ _ e _ hg)) (hid rfl) (hid ((Kept.refl _ _).setRow _ (.inl rfl))))
  simp [execOp, ho, resolve, invoke, builtin, hs, hxv, hr, Result.andThen]

/-- clear of a piece of a row, the world behind it under a name -/
theorem run_clear_some {P : Program} (w : World) (t e ty : TypeId) (z : Value) (size : Nat) (ht : P.underlying t = some (.slice e)) (hv : ∀ w, (zeroValue e).run P w = .ok z w) (hz : z.cells.size = size) (h1 : ∀ u ∈ z.cells.toList, u.oneCell' = true)
    (g o n c : Nat) (cur : Array Value) (hg : w.heap[g]? = some (.cells cur e (0, 0))) (hfit : o + n * size ≤ cur.size) :
    ∃ w' cur', (Builtin.clear_ #[t] ty #[.slice (some ⟨g, o, none⟩) n c]).run P w = .ok (.tuple #[]) w' ∧ w'.heap[g]? = some (.cells cur' e (0, 0)) ∧ cur'.toList = cur.toList.take o ++ (Builtin.zeroCells z.cells n).toList ++ cur.toList.drop (o + n * size) ∧ cur'.size = cur.size ∧ Kept (fun k => k = g) w w' := by
  refine ⟨_, _, run_clear_row w t e ty z size ht hv hz h1 g o n c cur hg hfit, setRow_heap w g _ _ e _ hg, rfl, ?_, (Kept.refl _ _).setRow _ (.inl rfl)⟩
  have hlen : (Builtin.zeroCells z.cells n).size = n * size := by rw [size_zeroCells, hz]
  simp [hlen]
  omega
end Go.Proofs.Ytpjhdpfaogdboaa
