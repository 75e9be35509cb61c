/- Slices at the head of a block that may be longer than their capacity (s[:i:i]): append, what they hold. -/
import Derived.Test.YtpjhdpfaogdboaaLies
namespace Go.Proofs.Ytpjhdpfaogdboaa
set_option linter.unusedSimpArgs false
set_option linter.unusedVariables false
open Go.RowKit

def Seg (w : World) (E size : Nat) (v : Value) (n : Nat) (xs : List Value) : Prop :=
  xs.length = n * size ∧ ((v = .slice none 0 0 ∧ n = 0) ∨ ∃ g cap cur, v = .slice (some ⟨g, 0, none⟩) n cap ∧ w.heap[g]? = some (.cells cur E (0, 0)) ∧ n ≤ cap ∧ cap ≤ maxLen ∧ cap * size ≤ cur.size ∧ cur.toList.take (n * size) = xs)
section
variable {w w' : World} {E size : Nat} {v : Value} {n : Nat} {xs : List Value}
theorem Own.seg (h : Own w E size v n xs) : Seg w E size v n xs := by
  refine ⟨h.len, ?_⟩
  rcases h.shape with ⟨h1, h2, _⟩ | ⟨g, cap, cur, h1, h2, h3, h4, h5, h6⟩
  · exact .inl ⟨h1, h2⟩
  · exact .inr ⟨g, cap, cur, h1, h2, h3, h4, by omega, h6⟩
theorem Seg.nil (w : World) (E size : Nat) : Seg w E size (.slice none 0 0) 0 [] := (Own.nil w E size).seg
theorem Seg.len (h : Seg w E size v n xs) : xs.length = n * size := h.1
theorem Seg.shape (h : Seg w E size v n xs) : (v = .slice none 0 0 ∧ n = 0 ∧ xs = []) ∨
    ∃ g cap cur, v = .slice (some ⟨g, 0, none⟩) n cap ∧ w.heap[g]? = some (.cells cur E (0, 0)) ∧ n ≤ cap ∧ cap ≤ maxLen ∧ cap * size ≤ cur.size ∧ cur.toList.take (n * size) = xs := by
  rcases h.2 with ⟨rfl, rfl⟩ | h2
  · refine .inl ⟨rfl, rfl, ?_⟩
    have := h.1
    simpa using this
  · exact .inr h2
theorem Seg.mk {g cap : Nat} {cur : Array Value} (h1 : w.heap[g]? = some (.cells cur E (0, 0))) (h2 : n ≤ cap) (h3 : cap ≤ maxLen) (h4 : cap * size ≤ cur.size) :
    Seg w E size (.slice (some ⟨g, 0, none⟩) n cap) n (cur.toList.take (n * size)) := by
  refine ⟨?_, .inr ⟨g, cap, cur, rfl, h1, h2, h3, h4, rfl⟩⟩
  rw [List.length_take, Array.length_toList]
  exact Nat.min_eq_left (Nat.le_trans (Nat.mul_le_mul_right _ h2) h4)
theorem Seg.lt (h : Seg w E size v n xs) {g : Nat} (hg : v.ownBlock = some g) : g < w.heap.size := by
  rcases h.shape with ⟨rfl, _⟩ | ⟨g', cap, cur, rfl, h4, _⟩
  · simp [Value.ownBlock] at hg
  · simp [Value.ownBlock] at hg; subst hg; exact row_lt h4
theorem Seg.of_block (h : Seg w E size v n xs) (hb : ∀ g, v.ownBlock = some g → w'.heap[g]? = w.heap[g]?) : Seg w' E size v n xs := by
  refine ⟨h.1, ?_⟩
  rcases h.2 with h2 | ⟨g, cap, cur, rfl, h4, h5⟩
  · exact .inl h2
  · exact .inr ⟨g, cap, cur, rfl, (hb g rfl).trans h4, h5⟩
theorem Seg.kept {F : Nat → Prop} (h : Seg w E size v n xs) (k : Kept F w w') (hF : ∀ g, v.ownBlock = some g → ¬ F g) : Seg w' E size v n xs :=
  h.of_block fun g hg => k.block g (h.lt hg) (hF g hg)
theorem Seg.same (h : Seg w E size v n xs) (k : Kept (fun _ => False) w w') : Seg w' E size v n xs := h.kept k (fun _ _ h => h)
theorem Seg.alloc (h : Seg w E size v n xs) (o : Obj) : Seg (w.alloc o) E size v n xs := h.of_block fun _ hg => Below.heap_alloc _ _ _ (h.lt hg)
theorem Seg.cells (h : Seg w E size v n xs) {g : Nat} (hg : v.ownBlock = some g) (j : Nat) (hj : j < xs.length) : w.cell? ⟨g, j, none⟩ = some xs[j] := by
  rcases h.shape with ⟨rfl, _⟩ | ⟨g', cap, cur, rfl, h4, h5, h6, h7, h8⟩
  · simp [Value.ownBlock] at hg
  · simp [Value.ownBlock] at hg
    subst hg
    rw [row_cell h4]
    have e : xs[j]? = some xs[j] := by simp
    rw [← e]
    conv => rhs; rw [← h8]
    rw [List.getElem?_take, if_pos (by have := h.len; omega)]
    simp
theorem Seg.isSlice (h : Seg w E size v n xs) : ∃ ao cap, v = .slice ao n cap := by
  rcases h.shape with ⟨rfl, rfl, _⟩ | ⟨g, cap, cur, rfl, _⟩
  · exact ⟨_, _, rfl⟩
  · exact ⟨_, _, rfl⟩
theorem Seg.caps {ao : Option Addr} {cap : Nat} (h : Seg w E size (.slice ao n cap) n xs) : n ≤ cap ∧ cap ≤ maxLen := by
  rcases h.shape with ⟨e, rfl, _⟩ | ⟨g, cap', cur, e, _, h5, h6, _⟩
  · simp only [Value.slice.injEq] at e; obtain ⟨_, _, rfl⟩ := e; exact ⟨Nat.le_refl _, Nat.zero_le _⟩
  · simp only [Value.slice.injEq] at e; obtain ⟨_, _, rfl⟩ := e; exact ⟨h5, h6⟩
theorem Seg.one (h : Seg w E size v n xs) : v.oneCell' = true := by
  obtain ⟨_, _, rfl⟩ := h.isSlice
  rfl
theorem Seg.some_of_pos (h : Seg w E size v n xs) (hn : 0 < n) : ∃ g cap, v = .slice (some ⟨g, 0, none⟩) n cap ∧ n ≤ cap ∧ cap ≤ maxLen := by
  rcases h.shape with ⟨_, h0, _⟩ | ⟨g, cap, cur, rfl, _, h5, h6, _⟩
  · omega
  · exact ⟨g, cap, rfl, h5, h6⟩
theorem Seg.block (h : Seg w E size v n xs) {g : Nat} (hg : v.ownBlock = some g) : ∃ cur, w.heap[g]? = some (.cells cur E (0, 0)) := by
  rcases h.shape with ⟨rfl, _⟩ | ⟨g', cap, cur, rfl, h4, _⟩
  · simp [Value.ownBlock] at hg
  · simp [Value.ownBlock] at hg; subst hg; exact ⟨cur, h4⟩
theorem Seg.free (h : Seg w E size v n xs) {g : Nat} (hg : v.ownBlock = some g) (j : Nat) : w.frozen? ⟨g, j, none⟩ = false := by
  obtain ⟨cur, hb⟩ := h.block hg
  exact row_free hb j
theorem Seg.ne_block {T b : Nat} {cs : Array Value} (h : Seg w E size v n xs) (hb : w.heap[b]? = some (.cells cs T (0, 0))) (hE : E ≠ T) : v.ownBlock ≠ some b := by
  intro hg
  obtain ⟨c, e⟩ := h.block hg
  rw [e] at hb
  simp at hb
  exact hE hb.2
theorem Seg.ne {E' size' : Nat} {v' : Value} {n' : Nat} {xs' : List Value} (h : Seg w E size v n xs) (h' : Seg w E' size' v' n' xs') (hE : E ≠ E') {g : Nat} (hg : v.ownBlock = some g) : v'.ownBlock ≠ some g := by
  intro hg'
  obtain ⟨c, e⟩ := h.block hg
  obtain ⟨c', e'⟩ := h'.block hg'
  rw [e] at e'
  simp at e'
  exact hE e'.2
theorem Seg.lies {F : Nat → Prop} (h : Seg w E size v n xs) (h1 : ∀ u ∈ xs, u.oneCell' = true) (hF : ∀ g, v.ownBlock = some g → ¬ F g) : Lies F w size v n xs := by
  rcases h.shape with ⟨rfl, rfl, rfl⟩ | ⟨g, cap, cur, rfl, hg, hnc, hcm, _⟩
  · exact Lies.nil _ _ _
  · refine ⟨_, cap, rfl, hnc, hcm, h.len, (fun h => nomatch h), fun _ => ⟨g, 0, rfl, hF g rfl, row_lt hg, fun j u hu => ?_⟩, h1⟩
    obtain ⟨hj, e⟩ := List.getElem?_eq_some_iff.1 hu
    rw [Nat.zero_add, ← e]
    exact h.cells rfl j hj
theorem Seg.src (h : Seg w E size v n xs) (h1 : ∀ u ∈ xs, u.oneCell' = true) : Src w size v n xs := (h.lies (F := fun _ => False) h1 (fun _ _ h => h)).src
/-- the first m of them: s[:m:m] -/
theorem Seg.cut {g cap : Nat} (h : Seg w E size (.slice (some ⟨g, 0, none⟩) n cap) n xs) {m : Nat} (hm : m ≤ n) : Seg w E size (.slice (some ⟨g, 0, none⟩) m m) m (xs.take (m * size)) := by
  rcases h.shape with ⟨e, _⟩ | ⟨g', cap', cur, e, h4, h5, h6, h7, h8⟩
  · simp at e
  · simp only [Value.slice.injEq, Option.some.injEq, Addr.mk.injEq] at e
    obtain ⟨⟨rfl, _, _⟩, _, rfl⟩ := e
    have := Seg.mk (n := m) (cap := m) (size := size) h4 (Nat.le_refl _) (by omega) (Nat.le_trans (Nat.mul_le_mul_right _ (by omega : m ≤ cap)) h7)
    rw [← h8, List.take_take, Nat.min_eq_left (Nat.mul_le_mul_right _ hm)]
    exact this
/-- one cell is written -/
theorem Seg.set {g : Nat} (h : Seg w E size v n xs) (hg : v.ownBlock = some g) (j : Nat) (u : Value) : Seg (w.setCell ⟨g, j, none⟩ u) E size v n (xs.set j u) := by
  rcases h.shape with ⟨rfl, _⟩ | ⟨g', cap, cur, rfl, h4, h5, h6, h7, h8⟩
  · simp [Value.ownBlock] at hg
  · simp [Value.ownBlock] at hg
    subst hg
    have hr := row_set h4 j u
    have e : xs.set j u = (cur.setIfInBounds j u).toList.take (n * size) := by
      rw [Array.toList_setIfInBounds, List.take_set, h8]
    rw [e]
    exact Seg.mk hr h5 h6 (by simpa using h7)
end

theorem run_append_seg {P : Program} (w : World) (t ty e : TypeId) (i : TypeInfo) (z : Value) (size bytes : Nat) (ht : P.underlying t = some (.slice e)) (hi : P.info? e = some i) (hz : i.zero = some z)
    (hsize : i.size = size) (hby : i.bytes = bytes) (hzs : z.cells.size = size) (hsz : 0 < size)
    (v : Value) (n : Nat) (xs : List Value) (hown : Seg w e size v n xs) (x : Value) (m : Nat) (news : List Value) (hx : Src w size x m news)
    (h63 : n + m ≤ maxLen) (hbytes : (n + m) * bytes ≤ 140737488355328) :
    ∃ v' w', (Builtin.append_ #[t, t] ty #[v, x]).run P w = .ok v' w' ∧ Seg w' e size v' (n + m) (xs ++ news) ∧ Kept (fun k => v.ownBlock = some k) w w' ∧ (∀ g, v'.ownBlock = some g → v.ownBlock = some g ∨ w.heap.size ≤ g) := by
  rcases hown.shape with ⟨rfl, rfl, rfl⟩ | ⟨g, cap, cur, rfl, hg, hnc, hcm, hcs, htk⟩
  · obtain ⟨v', w', h1, h2, h3, h4, _⟩ := run_append_grows (P := P) w t ty e i z size bytes ht hi hz hsize hby hzs hsz _ 0 [] (Own.nil w e size) x m news hx h63 hbytes
    exact ⟨v', w', h1, h2.seg, h3, h4⟩
  · subst hsize
    subst hby
    obtain ⟨ao, c, rfl, hl, hn0, hnews, h1⟩ := hx
    by_cases hroom : n + m ≤ cap
    · cases ao with
      | none =>
        obtain ⟨rfl, rfl⟩ := hn0 rfl
        obtain rfl : news = [] := List.eq_nil_of_length_eq_zero (by simpa using hl)
        refine ⟨_, w, ?_, by simpa using hown, Kept.refl _ _, fun g hg => .inl hg⟩
        simp [Builtin.append_, run_underlying ht, sizeOf, typeInfo, hi, Builtin.lenOf, hnc, Builtin.firstCells, loadCells, loadCellsFrom, storeCells]
      | some a =>
        have hfit : n * i.size + news.length ≤ cur.size := by
          rw [hl, ← Nat.add_mul]
          exact Nat.le_trans (Nat.mul_le_mul_right _ hroom) hcs
        have hr := run_append_room (P := P) w t ty e i ht hi g n cap cur hg a m c news hl (hnews a rfl) h1 hroom hfit
        refine ⟨_, _, hr, ?_, (Kept.refl _ _).setRow _ (.inl (by simp [Value.ownBlock])), fun g' hg' => .inl (by simpa [Value.ownBlock] using hg')⟩
        have h2 := Seg.mk (size := i.size) (n := n + m) (cap := cap) (setRow_heap w g cur (cur.toList.take (n * i.size) ++ news ++ cur.toList.drop (n * i.size + news.length)).toArray e _ hg) hroom hcm (by simp; omega)
        have e1 : (cur.toList.take (n * i.size) ++ news ++ cur.toList.drop (n * i.size + news.length)).toArray.toList.take ((n + m) * i.size) = xs ++ news := by
          rw [List.toList_toArray, ← htk]
          exact List.take_left' (by simp [Nat.add_mul, hl]; omega)
        rw [e1] at h2
        exact h2
    · cases ao with
      | none => obtain ⟨rfl, _⟩ := hn0 rfl; omega
      | some a =>
        have holds : ∀ j u, xs[j]? = some u → w.cell? ((⟨g, 0, none⟩ : Addr).add j) = some u := fun j u hj => by
          obtain ⟨hj', e'⟩ := List.getElem?_eq_some_iff.1 hj
          have ea : (⟨g, 0, none⟩ : Addr).add j = ⟨g, j, none⟩ := by unfold Addr.add; split <;> simp_all
          rw [ea, ← e']
          exact hown.cells rfl j hj'
        have hmx := h63
        unfold maxLen at h63
        have hr2 := run_append_grow (P := P) w t ty e i z ht hi hz ⟨g, 0, none⟩ n cap xs hown.1 holds a m c news hl (hnews a rfl) (by omega) (by omega) (growslice_fits (by omega) hbytes)
        refine ⟨_, _, hr2, ?_, ((Kept.refl _ _).drew).alloc _, fun g' hg' => .inr (by simp [Value.ownBlock] at hg'; omega)⟩
        have hc := grownCap_ge w (n + m) cap e
        have h2 := Seg.mk (w := w.drew.alloc (.cells (xs.toArray ++ news.toArray ++ Builtin.zeroCells z.cells (grownCap w (n + m) cap e - (n + m))) e)) (size := i.size) (n := n + m) (cap := grownCap w (n + m) cap e) (row_new w.drew _) hc (grownCap_le_maxLen w _ _ _ hmx) (by
          simp [size_zeroCells, hzs, hown.1, hl]
          rw [← Nat.add_mul, ← Nat.add_mul]
          exact Nat.mul_le_mul_right _ (by omega))
        have e1 : (xs.toArray ++ news.toArray ++ Builtin.zeroCells z.cells (grownCap w (n + m) cap e - (n + m))).toList.take ((n + m) * i.size) = xs ++ news := by
          rw [Array.toList_append, Array.toList_append, List.toList_toArray, List.toList_toArray]
          exact List.take_left' (by simp [Nat.add_mul, hl, hown.1])
        rw [e1] at h2
        exact h2
/-- append at the operation -/
theorem wpList_app_seg {P : Program} {w : World} {ops : Array Oper} {rest : List Oper} {o : Oper} {a : Act} {Q : Exit → Act → World → Prop} (hgd : o.guard = none) (s x : Operand) (t : TypeId)
    (ho : o.op = .call { callee := .builtin .append, args := #[s, x], argTypes := #[t, t] })
    (e : TypeId) (z : Value) (size bytes : Nat) (ht : P.underlying t = some (.slice e)) (hi : (P.info? e).map (fun i => (i.zero, i.size, i.bytes)) = some (some z, size, bytes)) (hzs : z.cells.size = size) (hsz : 0 < size)
    (v : Value) (n : Nat) (xs : List Value) (hs : a.eval s = v) (hown : Seg w e size v n xs) (xv : Value) (hxv : a.eval x = xv) (m : Nat) (news : List Value) (hx : Src w size xv m news)
    (h63 : n + m ≤ maxLen) (hbytes : (n + m) * bytes ≤ 140737488355328)
    (h : ∀ a' c' w', Seg w' e size (.slice a' (n + m) c') (n + m) (xs ++ news) → Kept (fun k => v.ownBlock = some k) w w' → (∀ g, (Value.slice a' (n + m) c').ownBlock = some g → v.ownBlock = some g ∨ w.heap.size ≤ g) → wpList P ops Q rest (a.put o.dst (.slice a' (n + m) c')) w') :
    wpList P ops Q (o :: rest) a w := by
  obtain ⟨i, hi1, hi2, hi3, hi4⟩ := info_parts hi
  obtain ⟨v', w', hr, h1, h2, h3⟩ := run_append_seg (P := P) w t o.type e i z size bytes ht hi1 hi2 hi3 hi4 hzs hsz v n xs hown xv m news hx h63 hbytes
  obtain ⟨a', c', rfl⟩ := h1.isSlice
  refine wpList_run hgd ?_ (h a' c' w' h1 h2 h3)
  simp [execOp, ho, resolve, invoke, builtin, hs, hxv, hr, Result.andThen]
/-- .. as a step -/
theorem step_app_seg {P : Program} {ops : Array Oper} {o : Oper} {a : Act} {w : World} {K : Act → World → Prop} {Q : Exit → Act → World → Prop} {E : Prop} {tm : Array Value} (d : Option Tmp) (hd : o.dst = d) (hw : Region.wanted o (yielded ops tm) = true) (s x : Operand) (t : TypeId)
    (ho : o.op = .call { callee := .builtin .append, args := #[s, x], argTypes := #[t, t] })
    (e : TypeId) (z : Value) (size bytes : Nat) (ht : P.underlying t = some (.slice e)) (hi : (P.info? e).map (fun i => (i.zero, i.size, i.bytes)) = some (some z, size, bytes)) (hzs : z.cells.size = size) (hsz : 0 < size)
    (v : Value) (n : Nat) (xs : List Value) (hs : a.eval s = v) (hown : Seg w e size v n xs) (xv : Value) (hxv : a.eval x = xv) (m : Nat) (news : List Value) (hx : Src w size xv m news)
    (h63 : n + m ≤ maxLen) (hbytes : (n + m) * bytes ≤ 140737488355328)
    (h : ∀ a' c' w', Seg w' e size (.slice a' (n + m) c') (n + m) (xs ++ news) → Kept (fun k => v.ownBlock = some k) w w' → (∀ g, (Value.slice a' (n + m) c').ownBlock = some g → v.ownBlock = some g ∨ w.heap.size ≤ g) → K (a.put d (.slice a' (n + m) c')) w') :
    if Region.wanted o (yielded ops tm) = true then Oper.wp P o a w K Q else E := by
  subst hd
  rw [if_pos hw]
  obtain ⟨i, hi1, hi2, hi3, hi4⟩ := info_parts hi
  obtain ⟨v', w', hr, h1, h2, h3⟩ := run_append_seg (P := P) w t o.type e i z size bytes ht hi1 hi2 hi3 hi4 hzs hsz v n xs hown xv m news hx h63 hbytes
  obtain ⟨a', c', rfl⟩ := h1.isSlice
  unfold Oper.wp
  simp only [execOp, ho, resolve, invoke, builtin, Sem.run_bind, Sem.run_pure, Result.andThen_ok, List.map_toArray, List.map_cons, List.map_nil, hs, hxv, hr]
  exact h a' c' w' h1 h2 h3
/-- append to the head of a row, where there is room -/
theorem wpList_app_roomS {P : Program} {w : World} {ops : Array Oper} {rest : List Oper} {o : Oper} {a : Act} {Q : Exit → Act → World → Prop} (hgd : o.guard = none) (s x : Operand) (t : TypeId)
    (ho : o.op = .call { callee := .builtin .append, args := #[s, x], argTypes := #[t, t] })
    (e : TypeId) (z : Value) (size bytes : Nat) (ht : P.underlying t = some (.slice e)) (hi : (P.info? e).map (fun i => (i.zero, i.size, i.bytes)) = some (some z, size, bytes))
    (g n cap : Nat) (cur : Array Value) (hg : w.heap[g]? = some (.cells cur e (0, 0))) (hcs : cap * size ≤ cur.size)
    (hs : a.eval s = .slice (some ⟨g, 0, none⟩) n cap) (ad : Addr) (m c : Nat) (hxv : a.eval x = .slice (some ad) m c) (news : List Value) (hl : news.length = m * size) (hnews : ∀ j u, news[j]? = some u → w.cell? (ad.add j) = some u) (h1 : ∀ u ∈ news, u.oneCell' = true) (hroom : n + m ≤ cap)
    (h : ∀ w' cur', Hid (w'.heap[g]? = some (.cells cur' e (0, 0))) → Hid (cur'.toList = cur.toList.take (n * size) ++ news ++ cur.toList.drop (n * size + news.length)) → Hid (Kept (fun k => k = g) w w') → wpList P ops Q rest (a.put o.dst (.slice (some ⟨g, 0, none⟩) (n + m) cap)) w') :
    wpList P ops Q (o :: rest) a w := by
  obtain ⟨i, hi1, hi2, hi3, hi4⟩ := info_parts hi
  subst hi3
  have hr := run_append_room (P := P) w t o.type e i ht hi1 g n cap cur hg ad m c news hl hnews h1 hroom (by rw [hl, ← Nat.add_mul]; exact Nat.le_trans (Nat.mul_le_mul_right _ hroom) hcs)
  refine wpList_run hgd ?_ (h _ _ (hid (setRow_heap w g _ _ e _ hg)) (hid rfl) (hid ((Kept.refl _ _).setRow _ (.inl rfl))))
  simp [execOp, ho, resolve, invoke, builtin, hs, hxv, hr, Result.andThen]
end Go.Proofs.Ytpjhdpfaogdboaa
