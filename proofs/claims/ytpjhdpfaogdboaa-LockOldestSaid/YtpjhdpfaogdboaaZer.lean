/- append(s, make([]T, k)...) for elements of one cell: s an owned slice, whatever room. -/
import Derived.Test.YtpjhdpfaogdboaaCopy
import Derived.Deep.MidRow
namespace Go.Proofs.Ytpjhdpfaogdboaa
set_option linter.unusedSimpArgs false
set_option linter.unusedVariables false
open Go.RowKit

theorem zeroCells_one {z : Value} (hz : z.cells = #[z]) (k : Nat) : Builtin.zeroCells z.cells k = (List.replicate k z).toArray := by
  apply Array.ext
  · simp [size_zeroCells, hz]
  · intro i h1 h2
    simp [Builtin.zeroCells, hz, Nat.mod_one]
theorem run_app_zeros_own {P : Program} (w : World) (t tn ty e : TypeId) (i : TypeInfo) (z : Value) (bytes : Nat) (ht : P.underlying t = some (.slice e)) (htn : P.underlying tn = some (.int .i64)) (hi : P.info? e = some i) (hz : i.zero = some z) (hz1 : z.cells = #[z]) (ho : z.oneCell' = true)
    (hsize : i.size = 1) (hby : i.bytes = bytes) (v : Value) (n : Nat) (xs : List Value) (hown : Own w e 1 v n xs) (k : Nat) (h63 : n + k ≤ maxLen) (hbytes : (n + k) * bytes ≤ 140737488355328) :
    ∃ v' w', (Builtin.append_ #[t, tn] ty #[v, .int .i64 k]).run P w = .ok v' w' ∧ Own w' e 1 v' (n + k) (xs ++ List.replicate k z) ∧ Kept (fun g => v.ownBlock = some g) w w' ∧ (∀ g, v'.ownBlock = some g → v.ownBlock = some g ∨ w.heap.size ≤ g) := by
  subst hby
  have hmx := h63
  unfold maxLen at h63
  have hw : IntKind.i64.wrap (k : Int) = k := by rw [IntKind.wrap_i64]; omega
  have hneg : ¬ ((k : Int) < 0) := by omega
  have hkb : k * i.bytes ≤ (n + k) * i.bytes := Nat.mul_le_mul_right _ (by omega)
  have h48i : ¬ (281474976710656 < (k : Int) * (i.bytes : Int)) := by
    rw [← Int.natCast_mul]; omega
  have grow : ∀ (base : Option Addr) (cap : Nat), cap < n + k → (Builtin.firstCells i.size n (.slice base n cap)).run P w.drew = .ok xs.toArray w.drew → 0 < k → v = .slice base n cap →
      ∃ v' w', (Builtin.append_ #[t, tn] ty #[v, .int .i64 k]).run P w = .ok v' w' ∧ Own w' e 1 v' (n + k) (xs ++ List.replicate k z) ∧ Kept (fun g => v.ownBlock = some g) w w' ∧ (∀ g, v'.ownBlock = some g → v.ownBlock = some g ∨ w.heap.size ≤ g) := by
    intro base cap hc hold hk hv
    subst hv
    have hr := Lib.run_append_grow_zeros (P := P) w t tn ty e i z .i64 .i64 ht htn hi hz base n cap xs hold k hk (by omega) hc (by omega) (by omega) (growslice_fits hc hbytes)
    refine ⟨_, _, hr, ?_, ((Kept.refl _ _).drew).alloc _, fun g hg => .inr ?_⟩
    · have hl := hown.len
      have := Own.mk (w := w.drew.alloc (.cells (xs.toArray ++ Builtin.zeroCells z.cells k ++ Builtin.zeroCells z.cells (grownCap w (n + k) cap e - (n + k))) e)) (size := 1) (n := n + k) (cap := grownCap w (n + k) cap e) (row_new w.drew _) (grownCap_ge w _ _ _) (grownCap_le_maxLen w _ _ _ hmx) (by
        have := grownCap_ge w (n + k) cap e
        simp [size_zeroCells, hz1, hl]; omega)
      have e1 : (xs.toArray ++ Builtin.zeroCells z.cells k ++ Builtin.zeroCells z.cells (grownCap w (n + k) cap e - (n + k))).toList.take ((n + k) * 1) = xs ++ List.replicate k z := by
        rw [zeroCells_one hz1, zeroCells_one hz1, Array.toList_append, Array.toList_append, List.toList_toArray, List.toList_toArray, List.toList_toArray, Nat.mul_one]
        exact List.take_left' (by simp; omega)
      rw [e1] at this
      exact this
    · simp [Value.ownBlock] at hg; omega
  rcases hown.shape with ⟨rfl, rfl, rfl⟩ | ⟨g, cap, cur, rfl, hg, hnc, hcm, hcs, htk⟩
  · rcases Nat.eq_zero_or_pos k with rfl | hk
    · refine ⟨_, w, ?_, by simpa using hown, Kept.refl _ _, fun g hg => .inl hg⟩
      simp [Builtin.append_, run_underlying ht, run_underlying htn, sizeOf, typeInfo, hi, asInt, asIntOf, IntKind.wrap_i64]
    · exact grow none 0 (by omega) (by simp [Builtin.firstCells, loadCells, loadCellsFrom]) hk rfl
  · by_cases hroom : n + k ≤ cap
    · have hl := hown.len
      have hst := run_storeCells_at P g n e (List.replicate k z) 0 cur w hg (by simp; omega) (by intro u hu; rw [List.mem_replicate] at hu; rw [hu.2]; exact ho)
      refine ⟨.slice (some ⟨g, 0, none⟩) (n + k) cap, w.setRow g (cur.toList.take n ++ List.replicate k z ++ cur.toList.drop (n + k)).toArray, ?_, ?_, (Kept.refl _ _).setRow _ (.inl (by simp [Value.ownBlock])), fun g' hg' => .inl (by simpa [Value.ownBlock] using hg')⟩
      · simp only [Nat.add_zero, List.length_replicate] at hst
        have hadd : (⟨g, 0, none⟩ : Addr).add (n * i.size) = ⟨g, n, none⟩ := by rw [hsize, Nat.mul_one, Addr.add_mid, Nat.zero_add]
        rcases Nat.eq_zero_or_pos k with rfl | hk
        · have hnc' : n ≤ cap := hnc
          simp [Builtin.append_, run_underlying ht, run_underlying htn, sizeOf, typeInfo, hi, asInt, asIntOf, IntKind.wrap_i64, hnc', storeCells]
          rw [setRow_self w g cur e _ hg]
        · have hns : ¬ (k * i.size = 0) := by rw [hsize]; omega
          have hneed : n + k ≤ cap := hroom
          simp [Builtin.append_, run_underlying ht, run_underlying htn, sizeOf, typeInfo, zeroValue, hi, hz, asInt, asIntOf, hw, hneg, h48i, hns, hneed, hadd, zeroCells_one hz1]
          simp at hst
          simp [hst]
      · have h2 := Own.mk (size := 1) (n := n + k) (cap := cap) (setRow_heap w g cur (cur.toList.take n ++ List.replicate k z ++ cur.toList.drop (n + k)).toArray e _ hg) hroom hcm (by simp; omega)
        have e1 : (cur.toList.take n ++ List.replicate k z ++ cur.toList.drop (n + k)).toArray.toList.take ((n + k) * 1) = xs ++ List.replicate k z := by
          rw [List.toList_toArray, Nat.mul_one, ← htk, Nat.mul_one]
          exact List.take_left' (by simp; omega)
        rw [e1] at h2
        exact h2
    · refine grow (some ⟨g, 0, none⟩) cap (by omega) ?_ (by omega) rfl
      rw [hsize]
      exact run_firstCells_some w.drew 1 n ⟨g, 0, none⟩ n cap xs hown.len (fun j u hj => by
        obtain ⟨hj', e'⟩ := List.getElem?_eq_some_iff.1 hj
        rw [Addr.add_mid, Nat.zero_add, ← e']
        exact hown.cells rfl j hj')
/-- at the operation -/
theorem wpList_app_zeros1 {P : Program} {w : World} {ops : Array Oper} {rest : List Oper} {o : Oper} {a : Act} {Q : Exit → Act → World → Prop} (hgd : o.guard = none) (s x : Operand) (t tn : TypeId)
    (ho : o.op = .call { callee := .builtin .append, args := #[s, x], argTypes := #[t, tn] })
    (e : TypeId) (z : Value) (bytes : Nat) (ht : P.underlying t = some (.slice e)) (htn : P.underlying tn = some (.int .i64)) (hi : (P.info? e).map (fun i => (i.zero, i.size, i.bytes)) = some (some z, 1, bytes)) (hz1 : z.cells = #[z]) (h1 : z.oneCell' = true)
    (v : Value) (n : Nat) (xs : List Value) (hs : a.eval s = v) (hown : Own w e 1 v n xs) (k : Nat) (hx : a.eval x = .int .i64 k) (h63 : n + k ≤ maxLen) (hbytes : (n + k) * bytes ≤ 140737488355328)
    (h : ∀ a' c' w', Own w' e 1 (.slice a' (n + k) c') (n + k) (xs ++ List.replicate k z) → Kept (fun g => v.ownBlock = some g) w w' → (∀ g, (Value.slice a' (n + k) c').ownBlock = some g → v.ownBlock = some g ∨ w.heap.size ≤ g) → wpList P ops Q rest (a.put o.dst (.slice a' (n + k) c')) w') :
    wpList P ops Q (o :: rest) a w := by
  obtain ⟨i, hi1, hi2, hi3, hi4⟩ := info_parts hi
  obtain ⟨v', w', hr, h2, h3, h4⟩ := run_app_zeros_own (P := P) w t tn o.type e i z bytes ht htn hi1 hi2 hz1 h1 hi3 hi4 v n xs hown k h63 hbytes
  obtain ⟨a', c', rfl⟩ := h2.isSlice
  refine wpList_run hgd ?_ (h a' c' w' h2 h3 h4)
  simp [execOp, ho, resolve, invoke, builtin, hs, hx, hr, Result.andThen]
/-- .. as a step of a region that draws its order -/
theorem step_app_zeros1 {P : Program} {w : World} {o : Oper} {a : Act} {Q : Exit → Act → World → Prop} {K : Act → World → Prop} {E : Prop} {ops : Array Oper} {tm : Array Value} (d : Option Tmp) (hd : o.dst = d) (hw : Region.wanted o (yielded ops tm) = true) (s x : Operand) (t tn : TypeId)
    (ho : o.op = .call { callee := .builtin .append, args := #[s, x], argTypes := #[t, tn] })
    (e : TypeId) (z : Value) (bytes : Nat) (ht : P.underlying t = some (.slice e)) (htn : P.underlying tn = some (.int .i64)) (hi : (P.info? e).map (fun i => (i.zero, i.size, i.bytes)) = some (some z, 1, bytes)) (hz1 : z.cells = #[z]) (h1 : z.oneCell' = true)
    (v : Value) (n : Nat) (xs : List Value) (hs : a.eval s = v) (hown : Own w e 1 v n xs) (k : Nat) (hx : a.eval x = .int .i64 k) (h63 : n + k ≤ maxLen) (hbytes : (n + k) * bytes ≤ 140737488355328)
    (h : ∀ a' c' w', Own w' e 1 (.slice a' (n + k) c') (n + k) (xs ++ List.replicate k z) → Kept (fun g => v.ownBlock = some g) w w' → (∀ g, (Value.slice a' (n + k) c').ownBlock = some g → v.ownBlock = some g ∨ w.heap.size ≤ g) → K (a.put d (.slice a' (n + k) c')) w') :
    if Region.wanted o (yielded ops tm) = true then Oper.wp P o a w K Q else E := by
  subst hd
  rw [if_pos hw]
  obtain ⟨i, hi1, hi2, hi3, hi4⟩ := info_parts hi
  obtain ⟨v', w', hr, h2, h3, h4⟩ := run_app_zeros_own (P := P) w t tn o.type e i z bytes ht htn hi1 hi2 hz1 h1 hi3 hi4 v n xs hown k h63 hbytes
  obtain ⟨a', c', rfl⟩ := h2.isSlice
  unfold Oper.wp
  simp only [execOp, ho, resolve, invoke, builtin, Sem.run_bind, Sem.run_pure, Result.andThen_ok, List.map_toArray, List.map_cons, List.map_nil, hs, hx, hr]
  exact h a' c' w' h2 h3 h4
/-- step_app, the slot that is written said by the caller -/
theorem step_appd {P : Program} {ops : Array Oper} {o : Oper} {a : Act} {w : World} {K : Act → World → Prop} {Q : Exit → Act → World → Prop} {E : Prop} {tm : Array Value} (d : Option Tmp) (hd : o.dst = d) (hw : Region.wanted o (yielded ops tm) = true) (s x : Operand) (t : TypeId)
    (ho : o.op = .call { callee := .builtin .append, args := #[s, x], argTypes := #[t, t] })
    (e : TypeId) (z : Value) (size bytes : Nat) (ht : P.underlying t = some (.slice e)) (hi : (P.info? e).map (fun i => (i.zero, i.size, i.bytes)) = some (some z, size, bytes)) (hzs : z.cells.size = size) (hsz : 0 < size)
    (v : Value) (n : Nat) (xs : List Value) (hs : a.eval s = v) (hown : Own w e size v n xs) (xv : Value) (hxv : a.eval x = xv) (m : Nat) (news : List Value) (hx : Src w size xv m news)
    (h63 : n + m ≤ maxLen) (hbytes : (n + m) * bytes ≤ 140737488355328)
    (h : ∀ a' c' w', Own w' e size (.slice a' (n + m) c') (n + m) (xs ++ news) → Kept (fun k => v.ownBlock = some k) w w' → (∀ g, (Value.slice a' (n + m) c').ownBlock = some g → v.ownBlock = some g ∨ w.heap.size ≤ g) → (a' = none ↔ v = .slice none 0 0 ∧ m = 0) → K (a.put d (.slice a' (n + m) c')) w') :
    if Region.wanted o (yielded ops tm) = true then Oper.wp P o a w K Q else E := by
  subst hd
  rw [if_pos hw]
  obtain ⟨i, hi1, hi2, hi3, hi4⟩ := info_parts hi
  obtain ⟨v', w', hr, h1, h2, h3, h4⟩ := run_append_grows (P := P) w t o.type e i z size bytes ht hi1 hi2 hi3 hi4 hzs hsz v n xs hown xv m news hx h63 hbytes
  obtain ⟨a', c', rfl⟩ := h1.isSlice
  unfold Oper.wp
  simp only [execOp, ho, resolve, invoke, builtin, Sem.run_bind, Sem.run_pure, Result.andThen_ok, List.map_toArray, List.map_cons, List.map_nil, hs, hxv, hr]
  exact h a' c' w' h1 h2 h3 (h1.nil_iff.symm.trans h4)
/-- a guard that says yes -/
theorem wpList_guarded {P : Program} {w : World} {ops : Array Oper} {rest : List Oper} {d : Option Tmp} {op : Op} {ty : TypeId} {pos : String} {af : Array Edge} {gd : Option (Nat × Bool)} {a : Act} {Q : Exit → Act → World → Prop}
    (hw : Region.wanted ⟨d, op, ty, pos, af, gd⟩ (yielded ops a.tmps) = true) (h : wpList P ops Q (⟨d, op, ty, pos, af, none⟩ :: rest) a w) : wpList P ops Q (⟨d, op, ty, pos, af, gd⟩ :: rest) a w := by
  unfold wpList at h ⊢
  rw [if_pos hw]
  rw [if_pos (by simp [Region.wanted])] at h
  exact h
end Go.Proofs.Ytpjhdpfaogdboaa
