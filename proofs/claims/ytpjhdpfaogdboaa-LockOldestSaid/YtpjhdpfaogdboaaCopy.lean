/- copy(d, s) of elements of any size, the world behind it under a name; append(s[:i], make(..)...) without room. -/
import Derived.Test.YtpjhdpfaogdboaaOwn
import Derived.Laws.CopyRow
import Derived.Lib.AppendZerosOnto
import Derived.Lib.Overlaps
namespace Go.Proofs.Ytpjhdpfaogdboaa
set_option linter.unusedSimpArgs false
set_option linter.unusedVariables false
open Go.RowKit

theorem run_copy_some {P : Program} (w : World) (dT sT ty elem : TypeId) (size : Nat) (g o dLen dCap : Nat) (a : Addr) (sLen sCap : Nat) (cur : Array Value) (t : TypeId) (cs : List Value) (k : Nat)
    (hu : P.underlying dT = some (.slice elem)) (hs : (P.info? elem).map (·.size) = some size)
    (hg : w.heap[g]? = some (.cells cur t (0, 0))) (hk : Nat.min sLen dLen = k) (hn : cs.length = k * size)
    (hsrc : ∀ j v, cs[j]? = some v → w.cell? (a.add j) = some v) (hfit : o + cs.length ≤ cur.size) (h1 : ∀ v ∈ cs, v.oneCell' = true) :
    ∃ w' cur', (Builtin.copy_ #[dT, sT] ty #[.slice (some ⟨g, o, none⟩) dLen dCap, .slice (some a) sLen sCap]).run P w = .ok (goInt k) w' ∧
      w'.heap[g]? = some (.cells cur' t (0, 0)) ∧ cur'.toList = cur.toList.take o ++ cs ++ cur.toList.drop (o + cs.length) ∧ Kept (fun i => i = g) w w' := by
  refine ⟨w.setRow g (cur.toList.take o ++ cs ++ cur.toList.drop (o + cs.length)).toArray, _, ?_, setRow_heap w g _ _ t _ hg, rfl, (Kept.refl _ _).setRow _ (.inl rfl)⟩
  have hl := run_loadCells_list (P := P) w a cs hsrc
  have hst := run_storeCells_at P g o t cs 0 cur w hg (by simpa using hfit) h1
  cases hq : P.info? elem with
  | none => simp [hq] at hs
  | some i =>
    have hi : i.size = size := by simpa [hq] using hs
    rw [hn] at hl hst
    simp [Builtin.copy_, run_underlying hu, Builtin.lenOf, Builtin.firstCells, sizeOf, typeInfo, hq, hi, hk, hl]
    simp at hst
    simp [hst, hn]
section
variable {P : Program} {w : World} {ops : Array Oper} {rest : List Oper} {o : Oper} {a : Act} {Q : Exit → Act → World → Prop}
/-- a guard: only where the operation writes slot d ('with_reducible refine wpList_at d ?_') -/
theorem wpList_at (d : Tmp) {op : Op} {ty : TypeId} {pos : String} {af : Array Edge} {gd : Option (Nat × Bool)} (h : wpList P ops Q (⟨some d, op, ty, pos, af, gd⟩ :: rest) a w) : wpList P ops Q (⟨some d, op, ty, pos, af, gd⟩ :: rest) a w := h
/-- copy at an operation -/
theorem wpList_copy_some (hgd : o.guard = none) (d s : Operand) (dT sT : TypeId)
    (ho : o.op = .call { callee := .builtin .copy, args := #[d, s], argTypes := #[dT, sT] }) (elem : TypeId) (size : Nat) (hu : P.underlying dT = some (.slice elem)) (hs : (P.info? elem).map (·.size) = some size)
    (g off dLen dCap : Nat) (ad : Addr) (sLen sCap : Nat) (hd : a.eval d = .slice (some ⟨g, off, none⟩) dLen dCap) (hsv : a.eval s = .slice (some ad) sLen sCap)
    (cur : Array Value) (t : TypeId) (hg : w.heap[g]? = some (.cells cur t (0, 0))) (cs : List Value) (k : Nat) (hk : Nat.min sLen dLen = k) (hn : cs.length = k * size)
    (hsrc : ∀ j v, cs[j]? = some v → w.cell? (ad.add j) = some v) (hfit : off + cs.length ≤ cur.size) (h1 : ∀ v ∈ cs, v.oneCell' = true)
    (h : ∀ w' cur', Hid (w'.heap[g]? = some (.cells cur' t (0, 0))) → Hid (cur'.toList = cur.toList.take off ++ cs ++ cur.toList.drop (off + cs.length)) → Hid (Kept (fun i => i = g) w w') → wpList P ops Q rest (a.put o.dst (goInt k)) w') :
    wpList P ops Q (o :: rest) a w := by
  obtain ⟨w', cur', hr, h2, h3, h4⟩ := run_copy_some (P := P) w dT sT o.type elem size g off dLen dCap ad sLen sCap cur t cs k hu hs hg hk hn hsrc hfit h1
  refine wpList_run hgd ?_ (h w' cur' (hid h2) (hid h3) (hid h4))
  simp [execOp, ho, resolve, invoke, builtin, hd, hsv, hr, Result.andThen]
/-- .. as an arm of go_region_law -/
theorem step_copy_some {K : Act → World → Prop} {E : Prop} (hgd : o.guard = none) (d s : Operand) (dT sT : TypeId)
    (ho : o.op = .call { callee := .builtin .copy, args := #[d, s], argTypes := #[dT, sT] }) (elem : TypeId) (size : Nat) (hu : P.underlying dT = some (.slice elem)) (hs : (P.info? elem).map (·.size) = some size)
    (g off dLen dCap : Nat) (ad : Addr) (sLen sCap : Nat) (hd : a.eval d = .slice (some ⟨g, off, none⟩) dLen dCap) (hsv : a.eval s = .slice (some ad) sLen sCap)
    (cur : Array Value) (t : TypeId) (hg : w.heap[g]? = some (.cells cur t (0, 0))) (cs : List Value) (k : Nat) (hk : Nat.min sLen dLen = k) (hn : cs.length = k * size)
    (hsrc : ∀ j v, cs[j]? = some v → w.cell? (ad.add j) = some v) (hfit : off + cs.length ≤ cur.size) (h1 : ∀ v ∈ cs, v.oneCell' = true)
    (h : ∀ w' cur', Hid (w'.heap[g]? = some (.cells cur' t (0, 0))) → Hid (cur'.toList = cur.toList.take off ++ cs ++ cur.toList.drop (off + cs.length)) → Hid (Kept (fun i => i = g) w w') → K (a.put o.dst (goInt k)) w') :
    if Region.wanted o (yielded ops a.tmps) = true then Oper.wp P o a w K Q else E := by
  have hw : Region.wanted o (yielded ops a.tmps) = true := by simp [Region.wanted, hgd]
  rw [if_pos hw]
  obtain ⟨w', cur', hr, h2, h3, h4⟩ := run_copy_some (P := P) w dT sT o.type elem size g off dLen dCap ad sLen sCap cur t cs k hu hs hg hk hn hsrc hfit h1
  have := h w' cur' (hid h2) (hid h3) (hid h4)
  unfold Oper.wp
  simp [execOp, ho, resolve, invoke, builtin, hd, hsv, hr, Result.andThen]
  exact this
/-- append(s[:i], make(S, k)...) without room: a new row -/
theorem wpList_app_zeros (hgd : o.guard = none) (s x : Operand) (t tn : TypeId)
    (ho : o.op = .call { callee := .builtin .append, args := #[s, x], argTypes := #[t, tn] })
    (e : TypeId) (z : Value) (size bytes : Nat) (ht : P.underlying t = some (.slice e)) (htn : P.underlying tn = some (.int .i64)) (hi : (P.info? e).map (fun i => (i.zero, i.size, i.bytes)) = some (some z, size, bytes)) (hz : z.cells.size = size) (h0 : 0 < size)
    (g n cap : Nat) (olds : List Value) (hs : a.eval s = .slice (some ⟨g, 0, none⟩) n cap) (k : Nat) (hx : a.eval x = .int .i64 k) (hl : olds.length = n * size) (hold : ∀ j v, olds[j]? = some v → w.cell? ⟨g, j, none⟩ = some v)
    (hk : 0 < k) (hg : cap < n + k) (h63 : n + k ≤ maxLen) (hb : (n + k) * bytes ≤ 140737488355328)
    (h : ∀ w' cur' cap', Hid (w'.heap[w.heap.size]? = some (.cells cur' e (0, 0))) → Hid (cur'.toList.take (n * size) = olds) → Hid (cur'.size = cap' * size) → n + k ≤ cap' → cap' ≤ maxLen → Hid (Kept (fun _ => False) w w') → wpList P ops Q rest (a.put o.dst (.slice (some ⟨w.heap.size, 0, none⟩) (n + k) cap')) w') :
    wpList P ops Q (o :: rest) a w := by
  obtain ⟨i, hi1, hi2, hi3, hi4⟩ := info_parts hi
  subst hi3 hi4
  have hf : (Builtin.firstCells i.size n (.slice (some ⟨g, 0, none⟩) n cap)).run P w.drew = .ok olds.toArray w.drew :=
    run_firstCells_some w.drew i.size n ⟨g, 0, none⟩ n cap olds hl (fun j v hj => by
      have := hold j v hj
      unfold Addr.add
      split
      · rename_i hj0; subst hj0; exact this
      · simpa using this)
  have hr := Lib.run_append_grow_zeros (P := P) w t tn o.type e i z .i64 .i64 ht htn hi1 hi2 (some ⟨g, 0, none⟩) n cap olds hf k hk h0 hg (by unfold maxLen at h63; omega) (by
    have : k * i.bytes ≤ (n + k) * i.bytes := Nat.mul_le_mul_right _ (by omega)
    omega) (growslice_fits hg hb)
  refine wpList_run hgd ?_ (h (w.drew.alloc (.cells (olds.toArray ++ Builtin.zeroCells z.cells k ++ Builtin.zeroCells z.cells (grownCap w (n + k) cap e - (n + k))) e)) _ (grownCap w (n + k) cap e) (hid (row_new _ _)) ?_ ?_ (grownCap_ge w _ _ _) (grownCap_le_maxLen w _ _ _ h63) (hid ((Kept.refl _ _).of_drew.alloc _)))
  · simp [execOp, ho, resolve, invoke, builtin, hs, hx, hr, Result.andThen]
  · refine hid ?_
    simp [List.take_append_of_le_length, hl]
  · refine hid ?_
    have := grownCap_ge w (n + k) cap e
    simp [size_zeroCells, hz, hl]
    rw [← Nat.add_mul, ← Nat.add_mul]
    congr 1
    omega
end
end Go.Proofs.Ytpjhdpfaogdboaa
