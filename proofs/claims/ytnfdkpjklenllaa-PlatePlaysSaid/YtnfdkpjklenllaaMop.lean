/- The operations on maps and on pages, at a list of operations; the world behind is a letter. -/
import Derived.Test.YtnfdkpjklenllaaPage
import Derived.Great.BuildSlice
namespace Go.Proofs.Ytnfdkpjklenllaa
open Go.RowKit

section
variable {P : Program} {w : World} {ops : Array Oper} {rest : List Oper} {o : Oper} {a : Act} {Q : Exit → Act → World → Prop}
theorem wpList_skip {w' : World} (hgd : o.guard = none) (hrun : (execOp a.eval o).run P w = .ok .skip w') (h : wpList P ops Q rest (a.put o.dst undef) w') : wpList P ops Q (o :: rest) a w := by
  refine wpList_plain hgd fun K hK => ?_
  unfold Oper.wp
  rw [hrun]
  exact hK _ _ h
/-- m[k] = v -/
theorem wpList_lay (hgd : o.guard = none) (t kt et : TypeId) (xm xk xv : Operand) (ho : o.op = .mapUpdate t xm xk xv) (b : Nat) (q : IntKind) (k : Int) (v : Value) (hm : a.eval xm = .map (some b)) (hk : a.eval xk = .int q k) (hv : a.eval xv = v)
    (ht : P.underlying t = some (.map kt et)) (hkt : P.underlying kt = some (.int q)) (L : List (Int × Value)) (hL : MapIs w b q L)
    (h : ∀ w', MapIs w' b q (lay L k v) → Kept (fun g => g = b) w w' → wpList P ops Q rest (a.put o.dst undef) w') : wpList P ops Q (o :: rest) a w := by
  obtain ⟨es, clock, hr, hM⟩ := hL.run_lay ht hkt k v
  refine wpList_skip hgd ?_ (h _ hM ((Kept.refl _ _).setBlock _ (.inl rfl)))
  simp [execOp, ho, hm, hk, hv, hr, Result.andThen]
/-- delete(m, k) -/
theorem wpList_wipe (hgd : o.guard = none) (t kt et : TypeId) (ts : Array TypeId) (xm xk : Operand) (ho : o.op = .call { callee := .builtin .delete, args := #[xm, xk], argTypes := ts }) (hts : ts[0]? = some t) (b : Nat) (q : IntKind) (k : Int) (hm : a.eval xm = .map (some b)) (hk : a.eval xk = .int q k)
    (ht : P.underlying t = some (.map kt et)) (hkt : P.underlying kt = some (.int q)) (L : List (Int × Value)) (hL : MapIs w b q L)
    (h : ∀ w', MapIs w' b q (wipe L k) → Kept (fun g => g = b) w w' → wpList P ops Q rest (a.put o.dst (.tuple #[])) w') : wpList P ops Q (o :: rest) a w := by
  obtain ⟨es, clock, hr, hM⟩ := hL.run_wipe ht hkt k ts o.type hts
  refine wpList_run hgd ?_ (h _ hM ((Kept.refl _ _).setBlock _ (.inl rfl)))
  simp [execOp, ho, resolve, invoke, builtin, hm, hk, hr, Result.andThen]
/-- m[k] -/
theorem wpList_look (hgd : o.guard = none) (t kt et : TypeId) (xm xk : Operand) (ho : o.op = .lookup t xm xk false) (b : Nat) (q : IntKind) (k : Int) (hm : a.eval xm = .map (some b)) (hk : a.eval xk = .int q k)
    (ht : P.underlying t = some (.map kt et)) (hkt : P.underlying kt = some (.int q)) (z : Value) (hz : (zeroValue et).run P w = .ok z w) (L : List (Int × Value)) (hL : MapIs w b q L) (v : Value) (hv : look L k = some v ∨ look L k = none ∧ v = z)
    (h : wpList P ops Q rest (a.put o.dst v) w) : wpList P ops Q (o :: rest) a w := by
  refine wpList_run hgd ?_ h
  rcases hv with hv | ⟨hv, rfl⟩
  · have := hL.run_look_some ht hkt hv false
    simp [execOp, ho, hm, hk, this, Result.andThen]
  · have := hL.run_look_none ht hkt hz hv false
    simp [execOp, ho, hm, hk, this, Result.andThen]
/-- m[k] in a region that draws its order -/
theorem yieldsIf_look {S : World → Prop} (hw : Region.wanted o (yielded ops a.tmps) = true) (t kt et : TypeId) (xm xk : Operand) (ho : o.op = .lookup t xm xk false) (b : Nat) (q : IntKind) (k : Int) (hm : a.eval xm = .map (some b)) (hk : a.eval xk = .int q k)
    (ht : P.underlying t = some (.map kt et)) (hkt : P.underlying kt = some (.int q)) (z : Value) (hz : ∀ w, (zeroValue et).run P w = .ok z w) (v : Value) (hS : ∀ w, S w → ∃ L, MapIs w b q L ∧ (look L k = some v ∨ look L k = none ∧ v = z)) : YieldsIf P ops S o v a :=
  .inl ⟨hw, fun w hw' => by
    obtain ⟨L, hL, hv⟩ := hS w hw'
    rcases hv with hv | ⟨hv, rfl⟩
    · have := hL.run_look_some ht hkt hv false
      simp [execOp, ho, hm, hk, this, Result.andThen]
    · have := hL.run_look_none ht hkt (hz w) hv false
      simp [execOp, ho, hm, hk, this, Result.andThen]⟩
/-- two pages are compared -/
theorem wpList_eqpage (hgd : o.guard = none) (t e rt : TypeId) (n : Nat) (x y : Operand) (ho : o.op = .binOp .eql t x y rt) (hu : P.underlying t = some (.array n e)) (he : P.plainKey e = true) (hu8 : P.underlying e = some (.int .u8)) (hc : P.cellsOf e = 1) (hie : (P.info? e).isSome = true) (hmm : P.eqGuardType P.depth t = false)
    (xs ys : List Int) (h1 : xs.length = n) (h2 : ys.length = n) (hx : a.eval x = .agg (u8s xs).toArray) (hy : a.eval y = .agg (u8s ys).toArray) (r : Bool) (hr : decide (xs = ys) = r)
    (h : wpList P ops Q rest (a.put o.dst (.bool r)) w) : wpList P ops Q (o :: rest) a w := by
  subst hr
  refine wpList_run hgd ?_ h
  have hg := run_eqGuard_agg (P := P) (w := w) .eql t x y (u8s xs).toArray (u8s ys).toArray hmm
  have hr := run_eql_page (P := P) w hu he hu8 hc hie xs ys h1 h2
  simp [execOp, ho, hx, hy, hg, hr, Result.andThen]
/-- a whole row is loaded -/
theorem wpList_load_row {b : Nat} {T : TypeId} {cells : Array Value} (hgd : o.guard = none) (ty : TypeId) (x : Operand) (ho : o.op = .load ty x) (d : TypeDesc) (hx : a.eval x = .pointer (some ⟨b, 0, none⟩)) (hb : w.heap[b]? = some (.cells cells T (0, 0))) (hu : P.underlying ty = some d) (hd : d.isRow = true) (hi : (P.info? ty).map (·.size) = some cells.size)
    (h : wpList P ops Q rest (a.put o.dst (.agg cells)) w) : wpList P ops Q (o :: rest) a w := by
  refine wpList_load_mid hgd ty x ho b 0 hx cells.toList d (range_of hb) hu hd (by simpa using hi) ?_
  simpa using h
/-- the slice literal of one struct -/
theorem wp_build_one {K : Act → World → Prop} (t e : TypeId) (n : Nat) (x : Operand) (ho : o.op = .buildSlice t 1 #[(0, x)]) (z : Value) (bytes : Nat) (hu : P.underlying t = some (.slice e)) (hi : (P.info? e).map (fun i => (i.zero, i.size, i.bytes)) = some (some z, n, bytes)) (hz : z.cells.size = n) (h0 : 0 < n) (h24 : n ≤ 2 ^ 24)
    (cells : Array Value) (hx : a.eval x = .agg cells) (hc : cells.size = n) (h : K (a.put o.dst (.slice (some ⟨w.heap.size, 0, none⟩) 1 1)) (w.alloc (.cells cells e))) : o.wp P a w K Q := by
  obtain ⟨i, hi1, hi2, hi3, hi4⟩ := info_parts hi
  have hf := Great.fill_whole (s := n) h0 [.agg cells] ((Array.range (1 * n)).map (z.cells[· % z.cells.size]!)) (by simpa [Value.cells] using hc) (by simp)
  refine wp_buildSlice t e 1 #[(0, x)] ho cells i z hu hi1 hi2 (by rw [hi3]; omega) (by rw [hi3]; omega) ?_ h
  rw [hi3]
  simpa [hx, Value.cells] using hf
theorem step_build_one {K : Act → World → Prop} {E : Prop} {tm : Array Value} (d : Option Tmp) (hd : o.dst = d) (hgd : o.guard = none) (t e : TypeId) (n : Nat) (x : Operand) (ho : o.op = .buildSlice t 1 #[(0, x)]) (z : Value) (bytes : Nat) (hu : P.underlying t = some (.slice e)) (hi : (P.info? e).map (fun i => (i.zero, i.size, i.bytes)) = some (some z, n, bytes)) (hz : z.cells.size = n) (h0 : 0 < n) (h24 : n ≤ 2 ^ 24)
    (cells : Array Value) (hx : a.eval x = .agg cells) (hc : cells.size = n) (h : K (a.put d (.slice (some ⟨w.heap.size, 0, none⟩) 1 1)) (w.alloc (.cells cells e))) : if Region.wanted o (yielded ops tm) = true then Oper.wp P o a w K Q else E := by
  subst hd
  have hw : Region.wanted o (yielded ops tm) = true := by simp [Region.wanted, hgd]
  rw [if_pos hw]
  exact wp_build_one t e n x ho z bytes hu hi hz h0 h24 cells hx hc h
end
end Go.Proofs.Ytnfdkpjklenllaa
