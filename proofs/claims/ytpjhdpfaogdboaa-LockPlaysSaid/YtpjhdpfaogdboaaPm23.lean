/- Texts of this claim, merged: Row. -/
import Derived.Deep.MidRow
import Derived.Deep.RegionHeld3
import Derived.Laws.ResultCell
import Derived.Test.YtpjhdpfaogdboaaPm1
import Derived.Test.YtpjhdpfaogdboaaPm3
import Derived.Test.YtpjhdpfaogdboaaPm4
import Derived.Test.YtpjhdpfaogdboaaPm22
/- Whole rows: stored, loaded, answered; the world behind a store is a letter. -/
namespace Go.Proofs.Ytpjhdpfaogdboaa
set_option linter.unusedSimpArgs false
set_option linter.unusedVariables false
open Go.RowKit

theorem putRow_eq {b : Nat} : ∀ (l : List Value) (w : World) (i : Nat), putRow b w i l = w.setCells b i l
  | [], _, _ => rfl
  | v :: l, w, i => by rw [putRow, World.setCells, putRow_eq l]
section
variable {P : Program} {w : World} {b : Nat} {T : TypeId}
theorem there_of {old : Array Value} (hb : w.heap[b]? = some (.cells old T (0, 0))) : w.there b 0 old.size := fun j hj => ⟨by rw [Nat.zero_add, row_cell hb]; simp [hj], row_free hb _⟩
theorem range_of {cells : Array Value} (hb : w.heap[b]? = some (.cells cells T (0, 0))) : w.rangeAt b 0 cells.toList := fun j v hv => by
  rw [Nat.zero_add, row_cell hb]
  simpa using hv
theorem set_row {old cells : Array Value} (hb : w.heap[b]? = some (.cells old T (0, 0))) (hs : old.size = cells.size) : (w.setCells b 0 cells.toList).heap[b]? = some (.cells cells T (0, 0)) ∧ Kept (fun g => g = b) w (w.setCells b 0 cells.toList) := by
  rw [← putRow_eq]
  exact ⟨by rw [putRow_all cells.toList hb (by simp [hs])], putRow_kept (F := fun g => g = b) (.inl rfl) _ _ _ (Kept.refl _ _)⟩
/-- a whole row is stored: at an operation -/
theorem store_row {op : Oper} {a : Act} {K : Act → World → Prop} {Q : Exit → Act → World → Prop} (ty : TypeId) (x y : Operand) (ho : op.op = .store ty x y)
    (cells old : Array Value) (hx : a.eval x = .pointer (some ⟨b, 0, none⟩)) (hy : a.eval y = .agg cells) (hb : w.heap[b]? = some (.cells old T (0, 0))) (hs : old.size = cells.size)
    (hi : (P.info? ty).map (·.size) = some cells.size) (h1 : cells.all (·.oneCell') = true)
    (h : ∀ w', w'.heap[b]? = some (.cells cells T (0, 0)) → Kept (fun g => g = b) w w' → K (a.put op.dst undef) w') : op.wp P a w K Q :=
  wp_store_mid ty x y ho b 0 cells hx hy (by rw [← hs]; exact there_of hb) hi h1 (h _ (set_row hb hs).1 (set_row hb hs).2)
/-- .. in a list of operations -/
theorem wpList_store_row {ops : Array Oper} {rest : List Oper} {op : Oper} {a : Act} {Q : Exit → Act → World → Prop} (hgd : op.guard = none) (ty : TypeId) (x y : Operand) (ho : op.op = .store ty x y)
    (cells old : Array Value) (hx : a.eval x = .pointer (some ⟨b, 0, none⟩)) (hy : a.eval y = .agg cells) (hb : w.heap[b]? = some (.cells old T (0, 0))) (hs : old.size = cells.size)
    (hi : (P.info? ty).map (·.size) = some cells.size) (h1 : cells.all (·.oneCell') = true)
    (h : ∀ w', w'.heap[b]? = some (.cells cells T (0, 0)) → Kept (fun g => g = b) w w' → wpList P ops Q rest (a.put op.dst undef) w') : wpList P ops Q (op :: rest) a w :=
  wpList_plain hgd fun K hK => store_row ty x y ho cells old hx hy hb hs hi h1 fun w' h2 h3 => hK _ _ (h w' h2 h3)
/-- .. as the last operation of a region that draws its order -/
theorem step_store_row {ops : Array Oper} {op : Oper} {a : Act} {K : Act → World → Prop} {Q : Exit → Act → World → Prop} {E : Prop} (hw : Region.wanted op (yielded ops a.tmps) = true) (ty : TypeId) (x y : Operand) (ho : op.op = .store ty x y)
    (cells old : Array Value) (hx : a.eval x = .pointer (some ⟨b, 0, none⟩)) (hy : a.eval y = .agg cells) (hb : w.heap[b]? = some (.cells old T (0, 0))) (hs : old.size = cells.size)
    (hi : (P.info? ty).map (·.size) = some cells.size) (h1 : cells.all (·.oneCell') = true)
    (h : ∀ w', w'.heap[b]? = some (.cells cells T (0, 0)) → Kept (fun g => g = b) w w' → K (a.put op.dst undef) w') : if Region.wanted op (yielded ops a.tmps) = true then Oper.wp P op a w K Q else E := by
  rw [if_pos hw]
  exact store_row ty x y ho cells old hx hy hb hs hi h1 h
theorem load_row {ty : TypeId} {d : TypeDesc} {cells : Array Value} (hb : w.heap[b]? = some (.cells cells T (0, 0))) (hu : P.underlying ty = some d) (hd : d.isRow = true) (hi : (P.info? ty).map (·.size) = some cells.size) :
    (loadVar ty ⟨b, 0, none⟩).run P w = .ok (.agg cells) w := by
  have := run_loadVar_mid (P := P) w b 0 ty cells.toList d (range_of hb) hu hd (by simpa using hi)
  simpa using this
/-- a row is the answer -/
theorem results_row {fn : Func} {p : Tmp} {ty : TypeId} {d : TypeDesc} {cells tmps : Array Value} (h : fn.results = #[.cell p ty]) (hp : tmps.getD p undef = .pointer (some ⟨b, 0, none⟩)) (hb : w.heap[b]? = some (.cells cells T (0, 0)))
    (hu : P.underlying ty = some d) (hd : d.isRow = true) (hi : (P.info? ty).map (·.size) = some cells.size) : (results fn tmps).run P w = .ok (.agg cells) w := by
  have hp2 : tmps[p]?.getD undef = .pointer (some ⟨b, 0, none⟩) := by rw [← hp]; simp
  have ha : (asAddr (.pointer (some ⟨b, 0, none⟩))).run P w = .ok ⟨b, 0, none⟩ w := by simp [asAddr]
  simp [results, h, hp2, ha, load_row hb hu hd hi]
theorem results_row_tmp {fn : Func} {p u : Tmp} {ty : TypeId} {d : TypeDesc} {cells tmps : Array Value} {v : Value} (h : fn.results = #[.cell p ty, .tmp u]) (hp : tmps.getD p undef = .pointer (some ⟨b, 0, none⟩)) (hv : tmps.getD u undef = v) (hb : w.heap[b]? = some (.cells cells T (0, 0)))
    (hu : P.underlying ty = some d) (hd : d.isRow = true) (hi : (P.info? ty).map (·.size) = some cells.size) : (results fn tmps).run P w = .ok (.tuple #[.agg cells, v]) w := by
  subst hv
  have hp2 : tmps[p]?.getD undef = .pointer (some ⟨b, 0, none⟩) := by rw [← hp]; simp
  have ha : (asAddr (.pointer (some ⟨b, 0, none⟩))).run P w = .ok ⟨b, 0, none⟩ w := by simp [asAddr]
  simp [results, h, hp2, ha, load_row hb hu hd hi]
end
end Go.Proofs.Ytpjhdpfaogdboaa
