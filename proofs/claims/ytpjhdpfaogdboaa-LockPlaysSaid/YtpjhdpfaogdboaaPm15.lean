/- Texts of this claim, merged: Sto. -/
import Derived.Deep.MidRow
import Derived.Test.YtpjhdpfaogdboaaPm1
import Derived.Test.YtpjhdpfaogdboaaPm3
import Derived.Test.YtpjhdpfaogdboaaPm4
import Derived.Test.YtpjhdpfaogdboaaPm14
/- One cell stored at an operation; the world behind is a letter. -/
namespace Go.Proofs.Ytpjhdpfaogdboaa
set_option linter.unusedSimpArgs false
set_option linter.unusedVariables false
open Go.RowKit

section
variable {P : Program} {w : World}
theorem one_cells {v : Value} (h : v.oneCell' = true) : v.cells = #[v] := by
  cases v <;> first | rfl | simp [Value.oneCell'] at h
theorem run_store_cell (b o : Nat) (ty : TypeId) (v : Value) {cur : Array Value} {T : TypeId} (hb : w.heap[b]? = some (.cells cur T (0, 0))) (hl : o < cur.size) (hi : (P.info? ty).map (·.size) = some 1) (h1 : v.oneCell' = true) :
    (storeVar ty ⟨b, o, none⟩ v).run P w = .ok () (w.setCell ⟨b, o, none⟩ v) := by
  have := run_storeCells_cells (P := P) b o [v] 0 w (fun j hj => by simp at hj; subst hj; rw [row_cell hb]; simp [hl]) (fun j hj => row_free hb _) (fun u hu => by simp at hu; subst hu; exact h1)
  cases hq : P.info? ty with
  | none => simp [hq] at hi
  | some i =>
    have hs : i.size = 1 := by simpa [hq] using hi
    simp only [Nat.add_zero] at this
    simp [storeVar, sizeOf, typeInfo, hq, one_cells h1, hs, this, World.setCells]
/-- *x = v -/
theorem wpList_store_cell {ops : Array Oper} {rest : List Oper} {o : Oper} {a : Act} {Q : Exit → Act → World → Prop} (hgd : o.guard = none) (ty : TypeId) (x y : Operand) (ho : o.op = .store ty x y) (hi : (P.info? ty).map (·.size) = some 1)
    (b j : Nat) (hx : a.eval x = .pointer (some ⟨b, j, none⟩)) (v : Value) (hy : a.eval y = v) (h1 : v.oneCell' = true) {cur : Array Value} {T : TypeId} (hb : w.heap[b]? = some (.cells cur T (0, 0))) (hl : j < cur.size)
    (h : ∀ w', Hid (w'.heap[b]? = some (.cells (cur.setIfInBounds j v) T (0, 0))) → Hid (Kept (fun g => g = b) w w') → wpList P ops Q rest (a.put o.dst undef) w') : wpList P ops Q (o :: rest) a w := by
  subst hy
  refine wpList_plain hgd fun K hK => ?_
  unfold Oper.wp execOp
  simp only [ho, hx, Instr.storeAt, Instr.sureAddr, Sem.run_bind, Sem.run_pure, Result.andThen_ok, run_store_cell b j ty _ hb hl hi h1]
  exact hK _ _ (h _ (hid (row_set hb j _)) (hid ((Kept.refl (fun g => g = b) w).setCell (p := ⟨b, j, none⟩) (.inl rfl) _)))
end
end Go.Proofs.Ytpjhdpfaogdboaa
