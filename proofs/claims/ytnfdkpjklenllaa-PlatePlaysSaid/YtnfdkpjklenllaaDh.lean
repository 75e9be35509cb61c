/- A map whose entries are struck while it is gone through. -/
import Derived.Test.YtnfdkpjklenllaaDg
import Derived.Test.YtnfdkpjklenllaaRng
namespace Go.Proofs.Ytnfdkpjklenllaa
open Go.RowKit
theorem filter_erase {α : Type} (p : α → Bool) : ∀ (l : List α) (j : Nat), (∀ x, l[j]? = some x → p x = false) → (l.eraseIdx j).filter p = l.filter p
  | [], _, _ => by simp
  | a :: l, 0, h => by
    have := h a rfl
    simp [this]
  | a :: l, j + 1, h => by
    have ih := filter_erase p l j (fun x hx => h x (by simpa using hx))
    simp [List.filter_cons, ih]
theorem wpList_wipe_rng {P : Program} {w : World} {ops : Array Oper} {rest : List Oper} {o : Oper} {a : Act} {Q : Exit → Act → World → Prop} (hgd : o.guard = none) (t kt et : TypeId) (ts : Array TypeId) (xm xk : Operand) (ho : o.op = .call { callee := .builtin .delete, args := #[xm, xk], argTypes := ts }) (hts : ts[0]? = some t) (b it : Nat) (q : IntKind) (k : Int) (hm : a.eval xm = .map (some b)) (hk : a.eval xk = .int q k)
    (ht : P.underlying t = some (.map kt et)) (hkt : P.underlying kt = some (.int q)) (L : List (Int × Value)) (hL : MapIs w b q L) (E R : List (Value × Value)) (hr : RngOf w b it E R) (hR : ∀ p ∈ R, p.1 ≠ .int q k)
    (h : ∀ w' E', MapIs w' b q (wipe L k) → RngOf w' b it E' R → Kept (fun g => g = b) w w' → wpList P ops Q rest (a.put o.dst (.tuple #[])) w') : wpList P ops Q (o :: rest) a w := by
  have hL0 := hL
  have hne := hr.ne
  obtain ⟨es, clock, hb, he, hn, hst0⟩ := hL
  obtain ⟨es2, clock2, since, seen, c0, hb2, hst2, rfl, hit, hborn, hsc, hsk, hRR⟩ := hr
  have ee := hb.symm.trans hb2
  simp only [Option.some.injEq, Obj.map.injEq] at ee
  obtain ⟨rfl, rfl⟩ := ee
  have h1 := findNow_lk (q := q) (k := k) es.toList L 0 he
  have hck := fun e => MapKept.run_checkKey (P := P) (w := w) (k := .int q k) hkt rfl e 9999
  have hfk := MapKept.run_findKey (P := P) (w := w) hkt h1
  have hit' : ∀ o, (ChangeMaps.setBlock w b o).heap[it]? = some (.mapIter (some b) since seen c0) := fun o => by
    have := (Array.getElem?_eq_some_iff.1 hit).1
    simp [ChangeMaps.setBlock, Ne.symm hne, hit]
  cases hl : lk L k 0 with
  | none =>
    rw [hl] at hfk
    refine wpList_run hgd ?_ (h (ChangeMaps.setBlock w b (.map es clock)) _ ⟨es, clock, ChangeMaps.heap_setBlock_same hb _, ?_, wipe_nodup _ hn, hst0⟩ ⟨es, clock, since, seen, c0, ChangeMaps.heap_setBlock_same hb _, hst2, rfl, hit' _, hborn, hsc, hsk, hRR⟩ ((Kept.refl _ _).setBlock _ (.inl rfl)))
    · simp [execOp, ho, resolve, invoke, builtin, hm, hk, Builtin.delete_, hts, run_underlying ht, MapKept.run_getObj_map hb, hck, hfk, MapKept.run_setObj_map _ hb, Result.andThen, ChangeMaps.setBlock]
    · rw [wipe_none (lk_none _ _ hl)]; exact he
  | some p =>
    obtain ⟨j, x⟩ := p
    rw [hl] at hfk
    obtain ⟨d, hd, hLd⟩ := lk_spec L 0 j x hl
    have hjd : j = d := by omega
    subst hjd
    have e1 : (es.eraseIdxIfInBounds j).toList = es.toList.eraseIdx j := by simp
    have h5 : ∀ i : Nat, (es.toList.map (fun e => (e.key, e.val)))[i]? = (L.map (fun p => (Value.int q p.1, p.2)))[i]? := fun i => by rw [he]
    simp only [List.getElem?_map] at h5
    have hej : ∀ e, es.toList[j]? = some e → e.key = .int q k := fun e hje => by
      have := h5 j
      rw [hje, hLd] at this
      simp only [Option.map_some, Option.some.injEq, Prod.mk.injEq] at this
      exact this.1
    have hleft : (leftOf (es.eraseIdxIfInBounds j) seen).toList = (leftOf es seen).toList := by
      simp only [leftOf, Array.toList_filter, e1]
      refine filter_erase _ _ _ (fun e hje => ?_)
      cases hs : (!seen.contains e.born) with
      | false => rfl
      | true =>
        exfalso
        refine hR (ent2 e) ?_ (hej e hje)
        rw [← hRR]
        refine List.mem_map.2 ⟨e, ?_, rfl⟩
        simp only [leftOf, Array.toList_filter, List.mem_filter]
        exact ⟨List.mem_of_getElem? hje, hs⟩
    refine wpList_run hgd ?_ (h (ChangeMaps.setBlock w b (.map (es.eraseIdxIfInBounds j) clock)) _ ⟨es.eraseIdxIfInBounds j, clock, ChangeMaps.heap_setBlock_same hb _, ?_, wipe_nodup _ hn, MapKept.stamped_erase hst0 j⟩ ⟨es.eraseIdxIfInBounds j, clock, since, seen, c0, ChangeMaps.heap_setBlock_same hb _, MapKept.stamped_erase hst2 j, rfl, hit' _, ?_, hsc, hsk, ?_⟩ ((Kept.refl _ _).setBlock _ (.inl rfl)))
    · simp [execOp, ho, resolve, invoke, builtin, hm, hk, Builtin.delete_, hts, run_underlying ht, MapKept.run_getObj_map hb, hck, hfk, MapKept.run_setObj_map _ hb, Result.andThen, ChangeMaps.setBlock]
    · rw [wipe_at L j x hn hLd, e1]
      apply List.ext_getElem?
      intro i
      simp only [List.getElem?_map, List.getElem?_eraseIdx]
      split
      · exact h5 i
      · exact h5 (i + 1)
    · intro y hy
      rw [e1] at hy
      exact hborn y (List.mem_of_mem_eraseIdx hy)
    · rw [hleft]; exact hRR
end Go.Proofs.Ytnfdkpjklenllaa
