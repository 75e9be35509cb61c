/- Texts of this claim, merged: Rng. -/
import Derived.Maps.RangeRun
import Derived.Maps.RangeWalk
import Derived.OwnWalkIn
import Derived.RangeFuncSeq
import Derived.Sort.MapsRangeIn
import Derived.Test.YtpjhdpfaogdboaaPm1
import Derived.Test.YtpjhdpfaogdboaaPm3
/- Maps gone through: 'range m', its step; what is still to come is a list of entries. -/
namespace Go.Proofs.Ytpjhdpfaogdboaa
set_option linter.unusedSimpArgs false
set_option linter.unusedVariables false
open Go.RowKit

def ent2 (e : MapEntry) : Value × Value := (e.key, e.val)
/-- block b is a map of these entries, the block it goes through it; R is still to come -/
def RngOf (w : World) (b it : Nat) (E R : List (Value × Value)) : Prop :=
  ∃ es clock since seen c0, w.heap[b]? = some (.map es clock) ∧ MapKept.Stamped es clock ∧ es.toList.map ent2 = E ∧ w.heap[it]? = some (.mapIter (some b) since seen c0) ∧ (∀ x ∈ es.toList, x.born < since) ∧ since ≤ c0 ∧ since ≤ clock ∧ (leftOf es seen).toList.map ent2 = R
/-- how many are still to come, off the world -/
def rngLeft (w : World) (b it : Nat) : Nat := w.rangeLeft b it
theorem map_eraseIdx_of {α β : Type} (f : α → β) : ∀ (l : List α) (i : Nat), (l.eraseIdx i).map f = (l.map f).eraseIdx i
  | [], _ => rfl
  | _ :: _, 0 => rfl
  | x :: l, i + 1 => by simp [map_eraseIdx_of f l i]
section
variable {w w' : World} {b it : Nat} {E R : List (Value × Value)}
theorem RngOf.left (h : RngOf w b it E R) : rngLeft w b it = R.length := by
  obtain ⟨es, clock, since, seen, c0, hb, _, _, hr, _, _, _, hR⟩ := h
  simp only [rngLeft, World.rangeLeft, hb, hr]
  rw [← hR]; simp
theorem RngOf.ne (h : RngOf w b it E R) : it ≠ b := by
  obtain ⟨es, clock, since, seen, c0, hb, _, _, hr, _⟩ := h
  intro e
  rw [e, hb] at hr
  cases hr
theorem RngOf.lt (h : RngOf w b it E R) : it < w.heap.size ∧ b < w.heap.size := by
  obtain ⟨es, clock, since, seen, c0, hb, _, _, hr, _⟩ := h
  exact ⟨(Array.getElem?_eq_some_iff.1 hr).1, (Array.getElem?_eq_some_iff.1 hb).1⟩
theorem RngOf.of_blocks (h : RngOf w b it E R) (h1 : w'.heap[b]? = w.heap[b]?) (h2 : w'.heap[it]? = w.heap[it]?) : RngOf w' b it E R := by
  obtain ⟨es, clock, since, seen, c0, hb, a, b, hr, c⟩ := h
  exact ⟨es, clock, since, seen, c0, h1.trans hb, a, b, h2.trans hr, c⟩
theorem RngOf.walk (h : RngOf w b it E R) : ∃ o : Obj, w.heap[it]? = some o ∧ o.isWalk = true := by
  obtain ⟨es, clock, since, seen, c0, _, _, _, hr, _⟩ := h
  exact ⟨_, hr, rfl⟩
theorem RngOf.kept {F : Nat → Prop} (h : RngOf w b it E R) (k : Kept F w w') (h1 : ¬ F b) (h2 : ¬ F it) : RngOf w' b it E R :=
  h.of_blocks (k.block _ h.lt.2 h1) (k.block _ h.lt.1 h2)
theorem RngOf.sub (h : RngOf w b it E R) : ∀ p ∈ R, p ∈ E := by
  obtain ⟨es, clock, since, seen, c0, _, _, rfl, _, _, _, _, rfl⟩ := h
  intro p hp
  obtain ⟨x, hx, rfl⟩ := List.mem_map.1 hp
  refine List.mem_map.2 ⟨x, ?_, rfl⟩
  simp [leftOf] at hx
  simpa using hx.1
/-- what the map holds: MapIs, its keys' kind set aside -/
def MapOf (w : World) (b : Nat) (E : List (Value × Value)) : Prop := ∃ es clock, w.heap[b]? = some (.map es clock) ∧ MapKept.Stamped es clock ∧ es.toList.map ent2 = E
theorem MapIs.mapOf {q : IntKind} {L : List (Int × Value)} (h : MapIs w b q L) : MapOf w b (L.map fun p => (Value.int q p.1, p.2)) := by
  obtain ⟨es, clock, hb, he, _, hs⟩ := h
  exact ⟨es, clock, hb, hs, he⟩
theorem MapOf.lt (h : MapOf w b E) : b < w.heap.size := by
  obtain ⟨es, clock, hb, _⟩ := h
  exact (Array.getElem?_eq_some_iff.1 hb).1
theorem MapOf.of_block (h : MapOf w b E) (e : w'.heap[b]? = w.heap[b]?) : MapOf w' b E := by
  obtain ⟨es, clock, hb, r⟩ := h
  exact ⟨es, clock, e.trans hb, r⟩
variable {P : Program}
/-- 'range m' -/
theorem MapOf.run_range (h : MapOf w b E) {t k e : TypeId} (ht : P.underlying t = some (.map k e)) :
    ∃ o, (Instr.range t (.map (some b))).run P w = .ok (.pointer (some ⟨w.heap.size, 0, none⟩)) (w.alloc o) ∧ RngOf (w.alloc o) b w.heap.size E E ∧ o.isWalk = true := by
  have hlt := h.lt
  obtain ⟨es, clock, hb, hs, rfl⟩ := h
  refine ⟨_, run_range_map w t k e b es clock ht hb, ⟨es, clock, clock, #[], clock, ((MapKept.heap_alloc w _).2 b hlt).trans hb, hs, rfl, (MapKept.heap_alloc w _).1, hs.1, Nat.le_refl _, Nat.le_refl _, by
    have : leftOf es #[] = es := by simp [leftOf]
    rw [this]⟩, rfl⟩
/-- the step -/
theorem RngOf.run_next (h : RngOf w b it E R) (ty : TypeId) :
    (R = [] ∧ (Instr.next (.pointer (some ⟨it, 0, none⟩)) false ty).run P w = .ok (.tuple #[.bool false]) w) ∨
    ∃ i p w', R[i]? = some p ∧ (Instr.next (.pointer (some ⟨it, 0, none⟩)) false ty).run P w = .ok (.tuple #[.bool true, p.1, p.2]) w' ∧ RngOf w' b it E (R.eraseIdx i) ∧ Kept (fun k => k = it) w w' ∧ w'.heap.size = w.heap.size ∧
      (Instr.entry (.pointer (some ⟨it, 0, none⟩))).run P w' = .ok (.tuple #[p.1, p.2]) w' := by
  have hne := h.ne
  obtain ⟨es, clock, since, seen, c0, hb, hs, rfl, hr, hold, hsc, hsk, rfl⟩ := h
  rcases run_next_at (P := P) w ty it b since c0 seen es clock hr hb hold hsc with ⟨h0, hrun⟩ | ⟨e, he, w1, hw1, hrun⟩
  · refine .inl ⟨?_, hrun⟩
    have : (leftOf es seen) = #[] := Array.eq_empty_of_size_eq_zero h0
    simp [this]
  · right
    obtain ⟨i, hi⟩ := List.getElem?_of_mem he
    have hk1 : Kept (fun _ => False) w w1 := by
      rcases hw1 with rfl | rfl
      · exact Kept.refl _ _
      · exact (Kept.refl _ _).drew
    have hr1 : w1.heap[it]? = some (.mapIter (some b) since seen c0) := by rcases hw1 with rfl | rfl <;> exact hr
    have hb1 : w1.heap[b]? = some (.map es clock) := by rcases hw1 with rfl | rfl <;> exact hb
    have hz1 : w1.heap.size = w.heap.size := by rcases hw1 with rfl | rfl <;> rfl
    obtain ⟨w2, hw2⟩ : ∃ w2, ChangeMaps.setBlock w1 it (.mapIter (some b) since (seen.push e.born) clock) = w2 := ⟨_, rfl⟩
    have g1 : w2.heap[it]? = some (.mapIter (some b) since (seen.push e.born) clock) := by
      rw [← hw2]
      have := (Array.getElem?_eq_some_iff.1 hr1).1
      simp [ChangeMaps.setBlock, this]
    have g2 : w2.heap[b]? = some (.map es clock) := by
      rw [← hw2]
      simp [ChangeMaps.setBlock, hne, hb1]
    have hmem : e ∈ es.toList := by
      simp [leftOf] at he
      simpa using he.1
    have hL : (leftOf es (seen.push e.born)).toList = (leftOf es seen).toList.eraseIdx i := by
      have e1 : (leftOf es (seen.push e.born)).toList = (leftOf es seen).toList.filter (fun x => !(x.born == e.born)) := by
        simp only [leftOf, Array.toList_filter, List.filter_filter]
        refine List.filter_congr (fun x _ => ?_)
        simp only [Array.contains_push, Bool.not_or]
        rw [Bool.and_comm]
      rw [e1]
      refine ChangeMaps.filter_eq_eraseIdx (fun x => x.born == e.born) _ i e hi (by simp) ?_
      have hnd : (leftOf es seen).toList.Pairwise (fun x y => x.born ≠ y.born) := by
        simp only [leftOf, Array.toList_filter]
        exact List.Pairwise.filter _ (List.pairwise_map.1 hs.2.1)
      exact hnd.imp (fun hxy hc => by
        simp only [beq_iff_eq] at hc
        exact hxy (hc.1.trans hc.2.symm))
    refine ⟨i, ent2 e, w2, by rw [List.getElem?_map, hi]; rfl, ?_, ⟨es, clock, since, seen.push e.born, clock, g2, hs, rfl, g1, hold, hsk, hsk, by rw [hL]; exact map_eraseIdx_of _ _ _⟩, ?_, ?_, ?_⟩
    · rw [hrun, hw2]; rfl
    · rw [← hw2]; exact (hk1.mono (fun _ _ h => h.elim)).setBlock _ (.inl rfl)
    · rw [← hw2]; simp [ChangeMaps.setBlock, hz1]
    · exact run_entry_at w2 it b since seen es clock e g1 g2 hmem hs.2.1
/-- 'range nil' and its step -/
theorem run_range_none {t k e : TypeId} (w : World) (ht : P.underlying t = some (.map k e)) : (Instr.range t (.map none)).run P w = .ok (.pointer (some ⟨w.heap.size, 0, none⟩)) (w.alloc (.mapIter none 0 #[] 0)) := run_range_nilMap w t k e ht
end
theorem Kept.grown1 {w w' : World} {it : Nat} (h : Kept (fun k => k = it) w w') : w.grownBy w' (some it) := ⟨h.os, h.tape, h.output, h.size, fun k hk hne => h.block k hk (fun e => hne (by rw [e]))⟩
theorem Kept.grown0 {w w' : World} (h : Kept (fun _ => False) w w') (row : Option Nat) : w.grownBy w' row := ⟨h.os, h.tape, h.output, h.size, fun k hk _ => h.block k hk id⟩
theorem RngOf.of_walks {w w' : World} {b it : Nat} {E R : List (Value × Value)} (h : RngOf w b it E R) (k : KeepsWalks w w') : RngOf w' b it E R := by
  have h' := h
  obtain ⟨es, clock, since, seen, c0, hb, _, _, hr, _⟩ := h'
  exact h.of_blocks ((k.same b _ hb rfl).trans hb.symm) ((k.same it _ hr rfl).trans hr.symm)
section
variable {P : Program} {w : World} {ops : Array Oper} {rest : List Oper} {o : Oper} {a : Act} {Q : Exit → Act → World → Prop}
theorem wpList_rng (hg : o.guard = none) (m : Operand) (t : TypeId) (hop : o.op = Op.range t m) (k e : TypeId) (ht : P.underlying t = some (.map k e)) (b : Nat) (E : List (Value × Value)) (hm : a.eval m = .map (some b)) (h : MapOf w b E)
    (hK : ∀ w', RngOf w' b w.heap.size E E → Kept (fun _ => False) w w' → w'.heap.size = w.heap.size + 1 → wpList P ops Q rest (a.put o.dst (.pointer (some ⟨w.heap.size, 0, none⟩))) w') : wpList P ops Q (o :: rest) a w := by
  obtain ⟨ob, hrun, hr, _⟩ := h.run_range ht
  refine wpList_run hg ?_ (hK _ hr ((Kept.refl _ _).alloc _) (by simp))
  simp [execOp, hop, hm, hrun, Result.andThen]
theorem wpList_nxt (hg : o.guard = none) (it : Operand) (hop : o.op = Op.next it false) (b r : Nat) (E R : List (Value × Value)) (hit : a.eval it = .pointer (some ⟨r, 0, none⟩)) (h : RngOf w b r E R)
    (hDone : R = [] → wpList P ops Q rest (a.put o.dst (.tuple #[.bool false])) w)
    (hMore : ∀ i kv v w', R[i]? = some (kv, v) → RngOf w' b r E (R.eraseIdx i) → Kept (fun k => k = r) w w' → w'.heap.size = w.heap.size → (Instr.entry (.pointer (some ⟨r, 0, none⟩))).run P w' = .ok (.tuple #[kv, v]) w' → wpList P ops Q rest (a.put o.dst (.tuple #[.bool true, kv, v])) w') :
    wpList P ops Q (o :: rest) a w := by
  rcases h.run_next (P := P) o.type with ⟨h0, hrun⟩ | ⟨i, ⟨kv, v⟩, w', hi, hrun, hr, hk, hz, hen⟩
  · refine wpList_run hg ?_ (hDone h0)
    simp [execOp, hop, hit, hrun, Result.andThen]
  · refine wpList_run hg ?_ (hMore i kv v w' hi hr hk hz hen)
    simp [execOp, hop, hit, hrun, Result.andThen]
variable {F : Fence} {n : Nat}
theorem wpListIn_rng (hg : o.guard = none) (m : Operand) (t : TypeId) (hop : o.op = Op.range t m) (k e : TypeId) (ht : P.underlying t = some (.map k e)) (b : Nat) (E : List (Value × Value)) (hm : a.eval m = .map (some b)) (h : MapOf w b E)
    (hK : ∀ w', RngOf w' b w.heap.size E E → Kept (fun _ => False) w w' → w'.heap.size = w.heap.size + 1 → wpListIn F n P ops Q rest (a.put o.dst (.pointer (some ⟨w.heap.size, 0, none⟩))) w') : wpListIn F n P ops Q (o :: rest) a w := by
  obtain ⟨ob, hrun, hr, _⟩ := h.run_range ht
  refine wpListIn_plain hg fun K' hK' => ?_
  unfold Oper.wpIn
  refine ⟨by simp [Oper.about, hop], ?_⟩
  rw [Oper.semAt_plain F _ _ (by rw [hop]; intro c hc'; cases hc')]
  simp [execOp, hop, hm, hrun, Result.andThen]
  exact hK' _ _ (hK _ hr ((Kept.refl _ _).alloc _) (by simp))
theorem wpListIn_nxt (hg : o.guard = none) (it : Operand) (hop : o.op = Op.next it false) (b r : Nat) (E R : List (Value × Value)) (hit : a.eval it = .pointer (some ⟨r, 0, none⟩)) (h : RngOf w b r E R)
    (hDone : R = [] → wpListIn F n P ops Q rest (a.put o.dst (.tuple #[.bool false])) w)
    (hMore : ∀ i kv v w', R[i]? = some (kv, v) → RngOf w' b r E (R.eraseIdx i) → Kept (fun k => k = r) w w' → w'.heap.size = w.heap.size → (Instr.entry (.pointer (some ⟨r, 0, none⟩))).run P w' = .ok (.tuple #[kv, v]) w' → wpListIn F n P ops Q rest (a.put o.dst (.tuple #[.bool true, kv, v])) w') :
    wpListIn F n P ops Q (o :: rest) a w := by
  refine wpListIn_plain hg fun K' hK' => ?_
  unfold Oper.wpIn
  refine ⟨by simp [Oper.about, hop], ?_⟩
  rw [Oper.semAt_plain F _ _ (by rw [hop]; intro c hc'; cases hc')]
  rcases h.run_next (P := P) o.type with ⟨h0, hrun⟩ | ⟨i, ⟨kv, v⟩, w', hi, hrun, hr, hk, hz, hen⟩
  · simp [execOp, hop, hit, hrun, Result.andThen]
    exact hK' _ _ (hDone h0)
  · simp [execOp, hop, hit, hrun, Result.andThen]
    exact hK' _ _ (hMore i kv v w' hi hr hk hz hen)
end
end Go.Proofs.Ytpjhdpfaogdboaa
