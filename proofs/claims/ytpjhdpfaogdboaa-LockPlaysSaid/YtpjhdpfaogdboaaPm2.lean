/- Texts of this claim, merged: A. -/
import Derived.Laws.StructEq
import Derived.WideKeyRuns
import Derived.Test.YtpjhdpfaogdboaaPm1
/- Maps keyed by structs: TxIDs as keys. -/
namespace Go.Proofs.Ytpjhdpfaogdboaa
set_option linter.unusedSimpArgs false
set_option linter.unusedVariables false
open Go.RowKit
abbrev Tx := Int × Int × Int
def txv (t : Tx) : Value := .agg #[.int .u8 t.1, .int .u32 t.2.1, .int .u32 t.2.2]
theorem tx_check' (n : Nat) (t : Tx) (e : Bool) (w : World) : (Instr.checkKey e (n + 2) 32 (txv t)).run Try.prog w = .ok () w := by
  obtain ⟨a, b, c⟩ := t
  have h1 := fun k => MapKept.run_checkKey (P := Try.prog) (w := w) (k := .int .u8 k) Try.underlying5 rfl e n
  have h2 := fun k => MapKept.run_checkKey (P := Try.prog) (w := w) (k := .int .u32 k) Try.underlying26 rfl e n
  have u8 := Try.underlying5
  have u32 := Try.underlying26
  rw [Instr.checkKey]
  simp [run_underlying Try.underlying32, Result.andThen, txv, go_sem, h1, h2]
theorem fields_of {P : Program} {t : TypeId} {fs : Array Field} (h : P.underlying t = some (.struct fs)) : P.fieldsOf t = fs := by unfold Program.fieldsOf; rw [h]
theorem tx_same (a b : Tx) (w : World) : (Op.equal 32 (txv a) (txv b)).run Try.prog w = .ok (decide (a = b)) w := by
  obtain ⟨a1, a2, a3⟩ := a
  obtain ⟨b1, b2, b3⟩ := b
  have u8 := Try.underlying5
  have u32 := Try.underlying26
  have hf := fields_of Try.underlying32
  have e : (Op.equal 32 (txv (a1, a2, a3)) (txv (b1, b2, b3))).run Try.prog w = _ := run_equalIn_struct w 9999 32 _ _ (by rw [hf]; exact Try.underlying32) (by kernel_rfl)
  rw [e, hf]
  simp [Op.eqFields, go_sem, run_equalIn_int w 9998 _ _ _ _ _ u8, run_equalIn_int w 9998 _ _ _ _ _ u32]
  by_cases h1 : a1 = b1 <;> by_cases h2 : a2 = b2 <;> by_cases h3 : a3 = b3 <;> simp [h1, h2, h3]
theorem tx_stays (a : Tx) (w : World) : (Instr.keyThatStays (txv a) (txv a)).run Try.prog w = .ok (txv a) w := by
  obtain ⟨a1, a2, a3⟩ := a
  simp [txv, Instr.keyThatStays, Instr.sameBits]
theorem tx_check (t : Tx) (e : Bool) (w : World) : (Instr.checkKey e 10000 32 (txv t)).run Try.prog w = .ok () w := tx_check' 9998 t e w
theorem txv_inj {a b : Tx} (h : txv a = txv b) : a = b := by
  obtain ⟨a1, a2, a3⟩ := a
  obtain ⟨b1, b2, b3⟩ := b
  simpa [txv] using h
/-- a block is a map of these entries, each key once -/
def MapT (w : World) (b : Nat) (L : List (Tx × Value)) : Prop :=
  ∃ es clock, w.heap[b]? = some (.map es clock) ∧ es.toList.map (fun e => (e.key, e.val)) = L.map (fun p => (txv p.1, p.2)) ∧ (L.map (·.1)).Nodup ∧ MapKept.Stamped es clock
def lkT : List (Tx × Value) → Tx → Nat → Option (Nat × Value)
  | [], _, _ => none
  | (a, v) :: r, k, i => if k = a then some (i, v) else lkT r k (i + 1)
def lookT : List (Tx × Value) → Tx → Option Value
  | [], _ => none
  | (a, v) :: r, k => if k = a then some v else lookT r k
def layT : List (Tx × Value) → Tx → Value → List (Tx × Value)
  | [], k, v => [(k, v)]
  | (a, x) :: r, k, v => if k = a then (a, v) :: r else (a, x) :: layT r k v
theorem lookT_lk : ∀ (L : List (Tx × Value)) (k : Tx) (i : Nat), (lkT L k i).map (·.2) = lookT L k
  | [], _, _ => rfl
  | (a, v) :: r, k, i => by unfold lkT lookT; split <;> simp [lookT_lk r k (i + 1)]
theorem lookT_lay : ∀ (L : List (Tx × Value)) (k : Tx) (v : Value) (k' : Tx), lookT (layT L k v) k' = if k' = k then some v else lookT L k'
  | [], k, v, k' => by simp [layT, lookT]
  | (a, x) :: r, k, v, k' => by
    unfold layT
    split
    · rename_i h; subst h; simp only [lookT]; split <;> rfl
    · rename_i h
      simp only [lookT, lookT_lay r k v k']
      by_cases h1 : k' = a
      · subst h1; simp [Ne.symm h]
      · simp [h1]
theorem findT {w : World} {k : Tx} : ∀ (es : List MapEntry) (L : List (Tx × Value)) (i : Nat), es.map (fun e => (e.key, e.val)) = L.map (fun p => (txv p.1, p.2)) →
    (Instr.findAsking 32 (txv k) es i).run Try.prog w = .ok (lkT L k i) w
  | [], [], _, _ => by simp [Instr.findAsking, lkT]
  | e :: es, (a, v) :: r, i, h => by
    simp only [List.map_cons, List.cons.injEq, Prod.mk.injEq] at h
    obtain ⟨⟨h1, h2⟩, h3⟩ := h
    have ih := findT (w := w) (k := k) es r (i + 1) h3
    simp only [Instr.findAsking, Sem.run_bind, h1, tx_same, Result.andThen_ok, lkT]
    by_cases hk : k = a
    · simp [hk, h2]
    · simp [hk, ih]
  | [], _ :: _, _, h => by simp at h
  | _ :: _, [], _, h => by simp at h
theorem findKeyT {w : World} {k : Tx} (es : List MapEntry) (L : List (Tx × Value)) (h : es.map (fun e => (e.key, e.val)) = L.map (fun p => (txv p.1, p.2))) :
    (Instr.findKey 32 (txv k) es).run Try.prog w = .ok (lkT L k 0) w := by
  refine (run_findKey_eq (P := Try.prog) (w := w) (k := 32) (by kernel_rfl) _ _).trans (findT es L 0 h)
section
variable {w : World} {t et : TypeId} {b : Nat} {L : List (Tx × Value)}
theorem MapT.lt (h : MapT w b L) : b < w.heap.size := by
  obtain ⟨es, clock, hb, _⟩ := h
  exact (Array.getElem?_eq_some_iff.1 hb).1
theorem MapT.of_block {w' : World} (h : MapT w b L) (e : w'.heap[b]? = w.heap[b]?) : MapT w' b L := by
  obtain ⟨es, clock, hb, r⟩ := h
  exact ⟨es, clock, e.trans hb, r⟩
theorem MapT.run_look_some (h : MapT w b L) (ht : Try.prog.underlying t = some (.map 32 et)) {k : Tx} {v : Value} (hl : lookT L k = some v) (ok : Bool) :
    (Instr.lookup t (.map (some b)) (txv k) ok).run Try.prog w = .ok (if ok then .tuple #[v, .bool true] else v) w := by
  obtain ⟨es, clock, hb, he, _, _⟩ := h
  have h1 := findKeyT (w := w) (k := k) es.toList L he
  have h2 := lookT_lk L k 0
  rw [hl] at h2
  obtain ⟨⟨j, v'⟩, h3, h4⟩ := Option.map_eq_some_iff.1 h2
  simp only at h4
  subst h4
  have hck := fun e => tx_check k e w
  rw [h3] at h1
  simp [Instr.lookup, run_underlying ht, MapKept.run_getObj_map hb, hck, h1, Result.andThen]
theorem MapT.run_look_none (h : MapT w b L) (ht : Try.prog.underlying t = some (.map 32 et)) {k : Tx} {z : Value} (hz : (zeroValue et).run Try.prog w = .ok z w) (hl : lookT L k = none) (ok : Bool) :
    (Instr.lookup t (.map (some b)) (txv k) ok).run Try.prog w = .ok (if ok then .tuple #[z, .bool false] else z) w := by
  obtain ⟨es, clock, hb, he, _, _⟩ := h
  have h1 := findKeyT (w := w) (k := k) es.toList L he
  have h2 := lookT_lk L k 0
  rw [hl] at h2
  have h3 : lkT L k 0 = none := by cases h : lkT L k 0 <;> simp_all
  have hck := fun e => tx_check k e w
  rw [h3] at h1
  simp [Instr.lookup, run_underlying ht, MapKept.run_getObj_map hb, hck, h1, Result.andThen, hz]
theorem layT_new {k : Tx} {v : Value} : ∀ (L : List (Tx × Value)) (i : Nat), lkT L k i = none → layT L k v = L ++ [(k, v)] ∧ k ∉ L.map (·.1)
  | [], _, _ => ⟨rfl, by simp⟩
  | (a, x) :: r, i, h => by
    unfold lkT at h
    split at h
    · cases h
    · rename_i hk
      have ih := layT_new (v := v) r (i + 1) h
      exact ⟨by unfold layT; rw [if_neg hk, ih.1, List.cons_append], by simp only [List.map_cons, List.mem_cons, not_or]; exact ⟨hk, ih.2⟩⟩
/-- 'm[k] = v', the key is new -/
theorem MapT.run_lay_new (h : MapT w b L) (ht : Try.prog.underlying t = some (.map 32 et)) {k : Tx} (hl : lookT L k = none) (v : Value) :
    ∃ es clock, (Instr.mapUpdate t (.map (some b)) (txv k) v).run Try.prog w = .ok () (ChangeMaps.setBlock w b (.map es clock)) ∧ MapT (ChangeMaps.setBlock w b (.map es clock)) b (L ++ [(k, v)]) := by
  obtain ⟨es, clock, hb, he, hn, hst0⟩ := h
  have h1 := findKeyT (w := w) (k := k) es.toList L he
  have h2 := lookT_lk L k 0
  rw [hl] at h2
  have h3 : lkT L k 0 = none := by cases h : lkT L k 0 <;> simp_all
  have hck := fun e => tx_check k e w
  rw [h3] at h1
  have hnk := (layT_new (v := v) L 0 h3).2
  refine ⟨es.push ⟨txv k, v, clock⟩, clock + 1, ?_, es.push ⟨txv k, v, clock⟩, clock + 1, ChangeMaps.heap_setBlock_same hb _, ?_, ?_, ?_⟩
  · simp [Instr.mapUpdate, run_underlying ht, MapKept.run_getObj_map hb, hck, h1, MapKept.run_setObj_map _ hb, Result.andThen, ChangeMaps.setBlock]
  · simp [he]
  · rw [List.map_append, List.nodup_append]
    exact ⟨hn, by simp, fun a ha b hb e => by simp at hb; rw [e, hb] at ha; exact hnk ha⟩
  · refine MapKept.stamped_push hst0 (fun x hx e => ?_)
    have hm : (x.key, x.val) ∈ L.map (fun p => (txv p.1, p.2)) := by rw [← he]; exact List.mem_map.2 ⟨x, hx, rfl⟩
    obtain ⟨p, hp, e2⟩ := List.mem_map.1 hm
    simp only [Prod.mk.injEq] at e2
    rw [← e2.1] at e
    exact hnk (List.mem_map.2 ⟨p, hp, txv_inj e⟩)
theorem MapT.made (w : World) : MapT (w.alloc (.map #[] 0)) w.heap.size [] := ⟨#[], 0, (MapKept.heap_alloc w _).1, rfl, List.nodup_nil, MapKept.stamped_empty 0⟩
end
theorem mem_layT : ∀ (L : List (Tx × Value)) (k : Tx) (v : Value) (a : Tx), a ∈ (layT L k v).map (·.1) ↔ a = k ∨ a ∈ L.map (·.1)
  | [], k, v, a => by simp [layT]
  | (b, x) :: r, k, v, a => by
    unfold layT
    split
    · rename_i h; subst h; simp
    · simp only [List.map_cons, List.mem_cons, mem_layT r k v a]
      constructor
      · rintro (h | h | h) <;> simp [h]
      · rintro (h | h | h) <;> simp [h]
theorem layT_nodup : ∀ (L : List (Tx × Value)) (k : Tx) (v : Value), (L.map (·.1)).Nodup → ((layT L k v).map (·.1)).Nodup
  | [], k, v, _ => by simp [layT]
  | (b, x) :: r, k, v, h => by
    simp only [List.map_cons, List.nodup_cons] at h
    unfold layT
    split
    · simp only [List.map_cons, List.nodup_cons]; exact h
    · rename_i hk
      simp only [List.map_cons, List.nodup_cons, mem_layT]
      exact ⟨by rintro (h1 | h1); exact hk h1.symm; exact h.1 h1, layT_nodup r k v h.2⟩
theorem lkT_spec {k : Tx} : ∀ (L : List (Tx × Value)) (i j : Nat) (v : Value), lkT L k i = some (j, v) → ∃ d, j = i + d ∧ L[d]? = some (k, v)
  | [], _, _, _, h => by simp [lkT] at h
  | (a, x) :: r, i, j, v, h => by
    unfold lkT at h
    split at h
    · rename_i hk; subst hk
      simp at h; obtain ⟨rfl, rfl⟩ := h
      exact ⟨0, rfl, rfl⟩
    · obtain ⟨d, h1, h2⟩ := lkT_spec r (i + 1) j v h
      exact ⟨d + 1, by omega, by simpa using h2⟩
theorem layT_old {k : Tx} {v : Value} : ∀ (L : List (Tx × Value)) (d : Nat) (x : Value), (L.map (·.1)).Nodup → L[d]? = some (k, x) → layT L k v = L.set d (k, v)
  | [], _, _, _, h => by simp at h
  | (a, y) :: r, 0, x, _, h => by simp at h; obtain ⟨rfl, rfl⟩ := h; simp [layT]
  | (a, y) :: r, d + 1, x, hn, h => by
    simp only [List.map_cons, List.nodup_cons] at hn
    simp only [List.getElem?_cons_succ] at h
    have hne : k ≠ a := by
      rintro rfl
      exact hn.1 (List.mem_map.2 ⟨(k, x), List.mem_of_getElem? h, rfl⟩)
    unfold layT
    rw [if_neg hne, layT_old r d x hn.2 h, List.set_cons_succ]
theorem MapT.run_lay {w : World} {t et : TypeId} {b : Nat} {L : List (Tx × Value)} (h : MapT w b L) (ht : Try.prog.underlying t = some (.map 32 et)) (k : Tx) (v : Value) :
    ∃ es clock, (Instr.mapUpdate t (.map (some b)) (txv k) v).run Try.prog w = .ok () (ChangeMaps.setBlock w b (.map es clock)) ∧ MapT (ChangeMaps.setBlock w b (.map es clock)) b (layT L k v) := by
  cases hl : lookT L k with
  | none =>
    obtain ⟨es, c, h1, h2⟩ := h.run_lay_new ht hl v
    have h3 : lkT L k 0 = none := by have := lookT_lk L k 0; rw [hl] at this; cases h : lkT L k 0 <;> simp_all
    exact ⟨es, c, h1, by rw [(layT_new (v := v) L 0 h3).1]; exact h2⟩
  | some x0 =>
    obtain ⟨es, clock, hb, he, hn, hst0⟩ := h
    have h1 := findKeyT (w := w) (k := k) es.toList L he
    have h2 := lookT_lk L k 0
    rw [hl] at h2
    obtain ⟨⟨j, x⟩, hj, _⟩ := Option.map_eq_some_iff.1 h2
    rw [hj] at h1
    obtain ⟨d, hd, hL⟩ := lkT_spec L 0 j x hj
    have hjd : j = d := by omega
    subst hjd
    have hck := fun e => tx_check k e w
    have hlen : es.toList.length = L.length := by have := congrArg List.length he; simpa using this
    have hlt : j < L.length := (List.getElem?_eq_some_iff.1 hL).1
    have hje : j < es.size := by rw [← hlen] at hlt; simpa using hlt
    have hkey : es[j].key = txv k := by
      have h5 := congrArg (fun l => l[j]?) he
      simp only [List.getElem?_map, hL, Option.map_some] at h5
      simp [hje] at h5
      exact h5.1
    refine ⟨es.modify j (fun e => { e with key := txv k, val := v }), clock, ?_, es.modify j (fun e => { e with key := txv k, val := v }), clock, ChangeMaps.heap_setBlock_same hb _, ?_, layT_nodup _ _ _ hn, ?_⟩
    · have hst := tx_stays k w
      simp [Instr.mapUpdate, run_underlying ht, MapKept.run_getObj_map hb, hck, h1, MapKept.run_setObj_map _ hb, Result.andThen, ChangeMaps.setBlock, hje, hkey, hst]
    · rw [layT_old L j x hn hL]
      apply List.ext_getElem?
      intro i
      have h5 := congrArg (fun l => l[i]?) he
      simp only [List.getElem?_map] at h5
      simp only [List.getElem?_map, Array.getElem?_toList, Array.getElem?_modify, List.getElem?_set, Array.getElem?_toList] at h5 ⊢
      by_cases hij : j = i
      · subst hij
        simp [hje, hlt]
      · simp [hij, h5]
    · refine MapKept.stamped_modify hst0 j _ (fun _ _ => rfl) (fun e _ he => ?_)
      have : e = es[j] := by
        rw [Array.getElem?_eq_getElem hje] at he
        exact (Option.some.inj he).symm
      rw [this, hkey]

def wipeT (L : List (Tx × Value)) (k : Tx) : List (Tx × Value) := L.filter (fun p => p.1 ≠ k)
theorem lookT_wipe (L : List (Tx × Value)) (k k' : Tx) : lookT (wipeT L k) k' = if k' = k then none else lookT L k' := by
  induction L with
  | nil => simp [wipeT, lookT]
  | cons p r ih =>
    obtain ⟨a, v⟩ := p
    unfold wipeT at ih ⊢
    by_cases hak : a = k
    · subst hak
      simp only [List.filter_cons, ne_eq, not_true, decide_false, Bool.false_eq_true, if_false, ih, lookT]
      by_cases h : k' = a
      · simp [h]
      · simp [h]
    · simp only [List.filter_cons, ne_eq, hak, not_false_iff, decide_true, if_true, lookT, ih]
      by_cases h : k' = a
      · subst h; simp [hak]
      · simp [h]
theorem wipeT_at {k : Tx} : ∀ (L : List (Tx × Value)) (d : Nat) (x : Value), (L.map (·.1)).Nodup → L[d]? = some (k, x) → wipeT L k = L.eraseIdx d
  | [], _, _, _, h => by simp at h
  | (a, y) :: r, 0, x, hn, h => by
    simp at h
    obtain ⟨rfl, rfl⟩ := h
    simp only [List.map_cons, List.nodup_cons] at hn
    unfold wipeT
    simp only [List.filter_cons, ne_eq, not_true, decide_false, Bool.false_eq_true, if_false, List.eraseIdx_cons_zero]
    rw [List.filter_eq_self]
    intro p hp
    simp only [decide_eq_true_eq]
    intro e
    exact hn.1 (List.mem_map.2 ⟨p, hp, e⟩)
  | (a, y) :: r, d + 1, x, hn, h => by
    simp only [List.map_cons, List.nodup_cons] at hn
    simp only [List.getElem?_cons_succ] at h
    have hne : a ≠ k := by
      rintro rfl
      exact hn.1 (List.mem_map.2 ⟨(a, x), List.mem_of_getElem? h, rfl⟩)
    have ih := wipeT_at r d x hn.2 h
    unfold wipeT at ih ⊢
    simp only [List.filter_cons, ne_eq, hne, not_false_iff, decide_true, if_true, List.eraseIdx_cons_succ, ← ih]
theorem wipeT_none {L : List (Tx × Value)} {k : Tx} (h : k ∉ L.map (·.1)) : wipeT L k = L := by
  unfold wipeT
  rw [List.filter_eq_self]
  intro p hp
  simp only [ne_eq, decide_eq_true_eq]
  intro e
  exact h (List.mem_map.2 ⟨p, hp, e⟩)
theorem lkT_none {k : Tx} : ∀ (L : List (Tx × Value)) (i : Nat), lkT L k i = none → k ∉ L.map (·.1)
  | [], _, _ => by simp
  | (a, x) :: r, i, h => by
    unfold lkT at h
    split at h
    · cases h
    · rename_i hk
      simp only [List.map_cons, List.mem_cons, not_or]
      exact ⟨hk, lkT_none r (i + 1) h⟩
theorem wipeT_nodup {L : List (Tx × Value)} (k : Tx) (h : (L.map (·.1)).Nodup) : ((wipeT L k).map (·.1)).Nodup :=
  (List.filter_sublist (l := L)).map (·.1) |>.nodup h
/-- 'delete(m, k)' -/
theorem MapT.run_wipe {w : World} {t et : TypeId} {b : Nat} {L : List (Tx × Value)} (h : MapT w b L) (ht : Try.prog.underlying t = some (.map 32 et)) (k : Tx) (ts : Array TypeId) (ty : TypeId) (hts : ts[0]? = some t) :
    ∃ es clock, (Builtin.delete_ ts ty #[.map (some b), txv k]).run Try.prog w = .ok (.tuple #[]) (ChangeMaps.setBlock w b (.map es clock)) ∧ MapT (ChangeMaps.setBlock w b (.map es clock)) b (wipeT L k) := by
  obtain ⟨es, clock, hb, he, hn, hst0⟩ := h
  have h1 := findKeyT (w := w) (k := k) es.toList L he
  have hck := fun e => tx_check k e w
  cases hl : lkT L k 0 with
  | none =>
    rw [hl] at h1
    refine ⟨es, clock, ?_, es, clock, ChangeMaps.heap_setBlock_same hb _, ?_, wipeT_nodup _ hn, hst0⟩
    · simp [Builtin.delete_, hts, run_underlying ht, MapKept.run_getObj_map hb, hck, h1, MapKept.run_setObj_map _ hb, Result.andThen, ChangeMaps.setBlock]
    · rw [wipeT_none (lkT_none _ _ hl)]; exact he
  | some q =>
    obtain ⟨j, x⟩ := q
    rw [hl] at h1
    obtain ⟨d, hd, hL⟩ := lkT_spec L 0 j x hl
    have hjd : j = d := by omega
    subst hjd
    refine ⟨es.eraseIdxIfInBounds j, clock, ?_, es.eraseIdxIfInBounds j, clock, ChangeMaps.heap_setBlock_same hb _, ?_, wipeT_nodup _ hn, MapKept.stamped_erase hst0 j⟩
    · simp [Builtin.delete_, hts, run_underlying ht, MapKept.run_getObj_map hb, hck, h1, MapKept.run_setObj_map _ hb, Result.andThen, ChangeMaps.setBlock]
    · rw [wipeT_at L j x hn hL]
      have hlen : es.toList.length = L.length := by have := congrArg List.length he; simpa using this
      have e1 : (es.eraseIdxIfInBounds j).toList = es.toList.eraseIdx j := by simp
      rw [e1]
      apply List.ext_getElem?
      intro i
      have h5 : ∀ i : Nat, (es.toList.map (fun e => (e.key, e.val)))[i]? = (L.map (fun p => (txv p.1, p.2)))[i]? := fun i => by rw [he]
      simp only [List.getElem?_map] at h5
      simp only [List.getElem?_map, List.getElem?_eraseIdx]
      split <;> exact h5 _
end Go.Proofs.Ytpjhdpfaogdboaa
