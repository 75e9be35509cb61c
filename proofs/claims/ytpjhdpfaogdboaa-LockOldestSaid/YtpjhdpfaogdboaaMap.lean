/- Maps keyed by integers: what a map's block holds, as a list of keys and values in the order of its entries; what the operations do. -/
import Derived.Test.YtpjhdpfaogdboaaBase
namespace Go.Proofs.Ytpjhdpfaogdboaa
set_option linter.unusedSimpArgs false
set_option linter.unusedVariables false
open Go.RowKit

/-- a block is a map of these entries, each key once -/
def MapIs (w : World) (b : Nat) (q : IntKind) (L : List (Int × Value)) : Prop :=
  ∃ es clock, w.heap[b]? = some (.map es clock) ∧ es.toList.map (fun e => (e.key, e.val)) = L.map (fun p => (Value.int q p.1, p.2)) ∧ (L.map (·.1)).Nodup ∧ MapKept.Stamped es clock

def lk : List (Int × Value) → Int → Nat → Option (Nat × Value)
  | [], _, _ => none
  | (a, v) :: r, k, i => if k = a then some (i, v) else lk r k (i + 1)
def look : List (Int × Value) → Int → Option Value
  | [], _ => none
  | (a, v) :: r, k => if k = a then some v else look r k
def lay : List (Int × Value) → Int → Value → List (Int × Value)
  | [], k, v => [(k, v)]
  | (a, x) :: r, k, v => if k = a then (a, v) :: r else (a, x) :: lay r k v
def wipe (L : List (Int × Value)) (k : Int) : List (Int × Value) := L.filter (fun p => p.1 ≠ k)

theorem look_lk : ∀ (L : List (Int × Value)) (k : Int) (i : Nat), (lk L k i).map (·.2) = look L k
  | [], _, _ => rfl
  | (a, v) :: r, k, i => by unfold lk look; split <;> simp [look_lk r k (i + 1)]
theorem look_lay : ∀ (L : List (Int × Value)) (k : Int) (v : Value) (k' : Int), look (lay L k v) k' = if k' = k then some v else look L k'
  | [], k, v, k' => by simp [lay, look]
  | (a, x) :: r, k, v, k' => by
    unfold lay
    split
    · rename_i h; subst h; simp only [look]; split <;> rfl
    · rename_i h
      simp only [look, look_lay r k v k']
      by_cases h1 : k' = a
      · subst h1; simp [Ne.symm h]
      · simp [h1]
theorem mem_lay : ∀ (L : List (Int × Value)) (k : Int) (v : Value) (a : Int), a ∈ (lay L k v).map (·.1) ↔ a = k ∨ a ∈ L.map (·.1)
  | [], k, v, a => by simp [lay]
  | (b, x) :: r, k, v, a => by
    unfold lay
    split
    · rename_i h; subst h; simp
    · simp only [List.map_cons, List.mem_cons, mem_lay r k v a]
      constructor
      · rintro (h | h | h) <;> simp [h]
      · rintro (h | h | h) <;> simp [h]
theorem lay_nodup : ∀ (L : List (Int × Value)) (k : Int) (v : Value), (L.map (·.1)).Nodup → ((lay L k v).map (·.1)).Nodup
  | [], k, v, _ => by simp [lay]
  | (b, x) :: r, k, v, h => by
    simp only [List.map_cons, List.nodup_cons] at h
    unfold lay
    split
    · simp only [List.map_cons, List.nodup_cons]; exact h
    · rename_i hk
      simp only [List.map_cons, List.nodup_cons, mem_lay]
      exact ⟨by rintro (h1 | h1); exact hk h1.symm; exact h.1 h1, lay_nodup r k v h.2⟩
theorem look_mem : ∀ (L : List (Int × Value)) (k : Int), (look L k).isSome = true ↔ k ∈ L.map (·.1)
  | [], k => by simp [look]
  | (a, v) :: r, k => by
    simp only [look, List.map_cons, List.mem_cons]
    by_cases h : k = a
    · simp [h]
    · simp [h, look_mem r k]
theorem look_wipe (L : List (Int × Value)) (k k' : Int) : look (wipe L k) k' = if k' = k then none else look L k' := by
  induction L with
  | nil => simp [wipe, look]
  | cons p r ih =>
    obtain ⟨a, v⟩ := p
    unfold wipe at ih ⊢
    by_cases h : a = k
    · subst h
      simp only [List.filter_cons, ne_eq, not_true, decide_false, Bool.false_eq_true, if_false, ih, look]
      split <;> rfl
    · simp only [List.filter_cons, ne_eq, h, not_false_eq_true, decide_true, if_true, look, ih]
      by_cases h1 : k' = a
      · subst h1; simp [h]
      · simp [h1]
theorem wipe_nodup {L : List (Int × Value)} (k : Int) (h : (L.map (·.1)).Nodup) : ((wipe L k).map (·.1)).Nodup :=
  h.sublist (List.Sublist.map _ List.filter_sublist)

section
variable {P : Program} {w : World} {t kt et : TypeId} {b : Nat} {q : IntKind} {L : List (Int × Value)}

theorem findNow_lk {k : Int} : ∀ (es : List MapEntry) (L : List (Int × Value)) (i : Nat), es.map (fun e => (e.key, e.val)) = L.map (fun p => (Value.int q p.1, p.2)) →
    Instr.findNow (.int q) (.int q k) es i = some (lk L k i)
  | [], [], _, _ => rfl
  | e :: es, (a, v) :: r, i, h => by
    simp only [List.map_cons, List.cons.injEq, Prod.mk.injEq] at h
    obtain ⟨⟨h1, h2⟩, h3⟩ := h
    have ih := findNow_lk (k := k) es r (i + 1) h3
    by_cases hk : k = a
    · subst hk
      simp [Instr.findNow, Instr.sameNow, h1, lk, h2]
    · have hb : (k == a) = false := by simpa using hk
      simp [Instr.findNow, Instr.sameNow, h1, lk, hk, ih, hb]
  | [], _ :: _, _, h => by simp at h
  | _ :: _, [], _, h => by simp at h

theorem lk_spec {k : Int} : ∀ (L : List (Int × Value)) (i j : Nat) (v : Value), lk L k i = some (j, v) → ∃ d, j = i + d ∧ L[d]? = some (k, v)
  | [], _, _, _, h => by simp [lk] at h
  | (a, x) :: r, i, j, v, h => by
    unfold lk at h
    split at h
    · rename_i hk; subst hk
      simp at h; obtain ⟨rfl, rfl⟩ := h
      exact ⟨0, rfl, rfl⟩
    · obtain ⟨d, h1, h2⟩ := lk_spec r (i + 1) j v h
      exact ⟨d + 1, by omega, by simpa using h2⟩
theorem lk_none {k : Int} : ∀ (L : List (Int × Value)) (i : Nat), lk L k i = none → k ∉ L.map (·.1)
  | [], _, _ => by simp
  | (a, x) :: r, i, h => by
    unfold lk at h
    split at h
    · cases h
    · rename_i hk
      simp only [List.map_cons, List.mem_cons, not_or]
      exact ⟨hk, lk_none r (i + 1) h⟩
theorem lay_new {k : Int} {v : Value} : ∀ (L : List (Int × Value)), k ∉ L.map (·.1) → lay L k v = L ++ [(k, v)]
  | [], _ => rfl
  | (a, x) :: r, h => by
    simp only [List.map_cons, List.mem_cons, not_or] at h
    unfold lay
    rw [if_neg h.1, lay_new r h.2, List.cons_append]
theorem lay_old {k : Int} {v : Value} : ∀ (L : List (Int × Value)) (d : Nat) (x : Value), (L.map (·.1)).Nodup → L[d]? = some (k, x) → lay L k v = L.set d (k, v)
  | [], _, _, _, h => by simp at h
  | (a, y) :: r, 0, x, _, h => by simp at h; obtain ⟨rfl, rfl⟩ := h; simp [lay]
  | (a, y) :: r, d + 1, x, hn, h => by
    simp only [List.map_cons, List.nodup_cons] at hn
    simp only [List.getElem?_cons_succ] at h
    have hne : k ≠ a := by
      rintro rfl
      exact hn.1 (List.mem_map.2 ⟨(k, x), List.mem_of_getElem? h, rfl⟩)
    unfold lay
    rw [if_neg hne, lay_old r d x hn.2 h, List.set_cons_succ]
theorem wipe_at {k : Int} : ∀ (L : List (Int × Value)) (d : Nat) (x : Value), (L.map (·.1)).Nodup → L[d]? = some (k, x) → wipe L k = L.eraseIdx d
  | [], _, _, _, h => by simp at h
  | (a, y) :: r, 0, x, hn, h => by
    simp at h; obtain ⟨rfl, rfl⟩ := h
    simp only [List.map_cons, List.nodup_cons] at hn
    unfold wipe
    simp only [List.filter_cons, ne_eq, not_true, decide_false, Bool.false_eq_true, if_false, List.eraseIdx_zero, List.tail_cons]
    rw [List.filter_eq_self]
    intro p hp
    simp only [decide_eq_true_eq]
    rintro rfl
    exact hn.1 (List.mem_map.2 ⟨p, hp, rfl⟩)
  | (a, y) :: r, d + 1, x, hn, h => by
    simp only [List.map_cons, List.nodup_cons] at hn
    simp only [List.getElem?_cons_succ] at h
    have hne : ¬ a = k := by
      rintro rfl
      exact hn.1 (List.mem_map.2 ⟨(a, x), List.mem_of_getElem? h, rfl⟩)
    have ih := wipe_at r d x hn.2 h
    unfold wipe at ih ⊢
    simp only [List.filter_cons, ne_eq, hne, not_false_eq_true, decide_true, if_true, List.eraseIdx_cons_succ]
    rw [← ih]
theorem wipe_none {k : Int} (h : k ∉ L.map (·.1)) : wipe L k = L := by
  unfold wipe
  rw [List.filter_eq_self]
  intro p hp
  simp only [decide_eq_true_eq]
  rintro rfl
  exact h (List.mem_map.2 ⟨p, hp, rfl⟩)

/-- 'v, ok := m[k]', ok: the key is there. -/
theorem MapIs.run_look_some (h : MapIs w b q L) (ht : P.underlying t = some (.map kt et)) (hk : P.underlying kt = some (.int q)) {k : Int} {v : Value} (hl : look L k = some v) (ok : Bool) :
    (Instr.lookup t (.map (some b)) (.int q k) ok).run P w = .ok (if ok then .tuple #[v, .bool true] else v) w := by
  obtain ⟨es, clock, hb, he, _, _⟩ := h
  have h1 := findNow_lk (q := q) (k := k) es.toList L 0 he
  have h2 := look_lk L k 0
  rw [hl] at h2
  obtain ⟨⟨j, v'⟩, h3, h4⟩ := Option.map_eq_some_iff.1 h2
  simp only at h4
  subst h4
  have hck := fun e => MapKept.run_checkKey (P := P) (w := w) (k := .int q k) hk rfl e 9999
  have hfk := MapKept.run_findKey (P := P) (w := w) hk (h1.trans (by rw [h3]))
  simp [Instr.lookup, run_underlying ht, MapKept.run_getObj_map hb, hck, hfk, Result.andThen]
theorem MapIs.run_look_none (h : MapIs w b q L) (ht : P.underlying t = some (.map kt et)) (hk : P.underlying kt = some (.int q)) {k : Int} {z : Value} (hz : (zeroValue et).run P w = .ok z w) (hl : look L k = none) (ok : Bool) :
    (Instr.lookup t (.map (some b)) (.int q k) ok).run P w = .ok (if ok then .tuple #[z, .bool false] else z) w := by
  obtain ⟨es, clock, hb, he, _, _⟩ := h
  have h1 := findNow_lk (q := q) (k := k) es.toList L 0 he
  have h2 := look_lk L k 0
  rw [hl] at h2
  have h3 : lk L k 0 = none := by cases h : lk L k 0 <;> simp_all
  have hck := fun e => MapKept.run_checkKey (P := P) (w := w) (k := .int q k) hk rfl e 9999
  have hfk := MapKept.run_findKey (P := P) (w := w) hk (h1.trans (by rw [h3]))
  simp [Instr.lookup, run_underlying ht, MapKept.run_getObj_map hb, hck, hfk, Result.andThen, hz]

/-- 'm[k] = v' -/
theorem MapIs.run_lay (h : MapIs w b q L) (ht : P.underlying t = some (.map kt et)) (hk : P.underlying kt = some (.int q)) (k : Int) (v : Value) :
    ∃ es clock, (Instr.mapUpdate t (.map (some b)) (.int q k) v).run P w = .ok () (ChangeMaps.setBlock w b (.map es clock)) ∧ MapIs (ChangeMaps.setBlock w b (.map es clock)) b q (lay L k v) := by
  obtain ⟨es, clock, hb, he, hn, hst0⟩ := h
  have h1 := findNow_lk (q := q) (k := k) es.toList L 0 he
  have hck := fun e => MapKept.run_checkKey (P := P) (w := w) (k := .int q k) hk rfl e 9999
  have hfk := MapKept.run_findKey (P := P) (w := w) hk h1
  have hlen : es.toList.length = L.length := by have := congrArg List.length he; simpa using this
  cases hl : lk L k 0 with
  | none =>
    rw [hl] at hfk
    refine ⟨es.push ⟨.int q k, v, clock⟩, clock + 1, ?_, es.push ⟨.int q k, v, clock⟩, clock + 1, ChangeMaps.heap_setBlock_same hb _, ?_, lay_nodup _ _ _ hn, ?_⟩
    · simp [Instr.mapUpdate, run_underlying ht, MapKept.run_getObj_map hb, hck, hfk, MapKept.run_setObj_map _ hb, Result.andThen, ChangeMaps.setBlock]
    · rw [lay_new _ (lk_none _ _ hl)]
      simp [he]
    · refine MapKept.stamped_push hst0 (fun x hx e => ?_)
      have hm : (x.key, x.val) ∈ L.map (fun p => (Value.int q p.1, p.2)) := by rw [← he]; exact List.mem_map.2 ⟨x, hx, rfl⟩
      obtain ⟨p, hp, e2⟩ := List.mem_map.1 hm
      simp only [Prod.mk.injEq] at e2
      rw [← e2.1] at e
      have hpk : p.1 = k := by simpa using e
      exact lk_none _ _ hl (List.mem_map.2 ⟨p, hp, hpk⟩)
  | some p =>
    obtain ⟨j, x⟩ := p
    rw [hl] at hfk
    obtain ⟨d, hd, hL⟩ := lk_spec L 0 j x hl
    have hjd : j = d := by omega
    subst hjd
    have hlt : j < L.length := (List.getElem?_eq_some_iff.1 hL).1
    have hje : j < es.size := by rw [← hlen] at hlt; simpa using hlt
    have hkey : es[j].key = .int q k := by
      have h5 := congrArg (fun l => l[j]?) he
      simp only [List.getElem?_map, hL, Option.map_some] at h5
      simp [hje] at h5
      exact h5.1
    refine ⟨es.modify j (fun e => { e with key := .int q k, val := v }), clock, ?_, es.modify j (fun e => { e with key := .int q k, val := v }), clock, ChangeMaps.heap_setBlock_same hb _, ?_, lay_nodup _ _ _ hn, ?_⟩
    · have hst := MapKept.run_keyThatStays (P := P) (w := w) (d := .int q) (k := .int q k) rfl
      simp [Instr.mapUpdate, run_underlying ht, MapKept.run_getObj_map hb, hck, hfk, MapKept.run_setObj_map _ hb, Result.andThen, ChangeMaps.setBlock, hje, hkey, hst]
    · rw [lay_old L j x hn hL]
      apply List.ext_getElem?
      intro i
      have h5 := congrArg (fun l => l[i]?) he
      simp only [List.getElem?_map] at h5
      simp only [List.getElem?_map, Array.getElem?_toList, Array.getElem?_modify, List.getElem?_set, Array.getElem?_toList] at h5 ⊢
      by_cases hij : j = i
      · subst hij
        simp [hje, hlt]
      · simp [hij, h5]
    · refine MapKept.stamped_modify hst0 j _ (fun _ _ => rfl) (fun e _ he => ?_)
      have : e = es[j] := by
        rw [Array.getElem?_eq_getElem hje] at he
        exact (Option.some.inj he).symm
      rw [this, hkey]

/-- 'delete(m, k)' -/
theorem MapIs.run_wipe (h : MapIs w b q L) (ht : P.underlying t = some (.map kt et)) (hk : P.underlying kt = some (.int q)) (k : Int) (ts : Array TypeId) (ty : TypeId) (hts : ts[0]? = some t) :
    ∃ es clock, (Builtin.delete_ ts ty #[.map (some b), .int q k]).run P w = .ok (.tuple #[]) (ChangeMaps.setBlock w b (.map es clock)) ∧ MapIs (ChangeMaps.setBlock w b (.map es clock)) b q (wipe L k) := by
  obtain ⟨es, clock, hb, he, hn, hst0⟩ := h
  have h1 := findNow_lk (q := q) (k := k) es.toList L 0 he
  have hck := fun e => MapKept.run_checkKey (P := P) (w := w) (k := .int q k) hk rfl e 9999
  have hfk := MapKept.run_findKey (P := P) (w := w) hk h1
  have hlen : es.toList.length = L.length := by have := congrArg List.length he; simpa using this
  cases hl : lk L k 0 with
  | none =>
    rw [hl] at hfk
    refine ⟨es, clock, ?_, es, clock, ChangeMaps.heap_setBlock_same hb _, ?_, wipe_nodup _ hn, hst0⟩
    · simp [Builtin.delete_, hts, run_underlying ht, MapKept.run_getObj_map hb, hck, hfk, MapKept.run_setObj_map _ hb, Result.andThen, ChangeMaps.setBlock]
    · rw [wipe_none (lk_none _ _ hl)]; exact he
  | some p =>
    obtain ⟨j, x⟩ := p
    rw [hl] at hfk
    obtain ⟨d, hd, hL⟩ := lk_spec L 0 j x hl
    have hjd : j = d := by omega
    subst hjd
    refine ⟨es.eraseIdxIfInBounds j, clock, ?_, es.eraseIdxIfInBounds j, clock, ChangeMaps.heap_setBlock_same hb _, ?_, wipe_nodup _ hn, MapKept.stamped_erase hst0 j⟩
    · simp [Builtin.delete_, hts, run_underlying ht, MapKept.run_getObj_map hb, hck, hfk, MapKept.run_setObj_map _ hb, Result.andThen, ChangeMaps.setBlock]
    · rw [wipe_at L j x hn hL]
      have e1 : (es.eraseIdxIfInBounds j).toList = es.toList.eraseIdx j := by simp
      rw [e1]
      apply List.ext_getElem?
      intro i
      have h5 : ∀ i : Nat, (es.toList.map (fun e => (e.key, e.val)))[i]? = (L.map (fun p => (Value.int q p.1, p.2)))[i]? := fun i => by rw [he]
      simp only [List.getElem?_map] at h5
      simp only [List.getElem?_map, List.getElem?_eraseIdx]
      split <;> exact h5 _

theorem MapIs.made (w : World) (q : IntKind) : MapIs (w.alloc (.map #[] 0)) w.heap.size q [] := ⟨#[], 0, (MapKept.heap_alloc w _).1, rfl, List.nodup_nil, MapKept.stamped_empty 0⟩
theorem MapIs.of_block {w' : World} (h : MapIs w b q L) (e : w'.heap[b]? = w.heap[b]?) : MapIs w' b q L := by
  obtain ⟨es, clock, hb, r⟩ := h
  exact ⟨es, clock, e.trans hb, r⟩
theorem MapIs.lt (h : MapIs w b q L) : b < w.heap.size := by
  obtain ⟨es, clock, hb, _⟩ := h
  exact (Array.getElem?_eq_some_iff.1 hb).1
end

/-! ### frames -/

/-- Outside the blocks of F, all that was there is as it was. -/
structure Kept (F : Nat → Prop) (w w' : World) : Prop where
  os : w'.os = w.os
  tape : w'.tape = w.tape
  output : w'.output = w.output
  size : w.heap.size ≤ w'.heap.size
  block : ∀ k, k < w.heap.size → ¬ F k → w'.heap[k]? = w.heap[k]?

theorem Kept.refl (F : Nat → Prop) (w : World) : Kept F w w := ⟨rfl, rfl, rfl, Nat.le_refl _, fun _ _ _ => rfl⟩
theorem Kept.trans {F : Nat → Prop} {a b c : World} (h : Kept F a b) (k : Kept F b c) : Kept F a c :=
  ⟨k.os.trans h.os, k.tape.trans h.tape, k.output.trans h.output, Nat.le_trans h.size k.size, fun i hi hn => (k.block i (Nat.lt_of_lt_of_le hi h.size) hn).trans (h.block i hi hn)⟩
/-- .. the second step may write what the first one made. -/
theorem Kept.trans' {F G : Nat → Prop} {a b c : World} (h : Kept F a b) (k : Kept G b c) (hg : ∀ i, G i → F i ∨ a.heap.size ≤ i) : Kept F a c :=
  ⟨k.os.trans h.os, k.tape.trans h.tape, k.output.trans h.output, Nat.le_trans h.size k.size, fun i hi hn => (k.block i (Nat.lt_of_lt_of_le hi h.size) (fun g => by rcases hg i g with h1 | h1; exact hn h1; omega)).trans (h.block i hi hn)⟩
theorem Kept.mono {F G : Nat → Prop} {a b : World} (h : Kept F a b) (hg : ∀ i, i < a.heap.size → F i → G i) : Kept G a b :=
  ⟨h.os, h.tape, h.output, h.size, fun i hi hn => h.block i hi (fun f => hn (hg i hi f))⟩
theorem Kept.alloc {F : Nat → Prop} {a w : World} (h : Kept F a w) (o : Obj) : Kept F a (w.alloc o) :=
  h.trans ⟨rfl, rfl, rfl, by simp, fun k hk _ => Below.heap_alloc _ _ _ hk⟩
theorem Kept.drew {F : Nat → Prop} {a w : World} (h : Kept F a w) : Kept F a w.drew := ⟨h.os, h.tape, h.output, h.size, h.block⟩
theorem Kept.of_drew {F : Nat → Prop} {a w : World} (h : Kept F a.drew w) : Kept F a w := ⟨h.os, h.tape, h.output, h.size, h.block⟩
theorem Kept.setCell {F : Nat → Prop} {a w : World} (h : Kept F a w) {p : Addr} (hp : F p.block ∨ a.heap.size ≤ p.block) (u : Value) : Kept F a (w.setCell p u) :=
  h.trans' (G := fun i => i = p.block) ⟨rfl, rfl, rfl, by simp, fun k _ hk => Below.heap_setCell _ _ _ _ hk⟩ (fun i e => by subst e; exact hp)
theorem Kept.setBlock {F : Nat → Prop} {a w : World} (h : Kept F a w) {b : Nat} (o' : Obj) (hp : F b ∨ a.heap.size ≤ b) : Kept F a (ChangeMaps.setBlock w b o') :=
  h.trans' (G := fun i => i = b) ⟨rfl, rfl, rfl, by simp [ChangeMaps.setBlock], fun k _ hk => by simp [ChangeMaps.setBlock, Ne.symm hk]⟩ (fun i e => by subst e; exact hp)
theorem Kept.grown {F : Nat → Prop} {a w w' : World} {row : Option Nat} (h : Kept F a w) (hg : w.grownBy w' row) (hp : ∀ k, row = some k → F k ∨ a.heap.size ≤ k) : Kept F a w' :=
  h.trans' (G := fun i => some i = row) ⟨hg.os, hg.tape, hg.output, hg.size, fun k hk hn => hg.block k hk hn⟩ (fun i e => hp i e.symm)
theorem Kept.of_below {a w : World} (h : Below a.heap.size a w) (F : Nat → Prop) : Kept F a w := ⟨h.os, h.tape, h.output, h.size, fun k hk _ => h.block k hk⟩
theorem Kept.below {F : Nat → Prop} {a w : World} (h : Kept F a w) {B : Nat} (hB : B ≤ a.heap.size) (hF : ∀ i, F i → B ≤ i) : Below B a w :=
  ⟨h.os, h.tape, h.output, h.size, fun k hk => h.block k (by omega) (fun f => by have := hF k f; omega)⟩
theorem Kept.cell {F : Nat → Prop} {a w : World} (h : Kept F a w) {p : Addr} {v : Value} (hc : a.cell? p = some v) (hp : ¬ F p.block) : w.cell? p = some v :=
  (World.cell?_of_block (h.block _ (World.block_lt_of_cell? _ _ hc) hp)).trans hc
theorem Kept.frozen {F : Nat → Prop} {a w : World} (h : Kept F a w) {p : Addr} (hl : p.block < a.heap.size) (hp : ¬ F p.block) : w.frozen? p = a.frozen? p :=
  World.frozen?_of_block (h.block _ hl hp)

/-! ### a block of cells -/
theorem row_cell {w : World} {b : Nat} {cs : Array Value} {t : TypeId} (h : w.heap[b]? = some (.cells cs t (0, 0))) (i : Nat) : w.cell? ⟨b, i, none⟩ = cs[i]? := cell_of_row w b i cs t (0, 0) h
theorem row_free {w : World} {b : Nat} {cs : Array Value} {t : TypeId} (h : w.heap[b]? = some (.cells cs t (0, 0))) (i : Nat) : w.frozen? ⟨b, i, none⟩ = false := by
  simp [World.frozen?, h]
theorem row_lt {w : World} {b : Nat} {o : Obj} (h : w.heap[b]? = some o) : b < w.heap.size := (Array.getElem?_eq_some_iff.1 h).1
theorem row_set {w : World} {b : Nat} {cs : Array Value} {t : TypeId} {fz : Nat × Nat} (h : w.heap[b]? = some (.cells cs t fz)) (i : Nat) (v : Value) : (w.setCell ⟨b, i, none⟩ v).heap[b]? = some (.cells (cs.setIfInBounds i v) t fz) := by
  simp only [World.setCell, Array.getElem?_modify, h]
  simp
theorem row_new (w : World) (o : Obj) : (w.alloc o).heap[w.heap.size]? = some o := heap_alloc_new w o
theorem row_old {w : World} {b : Nat} {o : Obj} (h : w.heap[b]? = some o) (o' : Obj) : (w.alloc o').heap[b]? = some o := by
  rw [Below.heap_alloc _ _ _ (row_lt h)]; exact h
theorem row_other {w : World} {b : Nat} {o : Obj} (h : w.heap[b]? = some o) {a : Addr} (ha : b ≠ a.block) (v : Value) : (w.setCell a v).heap[b]? = some o := by
  rw [Below.heap_setCell _ _ _ _ ha]; exact h
end Go.Proofs.Ytpjhdpfaogdboaa
