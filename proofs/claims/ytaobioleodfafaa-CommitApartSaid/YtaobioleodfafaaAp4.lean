/- Texts of this claim, merged: B. -/
import Derived.Test.YtaobioleodfafaaAp1
import Derived.Test.YtaobioleodfafaaAp2
import Derived.Test.YtaobioleodfafaaAp3
/- A book with one run; New, Begin. -/
namespace Go.Proofs.Ytaobioleodfafaa
open Go.RowKit
def In (B T : Nat) (i : Nat) : Prop := B ≤ i ∧ i < T
def ptr (b : Nat) : Value := .pointer (some ⟨b, 0, none⟩)
def pents (ns : List Int) (pb : Int → Nat) : List (Int × Value) := ns.map fun v => (v, ptr (pb v))
theorem look_map (f : Int → Value) : ∀ (l : List Int) (v : Int), look (l.map fun v => (v, f v)) v = if v ∈ l then some (f v) else none
  | [], v => rfl
  | a :: l, v => by
    simp only [List.map_cons, look, look_map f l v, List.mem_cons]
    by_cases h : v = a
    · subst h; simp
    · simp [h]
structure RunAt (B T : Nat) (w : World) (rb mp : Nat) (ns : List Int) (pb : Int → Nat) (Y : Int → Bool) (st : Int) : Prop where
  obj : w.heap[rb]? = some (.cells #[.map (some mp), .int .i64 st] 61 (0, 0))
  map : MapIs w mp .u8 (pents ns pb)
  part : ∀ v ∈ ns, w.heap[pb v]? = some (.cells #[.bool (Y v), .bool false] 58 (0, 0))
  inj : ∀ a ∈ ns, ∀ b ∈ ns, pb a = pb b → a = b
  inn : In B T rb ∧ In B T mp ∧ ∀ v ∈ ns, In B T (pb v)
/-- the book, its map of runs -/
structure BookAt (B T : Nat) (w : World) (bb m1 : Nat) (L : List (Tx × Value)) : Prop where
  obj : ∃ m2, w.heap[bb]? = some (.cells #[.map (some m1), .map (some m2)] 54 (0, 0))
  map : MapT w m1 L
  inn : In B T bb ∧ In B T m1
theorem RunAt.kept {B T : Nat} {w w' : World} {rb mp : Nat} {ns : List Int} {pb : Int → Nat} {Y : Int → Bool} {st : Int} {F : Nat → Prop} (h : RunAt B T w rb mp ns pb Y st) (k : Kept F w w') (hF : ∀ i, In B T i → ¬ F i) : RunAt B T w' rb mp ns pb Y st where
  obj := (k.block _ (row_lt h.obj) (hF _ h.inn.1)).trans h.obj
  map := h.map.of_block (k.block _ h.map.lt (hF _ h.inn.2.1))
  part := fun v hv => (k.block _ (row_lt (h.part v hv)) (hF _ (h.inn.2.2 v hv))).trans (h.part v hv)
  inj := h.inj
  inn := h.inn
theorem RunAt.same {B T : Nat} {w w' : World} {rb mp : Nat} {ns : List Int} {pb : Int → Nat} {Y : Int → Bool} {st : Int} (h : RunAt B T w rb mp ns pb Y st) (k : Kept (fun _ => False) w w') : RunAt B T w' rb mp ns pb Y st := h.kept k (fun _ _ => id)
theorem BookAt.kept {B T : Nat} {w w' : World} {bb m1 : Nat} {L : List (Tx × Value)} {F : Nat → Prop} (h : BookAt B T w bb m1 L) (k : Kept F w w') (hF : ∀ i, In B T i → ¬ F i) : BookAt B T w' bb m1 L where
  obj := by obtain ⟨m2, h1⟩ := h.obj; exact ⟨m2, (k.block _ (row_lt h1) (hF _ h.inn.1)).trans h1⟩
  map := h.map.of_block (k.block _ h.map.lt (hF _ h.inn.2))
  inn := h.inn
theorem BookAt.same {B T : Nat} {w w' : World} {bb m1 : Nat} {L : List (Tx × Value)} (h : BookAt B T w bb m1 L) (k : Kept (fun _ => False) w w') : BookAt B T w' bb m1 L := h.kept k (fun _ _ => id)
theorem BookAt.mono {B T T' : Nat} {w : World} {bb m1 : Nat} {L : List (Tx × Value)} (h : BookAt B T w bb m1 L) (hT : T ≤ T') : BookAt B T' w bb m1 L := ⟨h.obj, h.map, ⟨h.inn.1.1, Nat.lt_of_lt_of_le h.inn.1.2 hT⟩, ⟨h.inn.2.1, Nat.lt_of_lt_of_le h.inn.2.2 hT⟩⟩
theorem mlen_run {w : World} {b : Nat} {q : IntKind} {L : List (Int × Value)} (h : MapIs w b q L) {t k e : TypeId} (ht : Try.prog.underlying t = some (.map k e)) (ty : TypeId) : (Builtin.len_ #[t] ty #[.map (some b)]).run Try.prog w = .ok (.int .i64 L.length) w := by
  obtain ⟨es, clock, hb, he, _, _⟩ := h
  have hl : es.size = L.length := by have := congrArg List.length he; simpa using this
  simp [Builtin.len_, run_underlying ht, MapKept.run_getObj_map hb, Result.andThen, goInt, hl]
theorem wpList_mlen {w : World} {ops : Array Oper} {rest : List Oper} {o : Oper} {a : Act} {Q : Exit → Act → World → Prop} (hgd : o.guard = none) (x : Operand) (t k e : TypeId) (ho : o.op = .call { callee := .builtin .len, args := #[x], argTypes := #[t] }) (b : Nat) (hx : a.eval x = .map (some b)) (ht : Try.prog.underlying t = some (.map k e)) (q : IntKind) (L : List (Int × Value)) (hL : MapIs w b q L)
    (h : wpList Try.prog ops Q rest (a.put o.dst (.int .i64 L.length)) w) : wpList Try.prog ops Q (o :: rest) a w := by
  refine wpList_run (v := .int .i64 L.length) hgd ?_ h
  simp [execOp, ho, resolve, invoke, builtin, hx, mlen_run hL ht, Result.andThen]
section
variable {P : Program} {w : World} {ops : Array Oper} {rest : List Oper} {o : Oper} {a : Act} {Q : Exit → Act → World → Prop}
theorem wpList_skipK {w' : World} (hgd : o.guard = none) (hrun : (execOp a.eval o).run P w = .ok .skip w') (h : wpList P ops Q rest (a.put o.dst undef) w') : wpList P ops Q (o :: rest) a w := by
  refine wpList_plain hgd fun K hK => ?_
  unfold Oper.wp
  rw [hrun]
  exact hK _ _ h
/-- m[k] = v -/
theorem wpList_lay (hgd : o.guard = none) (t kt et : TypeId) (xm xk xv : Operand) (ho : o.op = .mapUpdate t xm xk xv) (b : Nat) (q : IntKind) (k : Int) (v : Value) (hm : a.eval xm = .map (some b)) (hk : a.eval xk = .int q k) (hv : a.eval xv = v)
    (ht : P.underlying t = some (.map kt et)) (hkt : P.underlying kt = some (.int q)) (L : List (Int × Value)) (hL : MapIs w b q L)
    (h : ∀ w', MapIs w' b q (lay L k v) → Kept (fun g => g = b) w w' → wpList P ops Q rest (a.put o.dst undef) w') : wpList P ops Q (o :: rest) a w := by
  obtain ⟨es, clock, hr, hM⟩ := hL.run_lay ht hkt k v
  refine wpList_skipK hgd ?_ (h _ hM ((Kept.refl _ _).setBlock _ (.inl rfl)))
  simp [execOp, ho, hm, hk, hv, hr, Result.andThen]
end
set_option maxHeartbeats 400000 in
theorem new_any (w : World) : Calls Try.prog 8 #[] w fun e w' => e = .returned (ptr (w.heap.size + 2)) ∧ BookAt w.heap.size (w.heap.size + 3) w' (w.heap.size + 2) w.heap.size [] ∧ Kept (fun _ => False) w w' := by
  have hmm := @run_makeMap Try.prog
  go_enter Try.func8, Try.ntmps8
  go_wp2
  go_ret
  refine ⟨rfl, ⟨⟨w.heap.size + 1, ?_⟩, ?_, by simp [In], by simp [In]⟩, (((Kept.refl _ _).alloc _).alloc _).alloc _⟩
  · simpa using row_new ((w.alloc (.map #[] 0)).alloc (.map #[] 0)) (.cells #[.map (some w.heap.size), .map (some (w.heap.size + 1))] 54)
  · exact ((MapT.made w).of_block (Below.heap_alloc _ _ _ (by simp))).of_block (Below.heap_alloc _ _ _ (by simp; omega))
end Go.Proofs.Ytaobioleodfafaa
