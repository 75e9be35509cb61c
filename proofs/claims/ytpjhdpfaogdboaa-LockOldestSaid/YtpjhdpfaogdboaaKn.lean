/- Scripts as plain data; the plain laws of LockApart, LockMoves, LockFast, LockOldest; known. -/
import Derived.Test.YtpjhdpfaogdboaaV
import Derived.Test.YtpjhdpfaogdboaaArg
namespace Go.Proofs.Ytpjhdpfaogdboaa
set_option linter.unusedSimpArgs false
set_option linter.unusedVariables false
open Go.RowKit
structure OpD where
  kd : Int
  t : Tx
  age : Int
  ws : List Wt
/-- an operation that reads so -/
structure OpOk (F : Nat → Prop) (w : World) (x : OpD) (bo : Option Addr) (bc : Nat) : Prop where
  b : Lies F w 2 (.slice bo x.ws.length bc) x.ws.length (wcells x.ws)
  k : 0 ≤ x.kd ∧ x.kd ≤ 255
  a : 0 ≤ x.age
  l : x.ws.length * 8 ≤ 140737488351232
  p : ∀ y ∈ x.ws, 0 ≤ y.1 ∧ 0 ≤ y.2
def opCells (x : OpD) (bo : Option Addr) (bc : Nat) : List Value := [.int .u8 x.kd, .int .u8 x.t.1, .int .u32 x.t.2.1, .int .u32 x.t.2.2, .int .u64 x.age, .slice bo x.ws.length bc]
/-- a slice of operations, outside F -/
def ScrAt (F : Nat → Prop) (w : World) (a : Option Addr) (n c : Nat) (ops : List OpD) : Prop :=
  ops.length = n ∧ n ≤ c ∧ c ≤ maxLen ∧ ∀ (k : Nat) (x : OpD), ops[k]? = some x → ∃ b off bo bc, a = some ⟨b, off, none⟩ ∧ ¬ F b ∧ (∀ j u, (opCells x bo bc)[j]? = some u → w.cell? ⟨b, off + k * 6 + j, none⟩ = some u) ∧ OpOk F w x bo bc
theorem OpOk.kept {F G : Nat → Prop} {w w' : World} {x : OpD} {bo : Option Addr} {bc : Nat} (h : OpOk F w x bo bc) (k : Kept G w w') (hg : ∀ g, g < w.heap.size → G g → F g) : OpOk F w' x bo bc := ⟨h.b.kept k hg, h.k, h.a, h.l, h.p⟩
theorem ScrAt.kept {F G : Nat → Prop} {w w' : World} {a : Option Addr} {n c : Nat} {ops : List OpD} (h : ScrAt F w a n c ops) (k : Kept G w w') (hg : ∀ g, g < w.heap.size → G g → F g) : ScrAt F w' a n c ops := by
  obtain ⟨h0, h1, h2, h3⟩ := h
  refine ⟨h0, h1, h2, fun j x hx => ?_⟩
  obtain ⟨b, off, bo, bc, q1, q2, q3, q4⟩ := h3 j x hx
  refine ⟨b, off, bo, bc, q1, q2, fun i u hu => ?_, q4.kept k hg⟩
  have hc := q3 i u hu
  exact k.cell hc (fun hG => q2 (hg b (World.block_lt_of_cell? _ _ hc) hG))
theorem cells8 : Try.prog.cellsOf 5 = 1 := by kernel_rfl
theorem cells32 : Try.prog.cellsOf 26 = 1 := by kernel_rfl
theorem cells64 : Try.prog.cellsOf 34 = 1 := by kernel_rfl
theorem cellsT : Try.prog.cellsOf 32 = 3 := by kernel_rfl
theorem cellsWs : Try.prog.cellsOf 37 = 1 := by kernel_rfl
theorem cellsW : Try.prog.cellsOf 36 = 2 := by kernel_rfl
theorem bytesW : Try.prog.bytesOf 36 = 8 := by kernel_rfl
theorem cellsOp : Try.prog.cellsOf 43 = 6 := by kernel_rfl
theorem wf8 {n : Int} (h : (Lit.int .u8 n).wf = true) : 0 ≤ n ∧ n ≤ 255 := by
  simp [Lit.wf, IntKind.min, IntKind.max, IntKind.signed, IntKind.bits] at h; omega
theorem wf32 {n : Int} (h : (Lit.int .u32 n).wf = true) : 0 ≤ n := by
  simp [Lit.wf, IntKind.min, IntKind.max, IntKind.signed, IntKind.bits] at h; omega
theorem wf64 {n : Int} (h : (Lit.int .u64 n).wf = true) : 0 ≤ n := by
  simp [Lit.wf, IntKind.min, IntKind.max, IntKind.signed, IntKind.bits] at h; omega
theorem want_read {w : World} {es : List Value} (hl : es.length = 2) (h : Rd Try.prog w 36 es) : ∃ x : Wt, es = wcell x ∧ (0 ≤ x.1 ∧ 0 ≤ x.2) := by
  match es, hl with
  | [x0, x1], _ =>
    have h0 : Rd Try.prog w 26 [x0] := h.field Try.underlying36 0 26 0 1 rfl cells32
    have h1 : Rd Try.prog w 5 [x1] := h.field Try.underlying36 1 5 1 1 rfl cells8
    obtain ⟨a, e0, w0⟩ := h0.int Try.underlying26
    obtain ⟨b, e1, w1⟩ := h1.int Try.underlying5
    simp only [List.cons.injEq, and_true] at e0 e1
    subst e0 e1
    exact ⟨(a, b), rfl, wf32 w0, (wf8 w1).1⟩
theorem wcell_one (x : Wt) : ∀ u ∈ wcell x, u.oneCell' = true := by
  intro u hu
  simp [wcell] at hu
  rcases hu with rfl | rfl <;> rfl
/-- wants as an argument -/
theorem wants_read {w : World} {a : Option Addr} {len cap : Nat} (h : Rd Try.prog w 37 [.slice a len cap]) : ∃ l : List Wt, l.length = len ∧ Lies (fun g => w.heap.size ≤ g) w 2 (.slice a len cap) len (wcells l) ∧ len * 8 ≤ 140737488351232 ∧ ∀ y ∈ l, 0 ≤ y.1 ∧ 0 ≤ y.2 := by
  obtain ⟨l, h1, h2, h3, h4⟩ := lies_of wcell 2 (fun _ => rfl) (by decide) wcell_one (0, 0) Try.underlying37 cellsW (fun y => 0 ≤ y.1 ∧ 0 ≤ y.2) (fun es h1 h2 => want_read h1 h2) h
  rw [bytesW] at h3
  exact ⟨l, h1, h2, by unfold reachBytes at h3; omega, h4⟩
theorem op_read {w : World} {es : List Value} (hl : es.length = 6) (h : Rd Try.prog w 43 es) : ∃ (x : OpD) (bo : Option Addr) (bc : Nat), es = opCells x bo bc ∧ OpOk (fun g => w.heap.size ≤ g) w x bo bc := by
  match es, hl with
  | [x0, x1, x2, x3, x4, x5], _ =>
    have h0 : Rd Try.prog w 5 [x0] := h.field Try.underlying43 0 5 0 1 rfl cells8
    have h1 : Rd Try.prog w 32 [x1, x2, x3] := h.field Try.underlying43 1 32 1 3 rfl cellsT
    have h2 : Rd Try.prog w 34 [x4] := h.field Try.underlying43 2 34 4 1 rfl cells64
    have h3 : Rd Try.prog w 37 [x5] := h.field Try.underlying43 3 37 5 1 rfl cellsWs
    have g0 : Rd Try.prog w 5 [x1] := h1.field Try.underlying32 0 5 0 1 rfl cells8
    have g1 : Rd Try.prog w 26 [x2] := h1.field Try.underlying32 1 26 1 1 rfl cells32
    have g2 : Rd Try.prog w 26 [x3] := h1.field Try.underlying32 2 26 2 1 rfl cells32
    obtain ⟨a, e0, w0⟩ := h0.int Try.underlying5
    obtain ⟨t1, e1, _⟩ := g0.int Try.underlying5
    obtain ⟨t2, e2, _⟩ := g1.int Try.underlying26
    obtain ⟨t3, e3, _⟩ := g2.int Try.underlying26
    obtain ⟨b, e4, w4⟩ := h2.int Try.underlying34
    obtain ⟨ao, n, c, e5⟩ := h3.isSlice Try.underlying37
    simp only [List.cons.injEq, and_true] at e0 e1 e2 e3 e4 e5
    subst e0 e1 e2 e3 e4 e5
    obtain ⟨l, rfl, q1, q2, q3⟩ := wants_read h3
    exact ⟨⟨a, (t1, t2, t3), b, l⟩, ao, c, rfl, q1, wf8 w0, wf64 w4, q2, q3⟩
theorem scr_read {w : World} {a : Option Addr} {len cap : Nat} (h : Rd Try.prog w 40 [.slice a len cap]) : ∃ ops : List OpD, ScrAt (fun g => w.heap.size ≤ g) w a len cap ops := by
  obtain ⟨q1, q2, q3, q4, q5⟩ := h.row Try.underlying40 cellsOp (by decide)
  have hex : ∀ i, ∃ x : OpD, i < len → ∃ b off bo bc, a = some ⟨b, off, none⟩ ∧ ¬ w.heap.size ≤ b ∧ (∀ j u, (opCells x bo bc)[j]? = some u → w.cell? ⟨b, off + i * 6 + j, none⟩ = some u) ∧ OpOk (fun g => w.heap.size ≤ g) w x bo bc := by
    intro i
    by_cases hi : i < len
    · obtain ⟨b, off, es, e1, e2, e3, e4, e5⟩ := q5 i (by omega)
      obtain ⟨x, bo, bc, rfl, hok⟩ := op_read e3 e5
      refine ⟨x, fun _ => ⟨b, off, bo, bc, e1, by omega, fun j u hu => ?_, hok⟩⟩
      have hj : j < 6 := by have := (List.getElem?_eq_some_iff.1 hu).1; simpa [opCells] using this
      rw [e4 j hj, hu]
    · exact ⟨⟨0, (0, 0, 0), 0, []⟩, fun h => absurd h hi⟩
  refine ⟨(List.range len).map fun i => (hex i).choose, by simp, by simpa using q1, q2, fun k x hx => ?_⟩
  rw [List.getElem?_map, Option.map_eq_some_iff] at hx
  obtain ⟨i, hi, rfl⟩ := hx
  obtain ⟨hk, e⟩ := List.getElem?_eq_some_iff.1 hi
  simp at hk e
  subst e
  exact (hex k).choose_spec hk
/-! ### plain: what a script does -/
def stepL (h : Bool) (L : List Ow) (x : OpD) : List Ow := if x.kd = 0 then askP L x.t x.age x.ws else if x.kd = 1 then (if h = true then holdP L x.t else L) else if x.kd = 2 then relP L x.t else L
def runL (h : Bool) (L : List Ow) (ops : List OpD) : List Ow := ops.foldl (stepL h) L
theorem runL_snoc (h : Bool) (L : List Ow) (ops : List OpD) (x : OpD) : runL h L (ops ++ [x]) = stepL h (runL h L ops) x := by unfold runL; rw [List.foldl_append]; rfl
theorem stepL_inv (h : Bool) {L : List Ow} (hL : Inv L) (x : OpD) : Inv (stepL h L x) := by
  unfold stepL
  split
  · exact askP_inv hL _ _ _
  · split
    · split
      · exact holdP_inv hL _
      · exact hL
    · split
      · exact relP_inv hL _
      · exact hL
theorem stepL_len (h : Bool) (L : List Ow) (x : OpD) : (stepL h L x).length ≤ L.length + 1 := by
  unfold stepL
  split
  · exact askP_len _ _ _ _
  · split
    · split
      · rw [holdP_len]; omega
      · omega
    · split
      · have := relP_len L x.t; omega
      · omega
theorem runL_inv (h : Bool) (ops : List OpD) : ∀ {L : List Ow}, Inv L → Inv (runL h L ops) := by
  induction ops with
  | nil => exact fun hL => hL
  | cons x ops ih => exact fun hL => ih (stepL_inv h hL x)
theorem runL_len (h : Bool) (ops : List OpD) : ∀ (L : List Ow), (runL h L ops).length ≤ L.length + ops.length := by
  induction ops with
  | nil => exact fun L => Nat.le_refl _
  | cons x ops ih =>
    intro L
    have h1 := ih (stepL h L x)
    have h2 := stepL_len h L x
    show (runL h (stepL h L x) ops).length ≤ _
    rw [List.length_cons]
    omega
theorem Inv.cnt {L : List Ow} (h : Inv L) : Go.Proofs.Ytpjhdpfaogdboaa.cnt L ≤ 40 * L.length := cnt_bound h.ok
/-! ### known -/
def knS (l : List Tx) (x : OpD) : List Tx := if x.t ∈ l then l else l ++ [x.t]
def knP (ops : List OpD) : List Tx := ops.foldl knS []
theorem knP_snoc (ops : List OpD) (x : OpD) : knP (ops ++ [x]) = knS (knP ops) x := by unfold knP; rw [List.foldl_append]; rfl
theorem knS_nodup {l : List Tx} (h : l.Nodup) (x : OpD) : (knS l x).Nodup := by
  unfold knS
  split
  · exact h
  · rename_i hn
    rw [List.nodup_append]
    exact ⟨h, by simp, fun a ha b hb e => by simp at hb; rw [e, hb] at ha; exact hn ha⟩
theorem knF_nodup (ops : List OpD) : ∀ l : List Tx, l.Nodup → (ops.foldl knS l).Nodup := by
  induction ops with
  | nil => exact fun l h => h
  | cons x ops ih => exact fun l h => ih _ (knS_nodup h x)
theorem knP_nodup (ops : List OpD) : (knP ops).Nodup := knF_nodup ops [] List.nodup_nil
theorem mem_knS {l : List Tx} {x : OpD} {t : Tx} : t ∈ knS l x ↔ t ∈ l ∨ t = x.t := by
  unfold knS
  split
  · rename_i h
    exact ⟨.inl, fun h2 => h2.elim id (fun e => e ▸ h)⟩
  · rw [List.mem_append, List.mem_singleton]
theorem mem_knF (ops : List OpD) : ∀ (l : List Tx) (t : Tx), t ∈ ops.foldl knS l ↔ t ∈ l ∨ ∃ x ∈ ops, x.t = t := by
  induction ops with
  | nil => intro l t; simp
  | cons x ops ih =>
    intro l t
    rw [List.foldl_cons, ih, mem_knS]
    constructor
    · rintro ((h | h) | ⟨y, hy, h⟩)
      · exact .inl h
      · exact .inr ⟨x, List.mem_cons_self, h.symm⟩
      · exact .inr ⟨y, List.mem_cons_of_mem _ hy, h⟩
    · rintro (h | ⟨y, hy, h⟩)
      · exact .inl (.inl h)
      · rcases List.mem_cons.1 hy with rfl | hy
        · exact .inl (.inr h.symm)
        · exact .inr ⟨y, hy, h⟩
theorem mem_knP {ops : List OpD} {t : Tx} : t ∈ knP ops ↔ ∃ x ∈ ops, x.t = t := by
  unfold knP
  rw [mem_knF]
  simp
/-! ### settle, by members -/
theorem mem_setAt {L : List Ow} {k : Nat} {o o' x : Ow} (hk : L[k]? = some o) (h : x ∈ L.set k o') : x = o' ∨ x ∈ L := by
  rcases List.mem_or_eq_of_mem_set h with h | h
  · exact .inr h
  · exact .inl h
theorem setK_mem (L : List Ow) : ∀ k, k ≤ L.length → (∀ x ∈ (setK L k).1, ∃ o ∈ L, x = o ∨ x = grant o ∧ 0 < o.ws.length) ∧ (∀ j, k ≤ j → (setK L k).1[j]? = L[j]?)
  | 0, _ => ⟨fun x hx => ⟨x, hx, .inl rfl⟩, fun _ _ => rfl⟩
  | k + 1, hk => by
    obtain ⟨h1, h2⟩ := setK_mem L k (by omega)
    have hs : setK L (k + 1) = stepS (setK L k) k := rfl
    have h3 := h2 k (Nat.le_refl _)
    obtain ⟨o, ho⟩ : ∃ o, L[k]? = some o := ⟨_, List.getElem?_eq_getElem (by omega)⟩
    rw [ho] at h3
    rw [hs]
    by_cases hg : goS (setK L k).1 k o = true
    · rw [stepS_eq h3 hg]
      refine ⟨fun x hx => ?_, fun j hj => ?_⟩
      · rcases mem_setAt h3 hx with rfl | hx
        · exact ⟨o, List.mem_of_getElem? ho, .inr ⟨rfl, (goS_iff.1 hg).1⟩⟩
        · exact h1 x hx
      · rw [List.getElem?_set_ne (by omega)]
        exact h2 j (by omega)
    · rw [stepS_id h3 (by simpa using hg)]
      exact ⟨h1, fun j hj => h2 j (by omega)⟩
where
  stepS_eq {S : List Ow × List Tx} {k : Nat} {o : Ow} (h : S.1[k]? = some o) (hg : goS S.1 k o = true) : stepS S k = (S.1.set k (grant o), S.2 ++ [o.tx]) := by
    unfold stepS
    rw [h]
    simp [hg]
  stepS_id {S : List Ow × List Tx} {k : Nat} {o : Ow} (h : S.1[k]? = some o) (hg : goS S.1 k o = false) : stepS S k = S := by
    unfold stepS
    rw [h]
    simp [hg]
theorem settled_mem {L : List Ow} {x : Ow} (h : x ∈ (settled L).1) : ∃ o ∈ L, x = o ∨ x = grant o ∧ 0 < o.ws.length := (setK_mem L L.length (Nat.le_refl _)).1 x h
/-- who doesn't wait stays as it is -/
theorem setK_stay {L : List Ow} {o : Ow} (ho : o ∈ L) (hw : o.ws = []) : ∀ k, o ∈ (setK L k).1
  | 0 => ho
  | k + 1 => by
    have ih := setK_stay ho hw k
    show o ∈ (stepS (setK L k) k).1
    unfold stepS
    split
    · rename_i y hy
      split
      · rename_i hg
        obtain ⟨j, hj⟩ := List.getElem?_of_mem ih
        have hne : k ≠ j := fun e => by
          subst e
          rw [hj] at hy
          obtain rfl := Option.some.inj hy
          have := (goS_iff.1 hg).1
          rw [hw] at this
          simp at this
        exact List.mem_of_getElem? (i := j) (by rw [List.getElem?_set_ne hne]; exact hj)
      · exact ih
    · exact ih
theorem settled_stay {L : List Ow} {o : Ow} (ho : o ∈ L) (hw : o.ws = []) : o ∈ (settled L).1 := setK_stay ho hw _
/-! ### whose owners there are -/
theorem askP_tx {L : List Ow} {t : Tx} {age : Int} {ws : List Wt} {x : Ow} (h : x ∈ askP L t age ws) : x.tx = t ∨ ∃ o ∈ L, o.tx = x.tx := by
  unfold askP at h
  split at h
  · have h1 : x.tx ∈ (settled (askL L (whoO L t age) ws)).1.map (·.tx) := List.mem_map.2 ⟨x, h, rfl⟩
    rw [settled_txs] at h1
    obtain ⟨y, hy, e⟩ := List.mem_map.1 h1
    rcases mem_askL.1 hy with rfl | ⟨hy, _, _⟩
    · exact .inl (e.symm.trans whoO_tx)
    · exact .inr ⟨y, hy, e⟩
  · exact .inr ⟨x, h, rfl⟩
theorem relP_txs (L : List Ow) (t : Tx) : (relP L t).map (·.tx) = (L.map (·.tx)).filter fun u => decide (u ≠ t) := by
  unfold relP
  cases hf : findO L t with
  | none =>
    simp only [Option.isSome_none, Bool.false_eq_true, if_false]
    rw [eq_comm, List.filter_eq_self]
    intro u hu
    obtain ⟨x, hx, rfl⟩ := List.mem_map.1 hu
    simpa using findO_none hf x hx
  | some o =>
    simp only [Option.isSome_some, if_true]
    rw [settled_txs]
    unfold dropO
    rw [List.filter_map]
    rfl
theorem relP_tx {L : List Ow} {t : Tx} {x : Ow} (h : x ∈ relP L t) : x.tx ≠ t ∧ ∃ o ∈ L, o.tx = x.tx := by
  have h1 : x.tx ∈ (relP L t).map (·.tx) := List.mem_map.2 ⟨x, h, rfl⟩
  rw [relP_txs, List.mem_filter, decide_eq_true_eq] at h1
  obtain ⟨y, hy, e⟩ := List.mem_map.1 h1.1
  exact ⟨h1.2, y, hy, e⟩
theorem holdP_tx {L : List Ow} {t : Tx} {x : Ow} (h : x ∈ holdP L t) : ∃ o ∈ L, o.tx = x.tx := by
  unfold holdP at h
  split at h
  · obtain ⟨y, hy, rfl⟩ := List.mem_map.1 h
    exact ⟨y, hy, (fastO_tx _ _).symm⟩
  · exact ⟨x, h, rfl⟩
theorem stepL_tx {h : Bool} {L : List Ow} {x : OpD} {o : Ow} (ho : o ∈ stepL h L x) : o.tx = x.t ∨ ∃ y ∈ L, y.tx = o.tx := by
  unfold stepL at ho
  split at ho
  · exact askP_tx ho
  · split at ho
    · split at ho
      · exact .inr (holdP_tx ho)
      · exact .inr ⟨o, ho, rfl⟩
    · split at ho
      · exact .inr (relP_tx ho).2
      · exact .inr ⟨o, ho, rfl⟩
theorem runL_tx (h : Bool) (ops : List OpD) : ∀ {L : List Ow} {o : Ow}, o ∈ runL h L ops → (∃ x ∈ ops, x.t = o.tx) ∨ ∃ y ∈ L, y.tx = o.tx := by
  induction ops with
  | nil => exact fun ho => .inr ⟨_, ho, rfl⟩
  | cons x ops ih =>
    intro L o ho
    rcases ih (L := stepL h L x) ho with ⟨y, hy, e⟩ | ⟨y, hy, e⟩
    · exact .inl ⟨y, List.mem_cons_of_mem _ hy, e⟩
    · rcases stepL_tx hy with e2 | ⟨z, hz, e2⟩
      · exact .inl ⟨x, List.mem_cons_self, e2.symm.trans e⟩
      · exact .inr ⟨z, hz, e2.trans e⟩
/-! ### LockApart -/
theorem locksP_apart {L : List Ow} (h : Inv L) {a b : Tx} (hab : a ≠ b) : clash (locksP L a) (locksP L b) = false := by
  unfold locksP
  cases ha : findO L a with
  | none => exact clash_nil' _
  | some x =>
    cases hb : findO L b with
    | none => exact clash_nil _
    | some y =>
      obtain ⟨x1, x2⟩ := findO_mem ha
      obtain ⟨y1, y2⟩ := findO_mem hb
      exact h.apart x x1 y y1 (by rw [x2, y2]; exact hab)
/-! ### LockMoves -/
theorem someone {L : List Ow} (h : Inv L) (hn : 0 < L.length) : ∃ o ∈ L, o.ws = [] := by
  refine Classical.byContradiction fun hc => ?_
  have hall : ∀ o ∈ L, 0 < o.ws.length := fun o ho => by
    rcases Nat.eq_zero_or_pos o.ws.length with h0 | h0
    · exact absurd ⟨o, ho, List.eq_nil_of_length_eq_zero h0⟩ hc
    · exact h0
  obtain ⟨a, ha⟩ : ∃ a, L[0]? = some a := ⟨_, List.getElem?_eq_getElem hn⟩
  have ham := List.mem_of_getElem? ha
  have hd := h.done 0 a hn ha
  have hg : goS L 0 a = true := goS_iff.2 ⟨hall a ham, fun x hx hne => by
    obtain ⟨j, hj⟩ := List.getElem?_of_mem hx
    have hj0 : 0 < j := by
      rcases Nat.eq_zero_or_pos j with e | e
      · rw [e, ha] at hj
        exact absurd (congrArg Ow.tx (Option.some.inj hj).symm) hne
      · exact e
    obtain ⟨l1, e1⟩ := List.getElem?_eq_some_iff.1 ha
    obtain ⟨l2, e2⟩ := List.getElem?_eq_some_iff.1 hj
    have hlt := List.pairwise_iff_getElem.1 h.srt 0 j l1 l2 hj0
    rw [e1, e2] at hlt
    have hnf : x.fast = false := by
      cases hf : x.fast with
      | false => rfl
      | true =>
        have := hall x hx
        rw [h.fst x hx hf] at this
        simp at this
    exact h.wait a ham x hx hlt hnf, fun x hx => by simp at hx⟩
  rw [hg] at hd
  cases hd
/-- one release of a round -/
def mvS (W : List Tx) (L : List Ow) (a : Tx) : List Ow := if (findO L a).isSome && !decide (a ∈ W) then relP L a else L
def roundP (names : List Tx) (L : List Ow) : List Ow := names.foldl (mvS (waitP L)) L
theorem mvS_inv {W : List Tx} {L : List Ow} (h : Inv L) (a : Tx) : Inv (mvS W L a) := by
  unfold mvS
  split
  · exact relP_inv h a
  · exact h
theorem mvS_tx {W : List Tx} {L : List Ow} {a : Tx} {o : Ow} (ho : o ∈ mvS W L a) : (o.tx = a → a ∈ W) ∧ ∃ y ∈ L, y.tx = o.tx := by
  unfold mvS at ho
  split at ho
  · obtain ⟨h1, h2⟩ := relP_tx ho
    exact ⟨fun e => absurd e h1, h2⟩
  · rename_i hc
    refine ⟨fun e => ?_, o, ho, rfl⟩
    have hs : (findO L a).isSome = true := by
      cases hf : findO L a with
      | some x => rfl
      | none => exact absurd e (findO_none hf o ho)
    rw [hs, Bool.true_and] at hc
    simpa using hc
theorem mvF (W : List Tx) (names : List Tx) : ∀ {L : List Ow}, Inv L → Inv (names.foldl (mvS W) L) ∧ ∀ o ∈ names.foldl (mvS W) L, (o.tx ∈ names → o.tx ∈ W) ∧ ∃ y ∈ L, y.tx = o.tx := by
  induction names with
  | nil => exact fun h => ⟨h, fun o ho => ⟨fun hm => (by cases hm), o, ho, rfl⟩⟩
  | cons a names ih =>
    intro L h
    obtain ⟨h1, h2⟩ := ih (mvS_inv (W := W) h a)
    refine ⟨h1, fun o ho => ?_⟩
    obtain ⟨h3, y, hy, e⟩ := h2 o ho
    obtain ⟨h4, z, hz, e2⟩ := mvS_tx hy
    refine ⟨fun hm => ?_, z, hz, e2.trans e⟩
    rcases List.mem_cons.1 hm with e3 | hm
    · rw [e3]; exact h4 (e.trans e3)
    · exact h3 hm
theorem mvS_len {W : List Tx} {L : List Ow} {a : Tx} : (mvS W L a).length ≤ L.length := by
  unfold mvS
  split
  · exact relP_len _ _
  · exact Nat.le_refl _
theorem waitP_lt {L : List Ow} (h : Inv L) (hn : 0 < L.length) : (waitP L).length < L.length := by
  obtain ⟨o, ho, hw⟩ := someone h hn
  unfold waitP
  rw [List.length_map]
  have h1 := (List.filter_append_perm (fun o : Ow => decide (0 < o.ws.length)) L).length_eq
  rw [List.length_append] at h1
  have h2 : 0 < (L.filter fun x => !decide (0 < x.ws.length)).length := List.length_pos_of_mem (List.mem_filter.2 ⟨ho, by simp [hw]⟩)
  omega
theorem roundP_ok {names : List Tx} {L : List Ow} (h : Inv L) (hn : ∀ o ∈ L, o.tx ∈ names) : Inv (roundP names L) ∧ (∀ o ∈ roundP names L, o.tx ∈ names) ∧ (roundP names L).length ≤ L.length - 1 := by
  obtain ⟨h1, h2⟩ := mvF (waitP L) names h
  have h3 : ∀ o ∈ roundP names L, o.tx ∈ names := fun o ho => by
    obtain ⟨_, y, hy, e⟩ := h2 o ho
    rw [← e]; exact hn y hy
  refine ⟨h1, h3, ?_⟩
  have hle : (roundP names L).length ≤ (waitP L).length := by
    have hnd : ((roundP names L).map (·.tx)).Nodup := h1.nod
    have hsub : ∀ t ∈ (roundP names L).map (·.tx), t ∈ waitP L := fun t ht => by
      obtain ⟨o, ho, rfl⟩ := List.mem_map.1 ht
      exact (h2 o ho).1 (h3 o ho)
    have := nodup_len hnd hsub
    rwa [List.length_map] at this
  rcases Nat.eq_zero_or_pos L.length with h0 | h0
  · have := waitP_le L
    omega
  · have := waitP_lt h h0
    omega
where
  nodup_len : ∀ {a b : List Tx}, a.Nodup → (∀ t ∈ a, t ∈ b) → a.length ≤ b.length := fun {a} => by
    induction a with
    | nil => intro b _ _; simp
    | cons x a ih =>
      intro b hn hs
      rw [List.nodup_cons] at hn
      have hx := hs x List.mem_cons_self
      have h1 := ih (b := b.erase x) hn.2 fun t ht => by
        have hne : t ≠ x := fun e => hn.1 (e ▸ ht)
        exact (List.mem_erase_of_ne hne).2 (hs t (List.mem_cons_of_mem _ ht))
      rw [List.length_erase_of_mem hx] at h1
      have := List.length_pos_of_mem hx
      rw [List.length_cons]
      omega
  waitP_le (L : List Ow) : (waitP L).length ≤ L.length := by
    unfold waitP
    rw [List.length_map]
    exact List.length_filter_le _ _
def roundsP (names : List Tx) (L : List Ow) : Nat → List Ow
  | 0 => L
  | k + 1 => roundP names (roundsP names L k)
theorem roundsP_ok {names : List Tx} {L : List Ow} (h : Inv L) (hn : ∀ o ∈ L, o.tx ∈ names) : ∀ k, Inv (roundsP names L k) ∧ (∀ o ∈ roundsP names L k, o.tx ∈ names) ∧ (roundsP names L k).length ≤ L.length - k
  | 0 => ⟨h, hn, Nat.le_refl _⟩
  | k + 1 => by
    obtain ⟨h1, h2, h3⟩ := roundsP_ok h hn k
    obtain ⟨g1, g2, g3⟩ := roundP_ok h1 h2
    exact ⟨g1, g2, by show (roundP names (roundsP names L k)).length ≤ _; omega⟩
theorem names_len {names : List Tx} {L : List Ow} (h : Inv L) (hn : ∀ o ∈ L, o.tx ∈ names) : L.length ≤ names.length := by
  have := roundP_ok.nodup_len h.nod (b := names) fun t ht => by
    obtain ⟨o, ho, rfl⟩ := List.mem_map.1 ht
    exact hn o ho
  rwa [List.length_map] at this
theorem moves_law {names : List Tx} {L : List Ow} (h : Inv L) (hn : ∀ o ∈ L, o.tx ∈ names) : roundsP names L (names.length + 1) = [] := by
  have h1 := (roundsP_ok h hn (names.length + 1)).2.2
  have h2 := names_len h hn
  exact List.eq_nil_of_length_eq_zero (by omega)
/-! ### LockFast -/
/-- t is held fast, with these locks -/
def Fst (L : List Ow) (t : Tx) (l : List Wt) : Prop := ∃ o ∈ L, o.tx = t ∧ o.fast = true ∧ o.ws = [] ∧ o.lk = l
theorem Fst.locks {L : List Ow} {t : Tx} {l : List Wt} (h : Inv L) (hf : Fst L t l) : locksP L t = l := by
  obtain ⟨o, ho, rfl, _, _, rfl⟩ := hf
  unfold locksP
  rw [findO_of h.nod ho]
  rfl
theorem Fst.step {L : List Ow} {t : Tx} {l : List Wt} (hf : Fst L t l) {x : OpD} (hx : x.t ≠ t) : Fst (stepL true L x) t l := by
  obtain ⟨o, ho, h1, h2, h3, h4⟩ := hf
  unfold stepL
  split
  · unfold askP
    split
    · refine ⟨o, settled_stay (mem_askL.2 (.inr ⟨ho, ?_, ?_⟩)) h3, h1, h2, h3, h4⟩
      · simp [hurt, h2]
      · rw [whoO_tx, h1]; exact Ne.symm hx
    · exact ⟨o, ho, h1, h2, h3, h4⟩
  · split
    · simp only [if_true]
      unfold holdP
      split
      · refine ⟨fastO x.t o, List.mem_map.2 ⟨o, ho, rfl⟩, (fastO_tx _ _).trans h1, ?_, (fastO_ws _ _).trans h3, (fastO_lk _ _).trans h4⟩
        unfold fastO
        split
        · rfl
        · exact h2
      · exact ⟨o, ho, h1, h2, h3, h4⟩
    · split
      · unfold relP
        split
        · exact ⟨o, settled_stay (mem_dropO.2 ⟨ho, by rw [h1]; exact Ne.symm hx⟩) h3, h1, h2, h3, h4⟩
        · exact ⟨o, ho, h1, h2, h3, h4⟩
      · exact ⟨o, ho, h1, h2, h3, h4⟩
theorem fast_begin {L : List Ow} (h : Inv L) {t : Tx} {age : Int} {ws : List Wt} (hs : stO L t age ws = 0) (he : holdE (askP L t age ws) t = 0) :
    ∃ l, Fst (holdP (askP L t age ws) t) t l ∧ locksP (holdP (askP L t age ws) t) t = l ∧ 0 < l.length := by
  have hi := askP_inv h t age ws
  have hst := stO_ok hs
  obtain ⟨c1, c2, c3, c4⟩ := chkW_ok hst.c
  obtain ⟨o, ho⟩ : ∃ o, findO (askP L t age ws) t = some o := by
    cases hf : findO (askP L t age ws) t with
    | some o => exact ⟨o, rfl⟩
    | none => unfold holdE at he; rw [hf] at he; cases he
  obtain ⟨hom, hot⟩ := findO_mem ho
  have how : o.ws = [] := by
    unfold holdE at he
    rw [ho] at he
    simp only at he
    split at he
    · cases he
    · exact List.eq_nil_of_length_eq_zero (by omega)
  have hlk : 0 < o.lk.length := by
    have hom2 := hom
    unfold askP at hom2
    rw [if_pos hs] at hom2
    obtain ⟨y, hy, hyo⟩ := settled_mem hom2
    have hyt : y.tx = t := by
      rcases hyo with rfl | ⟨rfl, _⟩
      · exact hot
      · exact hot
    rcases mem_askL.1 hy with rfl | ⟨_, _, hne⟩
    · rcases hyo with e | ⟨e, hw⟩
      · rw [e] at how
        simp only at how
        rw [how] at c3
        simp at c3
      · rw [e]
        exact grant_has hw
    · rw [whoO_tx] at hne
      exact absurd hyt hne
  have hF : Fst (holdP (askP L t age ws) t) t o.lk := by
    unfold holdP
    rw [if_pos he]
    refine ⟨fastO t o, List.mem_map.2 ⟨o, hom, rfl⟩, (fastO_tx _ _).trans hot, ?_, (fastO_ws _ _).trans how, fastO_lk _ _⟩
    unfold fastO
    rw [if_pos hot]
  exact ⟨o.lk, hF, hF.locks (holdP_inv hi t), hlk⟩
/-! ### LockOldest -/
structure Yng (L : List Ow) : Prop where
  f : ∀ o ∈ L, o.fast = false ∧ 0 < o.age
theorem settled_yng {L : List Ow} (h : Yng L) : Yng (settled L).1 := ⟨fun o ho => by
  obtain ⟨y, hy, e⟩ := settled_mem ho
  rcases e with rfl | ⟨rfl, _⟩
  · exact h.f _ hy
  · exact h.f y hy⟩
theorem Yng.step {L : List Ow} (h : Yng L) {x : OpD} (hx : 0 < x.age) : Yng (stepL false L x) := by
  unfold stepL
  split
  · unfold askP
    split
    · rename_i hs
      have hst := stO_ok hs
      refine settled_yng ⟨fun o ho => ?_⟩
      rcases mem_askL.1 ho with rfl | ⟨ho, _, _⟩
      · exact ⟨hst.f, by rw [hst.a]; exact hx⟩
      · exact h.f o ho
    · exact h
  · split
    · simp only [Bool.false_eq_true, if_false]
      exact h
    · split
      · unfold relP
        split
        · exact settled_yng ⟨fun o ho => h.f o (mem_dropO.1 ho).1⟩
        · exact h
      · exact h
theorem fold_len (ws : List Wt) : ∀ (l : List Wt), Ris l → (ws.map (·.1)).Nodup → (∀ x ∈ ws, ∀ y ∈ l, y.1 ≠ x.1) → (ws.foldl addW l).length = l.length + ws.length := by
  induction ws with
  | nil => intro l _ _ _; rfl
  | cons w ws ih =>
    intro l hr hn hd
    rw [List.map_cons, List.nodup_cons] at hn
    have h1 := addW_len w l hr
    rw [lkw_none (fun x hx => hd w List.mem_cons_self x hx)] at h1
    rw [List.foldl_cons, ih (addW l w) (addW_ris w l hr) hn.2, h1, List.length_cons]
    · simp; omega
    · intro x hx y hy
      rcases addW_key w l y hy with e | e
      · rw [e]
        exact fun e2 => hn.1 (List.mem_map.2 ⟨x, hx, e2.symm⟩)
      · exact hd x (List.mem_cons_of_mem _ hx) y e
theorem setK_head {M : List Ow} {o : Ow} (hi : M[0]? = some o) (hg : goS M 0 o = true) : ∀ k, 1 ≤ k → (setK M k).1[0]? = some (grant o) ∧ ∃ r, (setK M k).2 = o.tx :: r := by
  have hil := (List.getElem?_eq_some_iff.1 hi).1
  have h1 : setK M 1 = (M.set 0 (grant o), [o.tx]) := by
    show stepS (M, []) 0 = _
    unfold stepS
    simp only [hi, hg, if_true, List.nil_append]
  intro k
  induction k with
  | zero => exact fun h => absurd h (Nat.not_succ_le_zero _)
  | succ k ih =>
    intro hk
    rcases Nat.eq_zero_or_pos k with e | e
    · subst e
      rw [h1]
      exact ⟨by simp [hil], [], rfl⟩
    · obtain ⟨h2, r, h3⟩ := ih e
      show (stepS (setK M k) k).1[0]? = _ ∧ ∃ r, (stepS (setK M k) k).2 = _
      unfold stepS
      split
      · split
        · refine ⟨?_, r ++ [_], by rw [h3]; rfl⟩
          rw [List.getElem?_set_ne (by omega)]
          exact h2
        · exact ⟨h2, r, h3⟩
      · exact ⟨h2, r, h3⟩
theorem oldest_law {L : List Ow} (h : Inv L) (hy : Yng L) {t : Tx} (hn : ∀ o ∈ L, o.tx ≠ t) {ws : List Wt} (hs : stO L t 0 ws = 0) :
    (∃ r, askG L t 0 ws = t :: r) ∧ (locksP (askP L t 0 ws) t).length = ws.length := by
  have hst := stO_ok hs
  obtain ⟨c1, c2, c3, c4⟩ := chkW_ok hst.c
  have hw : whoO L t 0 = emptyO t 0 := by
    unfold whoO
    have : findO L t = none := by
      unfold findO
      rw [List.find?_eq_none]
      intro x hx
      simpa using hn x hx
    rw [this]; rfl
  have hK : ∀ x ∈ (L.filter fun x => !hurt (emptyO t 0) ws x), x ∈ L ∧ x.tx ≠ t ∧ ltO ((0 : Int), t) x.key ∧ clash x.lk ws = false := fun x hx => by
    obtain ⟨hx1, hx2⟩ := List.mem_filter.1 hx
    have h1 := hy.f x hx1
    have hlt : ltO (emptyO t 0).key x.key := .inl h1.2
    exact ⟨hx1, hn x hx1, hlt, not_hurt hx2 (hn x hx1) h1.1 hlt⟩
  have hA : askL L (emptyO t 0) ws = ⟨t, 0, [], ws, false⟩ :: dropO (L.filter fun x => !hurt (emptyO t 0) ws x) t := by
    unfold askL layO
    show insO ⟨t, 0, [], ws, false⟩ (dropO (L.filter fun x => !hurt (emptyO t 0) ws x) t) = _
    cases hd : dropO (L.filter fun x => !hurt (emptyO t 0) ws x) t with
    | nil => rfl
    | cons y K =>
      have hym : y ∈ dropO (L.filter fun x => !hurt (emptyO t 0) ws x) t := by rw [hd]; exact List.mem_cons_self
      have := (hK y (mem_dropO.1 hym).1).2.2.1
      show (if ltO ((0 : Int), t) y.key then _ else _) = _
      rw [if_pos this]
  have hgo : goS (askL L (emptyO t 0) ws) 0 ⟨t, 0, [], ws, false⟩ = true := by
    refine goS_iff.2 ⟨c3, fun x hx hne => ?_, fun x hx => by simp at hx⟩
    rw [hA] at hx
    rcases List.mem_cons.1 hx with rfl | hx
    · exact clash_nil' _
    · exact (hK x (mem_dropO.1 hx).1).2.2.2
  have h0 : (askL L (emptyO t 0) ws)[0]? = some ⟨t, 0, [], ws, false⟩ := by rw [hA]; rfl
  have hlen : 1 ≤ (askL L (emptyO t 0) ws).length := by rw [hA]; simp
  obtain ⟨h1, r, h2⟩ := setK_head h0 hgo _ hlen
  have hi := askP_inv h t 0 ws
  unfold askG
  rw [if_pos hs, hw]
  refine ⟨⟨r, h2⟩, ?_⟩
  have hm : grant ⟨t, 0, [], ws, false⟩ ∈ askP L t 0 ws := by
    unfold askP
    rw [if_pos hs, hw]
    exact List.mem_of_getElem? h1
  have hf := findO_of hi.nod hm
  unfold locksP
  rw [show (grant ⟨t, 0, [], ws, false⟩).tx = t from rfl] at hf
  rw [hf]
  show (ws.foldl addW []).length = ws.length
  rw [fold_len ws [] List.Pairwise.nil c4 (fun _ _ y hy => by cases hy)]
  simp
theorem findO_not {L : List Ow} {t : Tx} (h : ∀ x ∈ L, x.tx ≠ t) : findO L t = none := by
  unfold findO
  rw [List.find?_eq_none]
  intro x hx
  simpa using h x hx
theorem TabX.fresh1 {P : Nat → Prop} {w w' : World} {tb b : Nat} {L : List Ow} (h : TabX P w tb L) (k : Kept (fun _ => False) w w') (hb : w.heap.size ≤ b ∧ b < w'.heap.size) : TabX (fun i => P i ∨ i = b) w' tb L :=
  h.fresh k (fun _ _ h => h.elim) (fun i hi => hi.imp id (fun e => by rw [e]; exact hb))
theorem op_cells {F : Nat → Prop} {w : World} {a : Option Addr} {n c : Nat} {ops : List OpD} (h : ScrAt F w a n c ops) {k : Nat} {x : OpD} (hx : ops[k]? = some x) :
    ∃ b off bo bc, a = some ⟨b, off, none⟩ ∧ w.cell? ⟨b, off + k * 6, none⟩ = some (.int .u8 x.kd) ∧ w.cell? ⟨b, off + k * 6 + 1, none⟩ = some (.int .u8 x.t.1) ∧ w.cell? ⟨b, off + k * 6 + 2, none⟩ = some (.int .u32 x.t.2.1) ∧ w.cell? ⟨b, off + k * 6 + 3, none⟩ = some (.int .u32 x.t.2.2) ∧ w.cell? ⟨b, off + k * 6 + 4, none⟩ = some (.int .u64 x.age) ∧ w.cell? ⟨b, off + k * 6 + 5, none⟩ = some (.slice bo x.ws.length bc) ∧ OpOk F w x bo bc := by
  obtain ⟨_, _, _, h3⟩ := h
  obtain ⟨b, off, bo, bc, e, _, hc, ho⟩ := h3 k x hx
  exact ⟨b, off, bo, bc, e, hc 0 _ rfl, hc 1 _ rfl, hc 2 _ rfl, hc 3 _ rfl, hc 4 _ rfl, hc 5 _ rfl, ho⟩
theorem ScrAt.mono {F G : Nat → Prop} {w : World} {a : Option Addr} {n c : Nat} {ops : List OpD} (h : ScrAt F w a n c ops) (hg : ∀ g, G g → F g) : ScrAt G w a n c ops := by
  obtain ⟨h0, h1, h2, h3⟩ := h
  refine ⟨h0, h1, h2, fun j x hx => ?_⟩
  obtain ⟨b, off, bo, bc, q1, q2, q3, q4⟩ := h3 j x hx
  exact ⟨b, off, bo, bc, q1, fun h => q2 (hg b h), q3, ⟨q4.b.mono (fun g _ h => hg g h), q4.k, q4.a, q4.l, q4.p⟩⟩
theorem cells6 {w : World} {b T : Nat} {x0 x1 x2 x3 x4 x5 : Value} (h : w.heap[b]? = some (.cells #[x0, x1, x2, x3, x4, x5] T (0, 0))) : w.cell? ⟨b, 0, none⟩ = some x0 ∧ w.cell? ⟨b, 1, none⟩ = some x1 ∧ w.cell? ⟨b, 2, none⟩ = some x2 ∧ w.cell? ⟨b, 3, none⟩ = some x3 ∧ w.cell? ⟨b, 4, none⟩ = some x4 ∧ w.cell? ⟨b, 5, none⟩ = some x5 :=
  ⟨by rw [row_cell h]; rfl, by rw [row_cell h]; rfl, by rw [row_cell h]; rfl, by rw [row_cell h]; rfl, by rw [row_cell h]; rfl, by rw [row_cell h]; rfl⟩
/-- an operation's own block -/
abbrev opRow (kd t1 t2 t3 age : Int) (bo : Option Addr) (n bc : Nat) : Obj := .cells #[.int .u8 kd, .int .u8 t1, .int .u32 t2, .int .u32 t3, .int .u64 age, .slice bo n bc] 43 (0, 0)
theorem sop_kept {w w' : World} {ob : Nat} {t1 t2 t3 age : Int} {v : Value} (k : Kept (fun _ => False) w w') (h : w.cell? ⟨ob, 1, none⟩ = some (.int .u8 t1) ∧ w.cell? ⟨ob, 2, none⟩ = some (.int .u32 t2) ∧ w.cell? ⟨ob, 3, none⟩ = some (.int .u32 t3) ∧ w.cell? ⟨ob, 4, none⟩ = some (.int .u64 age) ∧ w.cell? ⟨ob, 5, none⟩ = some v) :
    w'.cell? ⟨ob, 1, none⟩ = some (.int .u8 t1) ∧ w'.cell? ⟨ob, 2, none⟩ = some (.int .u32 t2) ∧ w'.cell? ⟨ob, 3, none⟩ = some (.int .u32 t3) ∧ w'.cell? ⟨ob, 4, none⟩ = some (.int .u64 age) ∧ w'.cell? ⟨ob, 5, none⟩ = some v :=
  ⟨k.cell h.1 id, k.cell h.2.1 id, k.cell h.2.2.1 id, k.cell h.2.2.2.1 id, k.cell h.2.2.2.2 id⟩
theorem tx_eq (a b : Tx) (w : World) : (binOp .eql 32 (txv a) (txv b)).run Try.prog w = .ok (.bool (decide (a = b))) w := by
  have h := tx_same a b w
  obtain ⟨a1, a2, a3⟩ := a
  obtain ⟨b1, b2, b3⟩ := b
  unfold txv at h ⊢
  unfold binOp
  show ((Op.equal 32 (.agg #[.int .u8 a1, .int .u32 a2, .int .u32 a3]) (.agg #[.int .u8 b1, .int .u32 b2, .int .u32 b3])) >>= fun r => pure (Value.bool r)).run Try.prog w = _
  rw [Sem.run_bind, h, Result.andThen_ok]
  rfl
def knK (ops : List OpD) (k : Nat) : List Tx := knP (ops.take (min k 80))
theorem knK_step {ops : List OpD} {k : Nat} {x : OpD} (hx : ops[k]? = some x) : knK ops (k + 1) = if k < 80 then knS (knK ops k) x else knK ops k := by
  unfold knK
  by_cases h : k < 80
  · rw [if_pos h, show min (k + 1) 80 = k + 1 by omega, show min k 80 = k by omega, List.take_add_one, hx]
    exact knP_snoc _ _
  · rw [if_neg h, show min (k + 1) 80 = 80 by omega, show min k 80 = 80 by omega]
theorem knP_len (ops : List OpD) : ∀ l : List Tx, (ops.foldl knS l).length ≤ l.length + ops.length := by
  induction ops with
  | nil => exact fun l => Nat.le_refl _
  | cons x ops ih =>
    intro l
    have h1 := ih (knS l x)
    have h2 : (knS l x).length ≤ l.length + 1 := by
      unfold knS
      split
      · omega
      · simp
    rw [List.foldl_cons, List.length_cons]
    omega
theorem knK_len (ops : List OpD) (k : Nat) : (knK ops k).length ≤ 80 := by
  unfold knK
  have := knP_len (ops.take (min k 80)) []
  have := List.length_take_le (min k 80) ops
  unfold knP
  simp at *
  omega
structure Kn (F : Nat → Prop) (w wr : World) (a : Option Addr) (N c : Nat) (ops : List OpD) (S : List Tx) (la : Option Addr) (lc : Nat) : Prop where
  s : ScrAt F wr a N c ops
  g : Own wr 32 3 (.slice la S.length lc) S.length (S.flatMap encT)
  n : ∀ b, (Value.slice la S.length lc).ownBlock = some b → w.heap.size ≤ b
  k : Kept (fun _ => False) w wr
theorem Kn.same {F : Nat → Prop} {w wr w' : World} {a : Option Addr} {N c : Nat} {ops : List OpD} {S : List Tx} {la : Option Addr} {lc : Nat} (h : Kn F w wr a N c ops S la lc) (k : Kept (fun _ => False) wr w') : Kn F w w' a N c ops S la lc :=
  ⟨h.s.kept k (fun _ _ h => h.elim), h.g.kept k (fun _ _ => id), h.n, h.k.trans k⟩
set_option maxRecDepth 100000 in
set_option maxHeartbeats 4000000 in
theorem known_any {F : Nat → Prop} {w : World} {a : Option Addr} {N c : Nat} {ops : List OpD} (h : ScrAt F w a N c ops) :
    Calls Try.prog 14 #[.slice a N c] w fun e w' => ∃ v, e = .returned v ∧ Txs w w' v (knP (ops.take 80)) ∧ Kept (fun _ => False) w w' := by
  have H0 := hid (show Kn F w w a N c ops (knK ops 0) none 0 from ⟨h, Own.nil _ _ _, fun b h => by simp [Value.ownBlock] at h, Kept.refl _ _⟩)
  have HNO := hid h.1
  have HSC := hid h
  have hNc := h.2.1
  have hcm := h.2.2.1
  unfold maxLen at hcm
  clear h
  go_enter Try.func14, Try.ntmps14
  go_wp2_with fail
  go_loopw [3, 11] (fun l i wr => ∃ (k : Nat) (S : List Tx) (la : Option Addr) (lc : Nat), l = .slice la S.length lc ∧ i = .int .i64 k ∧ k ≤ N ∧ knK ops k = S ∧ Kn F w wr a N c ops S la lc) (fun _ i _ => N - (RowKit.intOf i).toNat)
  case atStart => exact ⟨0, _, none, 0, rfl, rfl, Nat.zero_le _, rfl, H0.out⟩
  case round =>
    rename World => wr
    clear H0
    obtain ⟨k, S, la, lc, rfl, rfl, hk, hs, hkn⟩ := hrel
    have HS := hid hs; have HK := hid hkn
    clear hs hkn
    by_cases hlt : k < N
    · have hltI : (k : Int) < (N : Int) := by omega
      obtain ⟨x, hx⟩ : ∃ x, ops[k]? = some x := ⟨_, List.getElem?_eq_getElem (by rw [HNO.out]; exact hlt)⟩
      have HST := hid (knK_step hx)
      have hS80 := knK_len ops k
      rw [HS.out] at hS80
      obtain ⟨b, off, bo, bc, rfl, c0, c1, c2, c3, c4, c5, hok⟩ := op_cells HK.out.s hx
      obtain ⟨kd, ⟨t1, t2, t3⟩, age, ws⟩ := x
      simp only at c0 c1 c2 c3 c4 c5
      obtain ⟨ob, hob⟩ : ∃ ob, wr.heap.size = ob := ⟨_, rfl⟩
      obtain ⟨w2, hw2⟩ : ∃ w2, wr.alloc (opRow kd t1 t2 t3 age bo ws.length bc) = w2 := ⟨_, rfl⟩
      have k2 : Kept (fun _ => False) wr w2 := by rw [← hw2]; exact (Kept.refl _ _).alloc _
      have OB := hid (show w2.heap[ob]? = some (opRow kd t1 t2 t3 age bo ws.length bc) by rw [← hw2, ← hob]; exact row_new _ _)
      have OK2 := hid (hok.kept k2 (fun _ _ h => h.elim))
      obtain ⟨z0, z1, z2, z3, z4, z5⟩ := cells6 (row_new wr (opRow kd t1 t2 t3 age bo ws.length bc))
      unfold opRow at hw2 z0 z1 z2 z3 z4 z5
      have HW2 := hid hw2; have HOB := hid hob
      clear hw2 hob
      have HK2 := hid (HK.out.same k2)
      obtain ⟨m, hm⟩ : ∃ m, S.length = m := ⟨_, rfl⟩
      have HM := hid hm
      rw [hm] at hS80 ⊢
      clear hx hok k2 hm
      go_wp2_with fail
      try rw [HW2.out]
      try rw [HOB.out]
      clear HW2 HOB c0 c1 c2 c3 c4 c5 z0 z1 z2 z3 z4 z5
      by_cases h80 : k < 80
      · have h80D : decide ((k : Int) < 80) = true := by simp; omega
        have HSK := hid (show knK ops (k + 1) = knS S ⟨kd, (t1, t2, t3), age, ws⟩ by rw [HST.out, if_pos h80, HS.out])
        clear h80
        go_wp2_with fail
        rw [h80D]
        clear h80D
        go_loopw [6, 20] (fun f i wv => ∃ j : Nat, f = .bool (decide ((t1, t2, t3) ∉ S.take j)) ∧ i = .int .i64 j ∧ j ≤ m ∧ Kept (fun _ => False) w2 wv) (fun _ i _ => m - (RowKit.intOf i).toNat)
        case atStart => exact ⟨0, by simp, rfl, Nat.zero_le _, Kept.refl _ _⟩
        case round =>
          rename World => wv
          obtain ⟨j, rfl, rfl, hj, hkv⟩ := hrel
          have KV := hid hkv
          clear hkv
          obtain ⟨fb, hfb⟩ : ∃ fb, decide ((t1, t2, t3) ∉ S.take j) = fb := ⟨_, rfl⟩
          rw [hfb]
          have HFB := hid hfb
          clear hfb
          by_cases hjm : j < m
          · have hjI : (j : Int) < (m : Int) := by omega
            obtain ⟨⟨y1, y2, y3⟩, hy⟩ : ∃ y, S[j]? = some y := ⟨_, List.getElem?_eq_getElem (by rw [HM.out]; exact hjm)⟩
            have hli := (HK2.out.g.lies (encT_one _) (F := fun _ => False) (fun _ _ => id))
            rw [HM.out] at hli
            have hcp := cap_of hli
            unfold maxLen at hcp
            obtain ⟨hcp1, hcp2⟩ := hcp
            obtain ⟨g, o, rfl, q0, q1, q2⟩ := tx_cells hli HM.out KV.out hy
            simp only at q0 q1 q2
            have HTK := hid (show S.take (j + 1) = S.take j ++ [(y1, y2, y3)] by rw [List.take_add_one, hy]; rfl)
            obtain ⟨yb, hyb⟩ : ∃ yb, wv.heap.size = yb := ⟨_, rfl⟩
            obtain ⟨w3, hw3⟩ : ∃ w3, wv.alloc (.cells #[.int .u8 y1, .int .u32 y2, .int .u32 y3] 32) = w3 := ⟨_, rfl⟩
            have k3 : Kept (fun _ => False) wv w3 := by rw [← hw3]; exact (Kept.refl _ _).alloc _
            obtain ⟨e0, e1, e2⟩ := cells3 (show w3.heap[yb]? = some (.cells #[.int .u8 y1, .int .u32 y2, .int .u32 y3] 32 (0, 0)) by rw [← hw3, ← hyb]; exact row_new _ _)
            obtain ⟨_, d1, d2, d3, _, _⟩ := cells6 (((KV.out.trans k3).block ob (row_lt OB.out) id).trans OB.out)
            have hne := fun W => tx_ne (y1, y2, y3) (t1, t2, t3) W
            unfold txv at hne
            have K3 := hid (KV.out.trans k3)
            clear hy hli k3
            cases fb with
            | false =>
              have HFN := hid (show decide ((t1, t2, t3) ∉ S.take (j + 1)) = false by
                have h1 := HFB.out
                rw [decide_eq_false_iff_not, Classical.not_not] at h1
                rw [HTK.out, decide_eq_false_iff_not, Classical.not_not]
                exact List.mem_append_left _ h1)
              go_wp2_with fail
              go_wp2
              go_roundw
              case rel => exact ⟨j + 1, by rw [HFN.out], by go_num, by omega, by first | exact K3.out | (rw [hw3]; exact K3.out)⟩
              case measure => (simp only [RowKit.intOf]; omega)
            | true =>
              by_cases e : ((y1, y2, y3) : Tx) = (t1, t2, t3)
              · have HFN := hid (show decide ((t1, t2, t3) ∉ S.take (j + 1)) = false by
                  rw [HTK.out, decide_eq_false_iff_not, Classical.not_not, e]
                  exact List.mem_append_right _ (List.mem_singleton.2 rfl))
                simp only [e, decide_true, Bool.not_true] at hne
                clear e
                go_wp2
                go_roundw
                case rel => exact ⟨j + 1, by rw [HFN.out], by go_num, by omega, by first | exact K3.out | (rw [hw3]; exact K3.out)⟩
                case measure => (simp only [RowKit.intOf]; omega)
              · have HFN := hid (show decide ((t1, t2, t3) ∉ S.take (j + 1)) = true by
                  have h1 := HFB.out
                  rw [decide_eq_true_eq] at h1 ⊢
                  rw [HTK.out, List.mem_append, List.mem_singleton]
                  exact fun h => h.elim h1 (fun h => e h.symm))
                simp only [e, decide_false, Bool.not_false] at hne
                clear e
                go_wp2
                go_roundw
                case rel => exact ⟨j + 1, by rw [HFN.out], by go_num, by omega, by first | exact K3.out | (rw [hw3]; exact K3.out)⟩
                case measure => (simp only [RowKit.intOf]; omega)
          · obtain rfl : j = m := by omega
            have hta : S.take j = S := by rw [← HM.out]; exact List.take_length
            rw [hta] at HFB
            have HKV := hid (HK2.out.same KV.out)
            clear hta
            cases fb with
            | false =>
              have HSN := hid (show knK ops (k + 1) = S by
                have h1 := HFB.out
                rw [decide_eq_false_iff_not, Classical.not_not] at h1
                rw [HSK.out]
                exact if_pos h1)
              go_wp2
              go_roundw
              case rel => exact ⟨k + 1, S, la, lc, by rw [HM.out], by go_num, by omega, HSN.out, HKV.out⟩
              case measure => (simp only [RowKit.intOf]; omega)
            | true =>
              have HSN := hid (show knK ops (k + 1) = S ++ [(t1, t2, t3)] by
                have h1 := HFB.out
                rw [decide_eq_true_eq] at h1
                rw [HSK.out]
                exact if_neg h1)
              obtain ⟨_, d1, d2, d3, _, _⟩ := cells6 ((KV.out.block ob (row_lt OB.out) id).trans OB.out)
              have hg := HKV.out.g
              rw [HM.out] at hg
              have HG := hid hg
              have HFM := hid (show (S ++ [(t1, t2, t3)]).flatMap encT = S.flatMap encT ++ encT (t1, t2, t3) by simp)
              clear hg
              go_wp2_with (at_builtin; refine wpList_app rfl _ _ 27 rfl 32 (txv (0, 0, 0)) 3 12 Try.underlying27 infoT rfl (by decide) (.slice la j lc) j _ rfl (by exact HG.out.alloc _) _ rfl 1 _ (tx_src _ t1 t2 t3 rfl) (by unfold maxLen; omega) (by omega) ?_; intro la2 lc2 w8 ho3 hk3 hf3 _; have HA8 := hid ho3; have HK8 := hid hk3; have HF8 := hid hf3; clear ho3 hk3 hf3)
              have k8 : Kept (fun i => (Value.slice la j lc).ownBlock = some i) wv w8 := ((Kept.refl _ wv).alloc _).trans HK8.out
              have hgn : ∀ i, (Value.slice la j lc).ownBlock = some i → w.heap.size ≤ i := fun i h => HK.out.n i (by rw [HM.out]; exact h)
              have HX := hid (show Kn F w w8 (some ⟨b, off, none⟩) N c ops (S ++ [(t1, t2, t3)]) la2 lc2 from by
                have hln : (S ++ [(t1, t2, t3)]).length = j + 1 := by rw [List.length_append, HM.out]; rfl
                have kw8 : Kept (fun _ => False) w w8 := HKV.out.k.trans' k8 (fun i h => .inr (hgn i h))
                refine ⟨HSC.out.kept kw8 (fun _ _ h => h.elim), ?_, fun b hb => ?_, kw8⟩
                · rw [hln, HFM.out]
                  exact HA8.out
                · have hb' : (Value.slice la2 (j + 1) lc2).ownBlock = some b := by rwa [hln] at hb
                  rcases HF8.out b hb' with h | h
                  · exact hgn b h
                  · have := HKV.out.k.size
                    simp at h
                    omega)
              clear k8 hgn
              go_roundw
              case rel => exact ⟨k + 1, _, la2, lc2, by rw [List.length_append, HM.out]; rfl, by go_num, by omega, HSN.out, HX.out⟩
              case measure => (simp only [RowKit.intOf]; omega)
      · have h80D : decide ((k : Int) < 80) = false := by simp; omega
        have HSN := hid (show knK ops (k + 1) = S by rw [HST.out, if_neg h80, HS.out])
        clear h80
        go_wp2_with fail
        rw [h80D]
        clear h80D
        go_loopw [6, 20] (fun f i wv => ∃ j : Nat, f = .bool false ∧ i = .int .i64 j ∧ j ≤ m ∧ Kept (fun _ => False) w2 wv) (fun _ i _ => m - (RowKit.intOf i).toNat)
        case atStart => exact ⟨0, rfl, rfl, Nat.zero_le _, Kept.refl _ _⟩
        case round =>
          rename World => wv
          obtain ⟨j, rfl, rfl, hj, hkv⟩ := hrel
          have KV := hid hkv
          clear hkv
          by_cases hjm : j < m
          · have hjI : (j : Int) < (m : Int) := by omega
            obtain ⟨⟨y1, y2, y3⟩, hy⟩ : ∃ y, S[j]? = some y := ⟨_, List.getElem?_eq_getElem (by rw [HM.out]; exact hjm)⟩
            have hli := (HK2.out.g.lies (encT_one _) (F := fun _ => False) (fun _ _ => id))
            rw [HM.out] at hli
            have hcp := cap_of hli
            unfold maxLen at hcp
            obtain ⟨hcp1, hcp2⟩ := hcp
            obtain ⟨g, o, rfl, q0, q1, q2⟩ := tx_cells hli HM.out KV.out hy
            simp only at q0 q1 q2
            have K3 := hid (KV.out.alloc (.cells #[.int .u8 y1, .int .u32 y2, .int .u32 y3] 32))
            clear hy hli
            go_wp2
            go_roundw
            case rel => exact ⟨j + 1, rfl, by go_num, by omega, K3.out⟩
            case measure => (simp only [RowKit.intOf]; omega)
          · obtain rfl : j = m := by omega
            have HKV := hid (HK2.out.same KV.out)
            go_wp2
            go_roundw
            case rel => exact ⟨k + 1, S, la, lc, by rw [HM.out], by go_num, by omega, HSN.out, HKV.out⟩
            case measure => (simp only [RowKit.intOf]; omega)
    · obtain rfl : k = N := by omega
      have hse : knP (ops.take 80) = S := by
        rw [← HS.out]
        unfold knK
        rcases Nat.le_total k 80 with h | h
        · rw [show min k 80 = k by omega, ← HNO.out, List.take_length, List.take_of_length_le (by rw [HNO.out]; exact h)]
        · rw [show min k 80 = 80 by omega]
      have HSE := hid hse
      clear hse
      go_wp2
      go_ret
      rw [HSE.out]
      exact ⟨_, rfl, ⟨la, lc, rfl, HK.out.g, HK.out.n⟩, HK.out.k⟩
end Go.Proofs.Ytpjhdpfaogdboaa
