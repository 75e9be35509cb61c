/- Lock: plain owners; an owner and the table in memory. -/
import Derived.Test.YtpjhdpfaogdboaaB
import Derived.Test.YtpjhdpfaogdboaaLies
namespace Go.Proofs.Ytpjhdpfaogdboaa
set_option linter.unusedSimpArgs false
set_option linter.unusedVariables false
open Go.RowKit
abbrev ptr (b : Nat) : Value := .pointer (some ⟨b, 0, none⟩)
/-- what is wanted, or held: vertex and mode -/
abbrev Wt := Int × Int
def wcell (x : Wt) : List Value := [.int .u32 x.1, .int .u8 x.2]
def wcells (l : List Wt) : List Value := l.flatMap wcell
theorem wcells_len (l : List Wt) : (wcells l).length = l.length * 2 := by
  induction l with
  | nil => rfl
  | cons x l ih => show (wcell x ++ wcells l).length = _; rw [List.length_append, ih]; simp [wcell]; omega
theorem wcells_one (l : List Wt) : ∀ u ∈ wcells l, u.oneCell' = true := by
  intro u hu
  simp only [wcells, List.mem_flatMap, wcell, List.mem_cons, List.not_mem_nil, or_false] at hu
  obtain ⟨x, _, rfl | rfl⟩ := hu <;> rfl
theorem wcells_at : ∀ (l : List Wt) (i : Nat) (x : Wt), l[i]? = some x → (wcells l)[i * 2]? = some (.int .u32 x.1) ∧ (wcells l)[i * 2 + 1]? = some (.int .u8 x.2)
  | [], i, x, h => by simp at h
  | y :: l, 0, x, h => by simp at h; subst h; exact ⟨rfl, rfl⟩
  | y :: l, i + 1, x, h => by
    have ih := wcells_at l i x (by simpa using h)
    have e : wcells (y :: l) = .int .u32 y.1 :: .int .u8 y.2 :: wcells l := rfl
    rw [e, show (i + 1) * 2 = i * 2 + 1 + 1 by omega]
    simpa using ih
structure Ow where
  tx : Tx
  age : Int
  lk : List Wt
  ws : List Wt
  fast : Bool
deriving Inhabited
def Ow.key (o : Ow) : Int × Tx := (o.age, o.tx)
/-- the mode of a vertex -/
def lkw : List Wt → Int → Option Int
  | [], _ => none
  | (a, m) :: r, k => if k = a then some m else lkw r k
def clash (a b : List Wt) : Bool := a.any fun x => b.any fun y => decide (x.1 = y.1) && (decide (x.2 = 2) || decide (y.2 = 2))
/-- a lock more -/
def addW : List Wt → Wt → List Wt
  | [], w => [w]
  | x :: l, w => if x.1 = w.1 then (x.1, max x.2 w.2) :: l else if w.1 < x.1 then w :: x :: l else x :: addW l w
def Ris (l : List Wt) : Prop := l.Pairwise fun x y => x.1 < y.1
/-- of the form -/
def Fm (l : List Wt) : Prop := ∀ x ∈ l, 1 ≤ x.1 ∧ x.1 ≤ 40 ∧ (x.2 = 1 ∨ x.2 = 2)
structure OkO (o : Ow) : Prop where
  r : Ris o.lk
  f : Fm o.lk
  g : Fm o.ws
  n : (o.ws.map (·.1)).Nodup
theorem addW_mem (w : Wt) : ∀ (l : List Wt) (x : Wt), x ∈ addW l w → x ∈ l ∨ x = w ∨ ∃ y ∈ l, y.1 = w.1 ∧ x = (y.1, max y.2 w.2)
  | [], x, h => by simp [addW] at h; exact .inr (.inl h)
  | y :: l, x, h => by
    unfold addW at h
    split at h
    · rename_i e
      rcases List.mem_cons.1 h with h | h
      · exact .inr (.inr ⟨y, List.mem_cons_self, e, h⟩)
      · exact .inl (List.mem_cons_of_mem _ h)
    · split at h
      · rcases List.mem_cons.1 h with h | h
        · exact .inr (.inl h)
        · exact .inl h
      · rcases List.mem_cons.1 h with h | h
        · exact .inl (by rw [h]; exact List.mem_cons_self)
        · rcases addW_mem w l x h with h | h | ⟨z, hz, e⟩
          · exact .inl (List.mem_cons_of_mem _ h)
          · exact .inr (.inl h)
          · exact .inr (.inr ⟨z, List.mem_cons_of_mem _ hz, e⟩)
theorem addW_key (w : Wt) (l : List Wt) (x : Wt) (h : x ∈ addW l w) : x.1 = w.1 ∨ x ∈ l := by
  rcases addW_mem w l x h with h | h | ⟨y, _, e, h⟩
  · exact .inr h
  · exact .inl (by rw [h])
  · exact .inl (by rw [h]; exact e)
theorem addW_ris (w : Wt) : ∀ l : List Wt, Ris l → Ris (addW l w)
  | [], _ => by simp [addW, Ris]
  | y :: l, h => by
    unfold Ris at h ⊢
    have h1 := (List.pairwise_cons.1 h).1
    have h2 := (List.pairwise_cons.1 h).2
    unfold addW
    split
    · exact List.pairwise_cons.2 ⟨h1, h2⟩
    · split
      · rename_i h3
        refine List.pairwise_cons.2 ⟨fun a ha => ?_, h⟩
        rcases List.mem_cons.1 ha with rfl | ha
        · exact h3
        · have := h1 a ha; omega
      · rename_i h3 h4
        refine List.pairwise_cons.2 ⟨fun a ha => ?_, addW_ris w l h2⟩
        rcases addW_key w l a ha with e | e
        · omega
        · exact h1 a e
theorem addW_fm (w : Wt) (l : List Wt) (h : Fm l) (hw : 1 ≤ w.1 ∧ w.1 ≤ 40 ∧ (w.2 = 1 ∨ w.2 = 2)) : Fm (addW l w) := fun x hx => by
  rcases addW_mem w l x hx with h1 | h1 | ⟨y, hy, e, h1⟩
  · exact h x h1
  · rw [h1]; exact hw
  · have := h y hy
    rw [h1]
    refine ⟨this.1, this.2.1, ?_⟩
    show max y.2 w.2 = 1 ∨ max y.2 w.2 = 2
    omega
theorem lkw_none {l : List Wt} {k : Int} (h : ∀ x ∈ l, x.1 ≠ k) : lkw l k = none := by
  induction l with
  | nil => rfl
  | cons x l ih =>
    obtain ⟨a, m⟩ := x
    unfold lkw
    rw [if_neg (fun e => h (a, m) List.mem_cons_self e.symm)]
    exact ih fun y hy => h y (List.mem_cons_of_mem _ hy)
theorem lkw_add (w : Wt) : ∀ (l : List Wt), Ris l → ∀ k, lkw (addW l w) k = if k = w.1 then some (match lkw l w.1 with | some m => max m w.2 | none => w.2) else lkw l k
  | [], _, k => by
    obtain ⟨a, m⟩ := w
    simp only [addW, lkw]
  | (y, m) :: l, h, k => by
    have h1 := (List.pairwise_cons.1 h).1
    have ih := lkw_add w l (List.pairwise_cons.1 h).2 k
    unfold addW
    by_cases e1 : y = w.1
    · simp only [e1, if_true, lkw]
      by_cases e2 : k = w.1
      · simp [e2]
      · simp [e2]
    · simp only [if_neg e1]
      by_cases e3 : w.1 < y
      · simp only [if_pos e3]
        have hn : lkw ((y, m) :: l) w.1 = none := lkw_none fun x hx e => by
          rcases List.mem_cons.1 hx with rfl | hx
          · exact e1 e
          · have := h1 x hx; simp only at this; omega
        rw [hn]
        obtain ⟨a, b⟩ := w
        show (if k = a then some b else lkw ((y, m) :: l) k) = _
        rfl
      · have e4 : ¬ w.1 = y := fun e => e1 e.symm
        simp only [if_neg e3, lkw, if_neg e4, ih]
        by_cases e2 : k = y
        · have e5 : ¬ k = w.1 := fun e => e1 (e2.symm.trans e)
          simp only [if_pos e2, if_neg e5]
        · simp only [if_neg e2]
theorem addW_len (w : Wt) : ∀ (l : List Wt), Ris l → (addW l w).length = if (lkw l w.1).isSome then l.length else l.length + 1
  | [], _ => by simp [addW, lkw]
  | (y, m) :: l, h => by
    have h1 := (List.pairwise_cons.1 h).1
    have ih := addW_len w l (List.pairwise_cons.1 h).2
    unfold addW
    by_cases e1 : y = w.1
    · simp only [e1, if_true, lkw, Option.isSome_some, List.length_cons]
    · simp only [if_neg e1]
      by_cases e3 : w.1 < y
      · have hn : lkw ((y, m) :: l) w.1 = none := lkw_none fun x hx e => by
          rcases List.mem_cons.1 hx with rfl | hx
          · exact e1 e
          · have := h1 x hx; simp only at this; omega
        simp [if_pos e3, hn]
      · have e4 : ¬ w.1 = y := fun e => e1 e.symm
        simp only [if_neg e3, List.length_cons, ih, lkw, if_neg e4]
        split <;> omega
/-! ### in memory -/
def LkE (E : List (Int × Value)) (lk : List Wt) : Prop := (∀ k, look E k = (lkw lk k).map (Value.int .u8)) ∧ E.length = lk.length
/-- where an owner lies -/
structure Ad where
  ob : Nat
  lb : Nat
  wa : Option Addr
  wc : Nat
abbrev owRow (a : Ad) (o : Ow) : Obj := .cells #[.int .u8 o.tx.1, .int .u32 o.tx.2.1, .int .u32 o.tx.2.2, .int .u64 o.age, .map (some a.lb), .slice a.wa o.ws.length a.wc, .bool o.fast] 68 (0, 0)
structure OwIn (O : Nat → Prop) (w : World) (a : Ad) (o : Ow) : Prop where
  obj : w.heap[a.ob]? = some (owRow a o)
  map : ∃ E, MapIs w a.lb .u32 E ∧ LkE E o.lk
  ws : Lies (fun i => ¬ O i ∨ i = a.lb ∨ i = a.ob) w 2 (.slice a.wa o.ws.length a.wc) o.ws.length (wcells o.ws)
  own : O a.ob ∧ O a.lb
theorem OwIn.kept {O F : Nat → Prop} {w w' : World} {a : Ad} {o : Ow} (h : OwIn O w a o) (k : Kept F w w') (hF : ∀ i, i < w.heap.size → O i → ¬ F i) : OwIn O w' a o where
  obj := (k.block _ (row_lt h.obj) (hF _ (row_lt h.obj) h.own.1)).trans h.obj
  map := by
    obtain ⟨E, hm, hl⟩ := h.map
    exact ⟨E, hm.of_block (k.block _ hm.lt (hF _ hm.lt h.own.2)), hl⟩
  ws := h.ws.kept k (fun g hg hf => .inl fun ho => hF g hg ho hf)
  own := h.own
theorem OwIn.same {O : Nat → Prop} {w w' : World} {a : Ad} {o : Ow} (h : OwIn O w a o) (k : Kept (fun _ => False) w w') : OwIn O w' a o := h.kept k (fun _ _ _ => id)
theorem OwIn.mono {O Q : Nat → Prop} {w : World} {a : Ad} {o : Ow} (h : OwIn O w a o) (hq : ∀ i, i < w.heap.size → O i → Q i) : OwIn Q w a o where
  obj := h.obj
  map := h.map
  ws := h.ws.mono (fun g hg hn => hn.imp (fun h ho => h (hq g hg ho)) id)
  own := by
    obtain ⟨E, hm, _⟩ := h.map
    exact ⟨hq _ (row_lt h.obj) h.own.1, hq _ hm.lt h.own.2⟩
theorem cells7 {w : World} {b T : Nat} {x0 x1 x2 x3 x4 x5 x6 : Value} (h : w.heap[b]? = some (.cells #[x0, x1, x2, x3, x4, x5, x6] T (0, 0))) : w.cell? ⟨b, 0, none⟩ = some x0 ∧ w.cell? ⟨b, 1, none⟩ = some x1 ∧ w.cell? ⟨b, 2, none⟩ = some x2 ∧ w.cell? ⟨b, 3, none⟩ = some x3 ∧ w.cell? ⟨b, 4, none⟩ = some x4 ∧ w.cell? ⟨b, 5, none⟩ = some x5 ∧ w.cell? ⟨b, 6, none⟩ = some x6 :=
  ⟨by rw [row_cell h]; rfl, by rw [row_cell h]; rfl, by rw [row_cell h]; rfl, by rw [row_cell h]; rfl, by rw [row_cell h]; rfl, by rw [row_cell h]; rfl, by rw [row_cell h]; rfl⟩
/-- the table: its owners, the oldest first; where they lie (own: whose a block is) -/
structure Tab (own : Nat → Option Tx) (B : Nat) (w : World) (tb mb : Nat) (L : List Ow) (A : Tx → Ad) : Prop where
  obj : w.heap[tb]? = some (.cells #[.map (some mb)] 63 (0, 0))
  map : ∃ M : List Ow, MapT w mb (M.map fun o => (o.tx, ptr (A o.tx).ob)) ∧ M.Perm L
  ows : ∀ o ∈ L, OwIn (fun i => own i = some o.tx) w (A o.tx) o
  top : own tb = none ∧ own mb = none
  new : ∀ i, w.heap.size ≤ i → own i = none
  low : B ≤ tb ∧ B ≤ mb ∧ ∀ i t, own i = some t → B ≤ i
  srt : L.Pairwise fun x y => ltO x.key y.key
  ok : ∀ o ∈ L, OkO o
section
variable {own : Nat → Option Tx} {B : Nat} {w w' : World} {tb mb : Nat} {L : List Ow} {A : Tx → Ad}
theorem Tab.nodup (h : Tab own B w tb mb L A) : (L.map (·.tx)).Nodup := by
  obtain ⟨M, ⟨_, _, _, _, hn, _⟩, hp⟩ := h.map
  rw [List.map_map] at hn
  exact (hp.map (·.tx)).nodup_iff.1 hn
theorem Tab.mlt (h : Tab own B w tb mb L A) : mb < w.heap.size := by
  obtain ⟨M, hm, _⟩ := h.map
  exact hm.lt
theorem Tab.ne (h : Tab own B w tb mb L A) : tb ≠ mb := fun e => by
  obtain ⟨M, ⟨es, c, hm, _⟩, _⟩ := h.map
  have := h.obj
  rw [e, hm] at this
  cases this
/-- what writes nothing of it -/
theorem Tab.kept {F : Nat → Prop} (h : Tab own B w tb mb L A) (k : Kept F w w') (hF : ∀ i, i < w.heap.size → F i → own i = none ∧ i ≠ tb ∧ i ≠ mb) : Tab own B w' tb mb L A where
  obj := (k.block _ (row_lt h.obj) (fun hf => (hF _ (row_lt h.obj) hf).2.1 rfl)).trans h.obj
  map := by
    obtain ⟨M, hm, hp⟩ := h.map
    exact ⟨M, hm.of_block (k.block _ hm.lt (fun hf => (hF _ hm.lt hf).2.2 rfl)), hp⟩
  ows := fun o ho => (h.ows o ho).kept k (fun i hi ho hf => by rw [(hF i hi hf).1] at ho; cases ho)
  top := h.top
  new := fun i hi => h.new i (Nat.le_trans k.size hi)
  low := h.low
  srt := h.srt
  ok := h.ok
theorem Tab.same (h : Tab own B w tb mb L A) (k : Kept (fun _ => False) w w') : Tab own B w' tb mb L A := h.kept k (fun _ _ h => h.elim)
theorem Tab.under {F : Nat → Prop} (h : Tab own B w tb mb L A) (k : Kept F w w') (hF : ∀ i, F i → i < B) : Tab own B w' tb mb L A := h.kept k fun i _ hf => by
  have hb := hF i hf
  refine ⟨?_, fun e => ?_, fun e => ?_⟩
  · cases ho : own i with
    | none => rfl
    | some t => have := h.low.2.2 i t ho; omega
  · have := h.low.1; omega
  · have := h.low.2.1; omega
/-- the owner of a number -/
def findO (L : List Ow) (t : Tx) : Option Ow := L.find? fun o => decide (o.tx = t)
theorem findO_mem {t : Tx} {o : Ow} (h : findO L t = some o) : o ∈ L ∧ o.tx = t := by
  refine ⟨List.mem_of_find?_eq_some h, ?_⟩
  have := List.find?_some h
  simpa using this
theorem findO_none {t : Tx} (h : findO L t = none) : ∀ o ∈ L, o.tx ≠ t := fun o ho => by
  have := List.find?_eq_none.1 h o ho
  simpa using this
theorem findO_of (hn : (L.map (·.tx)).Nodup) {o : Ow} (ho : o ∈ L) : findO L o.tx = some o := by
  induction L with
  | nil => cases ho
  | cons x L ih =>
    simp only [List.map_cons, List.nodup_cons] at hn
    unfold findO
    rw [List.find?_cons]
    rcases List.mem_cons.1 ho with rfl | ho
    · simp
    · have : ¬ x.tx = o.tx := fun e => hn.1 (by rw [e]; exact List.mem_map.2 ⟨o, ho, rfl⟩)
      simp only [this, decide_false]
      exact ih hn.2 ho
theorem lookT_map (t : Tx) : ∀ M : List Ow, lookT (M.map fun o => (o.tx, ptr (A o.tx).ob)) t = (findO M t).map (fun _ => ptr (A t).ob)
  | [] => rfl
  | x :: M => by
    simp only [List.map_cons, lookT, findO, List.find?_cons]
    by_cases h : t = x.tx
    · subst h; simp
    · have : ¬ x.tx = t := fun e => h e.symm
      simp only [h, if_false, this, decide_false]
      exact lookT_map t M
theorem findO_perm {M : List Ow} (hp : M.Perm L) (hn : (L.map (·.tx)).Nodup) (t : Tx) : findO M t = findO L t := by
  cases h : findO L t with
  | none =>
    cases h2 : findO M t with
    | none => rfl
    | some o =>
      obtain ⟨h3, h4⟩ := findO_mem h2
      exact absurd h4 (findO_none h o (hp.mem_iff.1 h3))
  | some o =>
    obtain ⟨h3, h4⟩ := findO_mem h
    have hn' : (M.map (·.tx)).Nodup := (hp.map (·.tx)).nodup_iff.2 hn
    rw [← h4]
    exact findO_of hn' (hp.mem_iff.2 h3)
theorem Tab.cell (h : Tab own B w tb mb L A) : w.cell? ⟨tb, 0, none⟩ = some (.map (some mb)) := by rw [row_cell h.obj]; rfl
/-- m[t], m known -/
theorem Tab.look (h : Tab own B w tb mb L A) (t1 t2 t3 : Int) : ∃ M : List Ow, MapT w mb (M.map fun o => (o.tx, ptr (A o.tx).ob)) ∧ lookT (M.map fun o => (o.tx, ptr (A o.tx).ob)) (t1, t2, t3) = (findO L (t1, t2, t3)).map (fun _ => ptr (A (t1, t2, t3)).ob) := by
  obtain ⟨M, hm, hp⟩ := h.map
  exact ⟨M, hm, by rw [lookT_map, findO_perm hp h.nodup]⟩
end
end Go.Proofs.Ytpjhdpfaogdboaa
