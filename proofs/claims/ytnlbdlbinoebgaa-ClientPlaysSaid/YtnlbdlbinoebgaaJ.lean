/- gussetref09.Twin. -/
import Derived.Test.YtnlbdlbinoebgaaI
namespace Go.Proofs.Ytnlbdlbinoebgaa
open Go.RowKit
theorem mid_row {w : World} {b : Nat} {cur : Array Value} {T : TypeId} (h : w.heap[b]? = some (.cells cur T (0, 0))) (o : Nat) (l : List Value) (hl : o + l.length ≤ cur.size) :
    (w.setCells b o l).heap[b]? = some (.cells ((cur.toList.take o ++ l ++ cur.toList.drop (o + l.length)).toArray) T (0, 0)) ∧ Kept (fun g => g = b) w (w.setCells b o l) := by
  rw [← putRow_eq]
  refine ⟨?_, putRow_kept (F := fun g => g = b) (.inl rfl) _ _ _ (Kept.refl _ _)⟩
  obtain ⟨cs', h1, h2, h3, h4⟩ := putRow_block l w o cur h
  rw [h1]
  congr 2
  apply Array.ext_getElem?
  intro j
  have e : (cur.toList.take o).length = o := by rw [List.length_take, Array.length_toList]; omega
  by_cases hj : j < o
  · rw [h3 j hj]
    simp only [List.getElem?_toArray]
    rw [List.append_assoc, List.getElem?_append_left (by rw [e]; exact hj), List.getElem?_take, if_pos hj, Array.getElem?_toList]
  · by_cases hs : j < cur.size
    · rw [h4 j (by omega) hs]
      simp only [List.getElem?_toArray]
      by_cases hj2 : j < o + l.length
      · rw [if_pos hj2, List.append_assoc, List.getElem?_append_right (by omega), e, List.getElem?_append_left (by omega)]
      · rw [if_neg hj2, List.getElem?_append_right (by rw [List.length_append, e]; omega), List.length_append, e, List.getElem?_drop, Array.getElem?_toList]
        congr 1
        omega
    · rw [Array.getElem?_eq_none (by omega), Array.getElem?_eq_none (by simp; omega)]
section
variable {P : Program} {w : World} {ops : Array Oper} {rest : List Oper} {op : Oper} {a : Act} {Q : Exit → Act → World → Prop} {b : Nat} {T : TypeId}
/-- some cells of a row are stored -/
theorem wpList_store_midr (hgd : op.guard = none) (ty : TypeId) (x y : Operand) (ho : op.op = .store ty x y) (o : Nat) (cells cur : Array Value) (hx : a.eval x = .pointer (some ⟨b, o, none⟩)) (hy : a.eval y = .agg cells) (hb : w.heap[b]? = some (.cells cur T (0, 0))) (hs : o + cells.size ≤ cur.size)
    (hi : (P.info? ty).map (·.size) = some cells.size) (h1 : cells.all (·.oneCell') = true)
    (h : ∀ w', w'.heap[b]? = some (.cells ((cur.toList.take o ++ cells.toList ++ cur.toList.drop (o + cells.size)).toArray) T (0, 0)) → Kept (fun g => g = b) w w' → wpList P ops Q rest (a.put op.dst undef) w') : wpList P ops Q (op :: rest) a w := by
  have hm := mid_row hb o cells.toList (by simpa using hs)
  simp only [Array.length_toList] at hm
  refine wpList_plain hgd fun K hK => ?_
  exact wp_store_mid ty x y ho b o cells hx hy (fun j hj => ⟨by rw [row_cell hb]; simp; omega, row_free hb _⟩) hi h1 (hK _ _ (h _ hm.1 hm.2))
/-- a whole row is loaded -/
theorem wpList_load_rowc {cells : Array Value} (hgd : op.guard = none) (ty : TypeId) (x : Operand) (ho : op.op = .load ty x) (d : TypeDesc) (hx : a.eval x = .pointer (some ⟨b, 0, none⟩)) (hb : w.heap[b]? = some (.cells cells T (0, 0))) (hu : P.underlying ty = some d) (hd : d.isRow = true) (hi : (P.info? ty).map (·.size) = some cells.size)
    (h : wpList P ops Q rest (a.put op.dst (.agg cells)) w) : wpList P ops Q (op :: rest) a w := by
  refine wpList_load_mid hgd ty x ho b 0 hx cells.toList d (range_of hb) hu hd (by simpa using hi) ?_
  simpa using h
end
set_option maxHeartbeats 400000 in
/-- gussetref01.Twin -/
theorem twin_by {F : Nat → Prop} {w : World} {a : Option Addr} {n q : Nat} {cs : List Value} (h : Lies F w 1 (.slice a n q) n cs) (hl : n ≤ 140737488351232) :
    Calls Try.prog 27 #[.slice a n q] w fun e w' => ∃ a' q', e = .returned (.slice a' n q') ∧ Lies (fun g => g < w.heap.size) w' 1 (.slice a' n q') n cs ∧ Kept (fun _ => False) w w' := by
  have H := hid h
  have H1 := hid (show ∀ u ∈ cs, u.oneCell' = true from h.src.choose_spec.choose_spec.2.2.2.2)
  have hi : (Try.prog.info? 5).map (fun i => (i.zero, i.size, i.bytes)) = some (some (.int .u8 0), 1, 1) := by kernel_rfl
  clear h
  go_enter Try.func27, Try.ntmps27
  go_wp2_with (at_builtin; refine wpList_app rfl _ _ 42 rfl 5 (.int .u8 0) 1 1 Try.underlying42 hi rfl (by decide) (.slice (some ⟨w.heap.size, 0, none⟩) 0 0) 0 [] rfl (by exact own_empty w _ 1) (.slice a n q) rfl n cs (by exact (H.out.same ((Kept.refl _ _).alloc _)).src) (by unfold maxLen; omega) (by omega) ?_; refine Hid.out ?_)
  refine hid ?_
  intro a2 q2 w2 ho2 hk2 hf2 _
  have HO := hid ho2; have HF := hid hf2; have HK := hid hk2
  clear ho2 hf2 hk2
  go_wp2
  go_ret
  refine ⟨a2, q2, rfl, HO.out.lies H1.out (fun g hg => ?_), ((Kept.refl _ w).alloc _).trans' HK.out (fun i hi => by simp [Value.ownBlock] at hi; right; omega)⟩
  rcases HF.out g hg with h | h
  · simp [Value.ownBlock] at h; omega
  · (try simp at h); omega
structure Vx where
  id : Int
  th : Bool
  np : Nat
  pc : List Value
  nh : Nat
  hc : List Value
def vxC (x : Vx) (p : Value × Value) : List Value := [.int .u32 x.id, .bool x.th, p.1, p.2]
structure VxIn (F : Nat → Prop) (w : World) (x : Vx) (p : Value × Value) : Prop where
  lp : Lies F w 4 p.1 x.np x.pc
  lh : Lies F w 4 p.2 x.nh x.hc
  bp : x.np * 40 ≤ 140737488351232
  bh : x.nh * 40 ≤ 140737488351232
theorem VxIn.kept {F G : Nat → Prop} {w w' : World} {x : Vx} {p : Value × Value} (h : VxIn F w x p) (k : Kept G w w') (hg : ∀ g, g < w.heap.size → G g → F g) : VxIn F w' x p := ⟨h.lp.kept k hg, h.lh.kept k hg, h.bp, h.bh⟩
theorem VxIn.mono {F G : Nat → Prop} {w : World} {x : Vx} {p : Value × Value} (h : VxIn F w x p) (hg : ∀ g, g < w.heap.size → G g → F g) : VxIn G w x p := ⟨h.lp.mono hg, h.lh.mono hg, h.bp, h.bh⟩
def flatx (X : List Vx) (P : List (Value × Value)) : List Value := (X.zip P).flatMap fun e => vxC e.1 e.2
theorem flatx_len {X : List Vx} {P : List (Value × Value)} (h : P.length = X.length) : (flatx X P).length = X.length * 4 := by
  unfold flatx
  rw [flat_len _ 4 (fun _ => rfl), List.length_zip, h, Nat.min_self]
theorem flatx_at {X : List Vx} {P : List (Value × Value)} {k : Nat} {x : Vx} {p : Value × Value} (hx : X[k]? = some x) (hp : P[k]? = some p) {j : Nat} (hj : j < 4) : (flatx X P)[k * 4 + j]? = (vxC x p)[j]? := by
  unfold flatx
  exact flat_at (fun e : Vx × Value × Value => vxC e.1 e.2) 4 (fun _ => rfl) (X.zip P) k (x, p) j (by rw [List.getElem?_zip_eq_some]; exact ⟨hx, hp⟩) hj
theorem flatx_snoc {X : List Vx} {P : List (Value × Value)} (h : P.length = X.length) (x : Vx) (p : Value × Value) : flatx (X ++ [x]) (P ++ [p]) = flatx X P ++ vxC x p := by
  unfold flatx
  rw [List.zip_append h.symm]
  simp
structure VertsIn (F : Nat → Prop) (w : World) (v : Value) (X : List Vx) : Prop where
  ex : ∃ P : List (Value × Value), P.length = X.length ∧ Lies F w 4 v X.length (flatx X P) ∧ ∀ (i : Nat) x p, X[i]? = some x → P[i]? = some p → VxIn F w x p
  b : X.length * 56 ≤ 140737488351232
theorem VertsIn.kept {F G : Nat → Prop} {w w' : World} {v : Value} {X : List Vx} (h : VertsIn F w v X) (k : Kept G w w') (hg : ∀ g, g < w.heap.size → G g → F g) : VertsIn F w' v X := by
  obtain ⟨⟨P, h1, h2, h3⟩, hb⟩ := h
  exact ⟨⟨P, h1, h2.kept k hg, fun i x p hx hp => (h3 i x p hx hp).kept k hg⟩, hb⟩
theorem VertsIn.same {F : Nat → Prop} {w w' : World} {v : Value} {X : List Vx} (h : VertsIn F w v X) (k : Kept (fun _ => False) w w') : VertsIn F w' v X := h.kept k (fun _ _ h => h.elim)
theorem VertsIn.mono {F G : Nat → Prop} {w : World} {v : Value} {X : List Vx} (h : VertsIn F w v X) (hg : ∀ g, g < w.heap.size → G g → F g) : VertsIn G w v X := by
  obtain ⟨⟨P, h1, h2, h3⟩, hb⟩ := h
  exact ⟨⟨P, h1, h2.mono hg, fun i x p hx hp => (h3 i x p hx hp).mono hg⟩, hb⟩
end Go.Proofs.Ytnlbdlbinoebgaa
