/- Faults: New, Wrap; build. -/
import Derived.Test.YtlkhbepmkembgaaDoorR
namespace Go.Proofs.YtlkhbepmkembgaaDoor
open Go.RowKit
theorem wpList_min {P : Program} {w : World} {ops : Array Oper} {rest : List Oper} {o : Oper} {a : Act} {Q : Exit → Act → World → Prop} (hgd : o.guard = none) (x y : Operand) (ts : Array TypeId)
    (ho : o.op = .call { callee := .builtin .min, args := #[x, y], argTypes := ts }) (m n r : Int) (hx : a.eval x = .int .i64 m) (hy : a.eval y = .int .i64 n) (hr : (if n < m then n else m) = r)
    (h : wpList P ops Q rest (a.put o.dst (.int .i64 r)) w) : wpList P ops Q (o :: rest) a w := by
  refine wpList_run (v := .int .i64 r) hgd ?_ h
  subst hr
  simp [execOp, ho, resolve, invoke, builtin, hx, hy, Builtin.min_, Builtin.min2, Result.andThen]
theorem lcells_take : ∀ (L : List FL) (n : Nat), lcells (L.take n) = (lcells L).take (n * 2)
  | [], n => by simp [lcells]
  | l :: L, 0 => by simp [lcells]
  | l :: L, n + 1 => by
    have h := lcells_take L n
    have e : ∀ (M : List FL), lcells (l :: M) = .int .i64 l.1 :: .int .u32 l.2 :: lcells M := fun _ => rfl
    rw [List.take_succ_cons, e, e, h, show (n + 1) * 2 = n * 2 + 1 + 1 by omega, List.take_succ_cons, List.take_succ_cons]
theorem ll_pre {F : Nat → Prop} {w : World} {a : Option Addr} {N c : Nat} {L : List FL} (h : Lies F w 2 (.slice a N c) N (lcells L)) (hL : L.length = N) {n : Nat} (hn : n ≤ N) : Lies F w 2 (.slice a n c) n (lcells (L.take n)) := by
  obtain ⟨ao, c', e, h2, h3, h4, h5, h6, h7⟩ := h
  simp only [Value.slice.injEq] at e
  obtain ⟨rfl, _, rfl⟩ := e
  refine ⟨a, c, rfl, Nat.le_trans hn h2, h3, ?_, fun ha => ?_, fun hm => ?_, lcells_one _⟩
  · rw [lcells_len, List.length_take]; omega
  · have := h5 ha; omega
  · obtain ⟨g, o, e, hF, hg, hc⟩ := h6 (by omega)
    refine ⟨g, o, e, hF, hg, fun j u hu => hc j u ?_⟩
    rw [lcells_take, List.getElem?_take] at hu
    split at hu
    · exact hu
    · cases hu
theorem ll_one {F : Nat → Prop} {w : World} {g : Nat} {E : TypeId} (l : FL) (hF : ¬ F g) (h : w.heap[g]? = some (.cells #[.int .i64 l.1, .int .u32 l.2] E (0, 0))) : Lies F w 2 (.slice (some ⟨g, 0, none⟩) 1 1) [l].length (lcells [l]) := by
  refine ⟨_, 1, rfl, Nat.le_refl _, by decide, rfl, (fun h => nomatch h), fun _ => ⟨g, 0, rfl, hF, row_lt h, fun j u hu => ?_⟩, lcells_one _⟩
  rw [Nat.zero_add, row_cell h]
  simpa [lcells, lcell] using hu
/-- an error about r with these links; nil, if r is OK -/
def ErO (w : World) (v : Value) (ls : List FL) (r : Int) : Prop := if r = 0 then v = .nilIface else LinksAt w (rootV r) ls v
theorem LinksAt.blocks {w w' : World} {b : Value} (hB : ∀ (bk : Nat) (cs : Array Value), w.heap[bk]? = some (.cells cs 59 (0, 0)) → w'.heap[bk]? = some (.cells cs 59 (0, 0))) : ∀ {ls : List FL} {v : Value}, LinksAt w b ls v → LinksAt w' b ls v
  | [], _, h => h
  | _ :: _, _, ⟨bk, e, h1, h2, h3⟩ => ⟨bk, e, h1, hB bk _ h2, h3.blocks hB⟩
theorem ErO.blocks {w w' : World} {v : Value} {ls : List FL} {r : Int} (h : ErO w v ls r) (hB : ∀ (bk : Nat) (cs : Array Value), w.heap[bk]? = some (.cells cs 59 (0, 0)) → w'.heap[bk]? = some (.cells cs 59 (0, 0))) : ErO w' v ls r := by
  unfold ErO at *
  split
  · rename_i hr; rwa [if_pos hr] at h
  · rename_i hr; rw [if_neg hr] at h; exact h.blocks hB
theorem ErO.kept {w w' : World} {v : Value} {ls : List FL} {r : Int} (h : ErO w v ls r) (k : Kept (fun _ => False) w w') : ErO w' v ls r :=
  h.blocks fun bk cs hb => (k.block bk (row_lt hb) id).trans hb
theorem errAt_links {w : World} {v : Value} {ls : List FL} {r : Int} (h : LinksAt w (rootV r) ls v) : ErrAt w v ls r (fun c => r == c) := ⟨rootV r, ls, [], .inl ⟨rfl, rfl, fun _ => rfl⟩, h, by simp⟩
theorem ErO.nil {w : World} {v : Value} {ls : List FL} (h : ErO w v ls 0) : v = .nilIface := by simpa [ErO] using h
theorem ErO.links {w : World} {v : Value} {ls : List FL} {r : Int} (h : ErO w v ls r) (hr : r ≠ 0) : LinksAt w (rootV r) ls v := by unfold ErO at h; rwa [if_neg hr] at h
theorem ErO.err {w : World} {v : Value} {ls : List FL} {r : Int} (h : ErO w v ls r) (hr : r ≠ 0) : ErrAt w v ls r (fun c => r == c) := errAt_links (h.links hr)
theorem LinksAt.wrap {w w' : World} {b v : Value} {ls : List FL} (h : LinksAt w b ls v) (k : Kept (fun _ => False) w w') {bk : Nat} (l : FL) (hr : w'.heap[bk]? = some (.cells #[.int .i64 l.1, .int .u32 l.2, v] 59 (0, 0))) :
    LinksAt w' b (l :: ls) (.iface 56 (.pointer (some ⟨bk, 0, none⟩))) := ⟨bk, v, rfl, hr, h.kept k (fun _ _ => id)⟩
theorem ErrAt.wrap {w w' : World} {v : Value} {ls : List FL} {r : Int} {has : Int → Bool} (h : ErrAt w v ls r has) (k : Kept (fun _ => False) w w') {bk : Nat} (l : FL) (hr : w'.heap[bk]? = some (.cells #[.int .i64 l.1, .int .u32 l.2, v] 59 (0, 0))) :
    ErrAt w' (.iface 56 (.pointer (some ⟨bk, 0, none⟩))) (l :: ls) r has := by
  obtain ⟨b, l1, l0, h1, h2, h3⟩ := h
  exact ⟨b, l :: l1, l0, h1.kept k (fun _ _ => id), ⟨bk, v, rfl, hr, h2.kept k (fun _ _ => id)⟩, by rw [h3]; rfl⟩
set_option maxRecDepth 100000 in
theorem new_any (r : Int) (l : FL) (w : World) :
    Calls Tryd.prog 17 #[.int .i64 r, .int .i64 l.1, .int .u32 l.2] w fun e w' => ∃ v, e = .returned v ∧ ErO w' v [l] r ∧ Kept (fun _ => False) w w' := by
  by_cases hr : r = 0
  · subst hr
    go_enter Tryd.func17, Tryd.ntmps17
    go_wp2_with fail
    go_ret
    exact ⟨_, rfl, by simp [ErO], Kept.refl _ _⟩
  · have hr' : (r == 0) = false := by simpa using hr
    have HR := hid hr
    clear hr
    go_enter Tryd.func17, Tryd.ntmps17
    go_wp2_with fail
    go_ret
    refine ⟨_, rfl, ?_, (Kept.refl _ _).alloc _⟩
    unfold ErO
    rw [if_neg HR.out]
    exact LinksAt.wrap (b := rootV r) (ls := []) rfl ((Kept.refl _ _).alloc _) l (row_new _ _)
set_option maxRecDepth 100000 in
theorem wrap_some {w : World} {v : Value} {ls : List FL} {r : Int} {has : Int → Bool} (h : ErrAt w v ls r has) (l : FL) :
    Calls Tryd.prog 16 #[v, .int .i64 l.1, .int .u32 l.2] w fun e w' => ∃ v, e = .returned v ∧ ErrAt w' v (l :: ls) r has ∧ Kept (fun _ => False) w w' := by
  obtain ⟨te, pe, rfl⟩ := h.iface
  have HE := hid h
  clear h
  go_enter Tryd.func16, Tryd.ntmps16
  go_wp2_with fail
  go_ret
  exact ⟨_, rfl, HE.out.wrap ((Kept.refl _ _).alloc _) l (row_new _ _), (Kept.refl _ _).alloc _⟩
set_option maxRecDepth 100000 in
theorem wrap_nil (l : FL) (w : World) :
    Calls Tryd.prog 16 #[.nilIface, .int .i64 l.1, .int .u32 l.2] w fun e w' => e = .returned .nilIface ∧ w = w' := by
  go_enter Tryd.func16, Tryd.ntmps16
  go_wp2_with fail
  go_ret
  exact ⟨rfl, rfl⟩
set_option maxRecDepth 100000 in
theorem wrap_links {w : World} {v : Value} {ls : List FL} {r : Int} (h : LinksAt w (rootV r) ls v) (l : FL) :
    Calls Tryd.prog 16 #[v, .int .i64 l.1, .int .u32 l.2] w fun e w' => ∃ v, e = .returned v ∧ LinksAt w' (rootV r) (l :: ls) v ∧ Kept (fun _ => False) w w' := by
  obtain ⟨te, pe, rfl⟩ := h.iface rfl
  have HE := hid h
  clear h
  go_enter Tryd.func16, Tryd.ntmps16
  go_wp2_with fail
  go_ret
  exact ⟨_, rfl, HE.out.wrap ((Kept.refl _ _).alloc _) l (row_new _ _), (Kept.refl _ _).alloc _⟩
theorem wrap_any {w : World} {v : Value} {ls : List FL} {r : Int} (h : ErO w v ls r) (l : FL) :
    Calls Tryd.prog 16 #[v, .int .i64 l.1, .int .u32 l.2] w fun e w' => ∃ v, e = .returned v ∧ ErO w' v (l :: ls) r ∧ Kept (fun _ => False) w w' := by
  unfold ErO at *
  by_cases hr : r = 0
  · simp only [hr, if_true] at h ⊢
    subst h
    exact (wrap_nil l w).mono fun e w' ⟨h1, h2⟩ => ⟨_, h1, rfl, h2 ▸ Kept.refl _ _⟩
  · simp only [hr, if_false] at h ⊢
    exact wrap_links h l
theorem Lies.fresh {F : Nat → Prop} {w : World} {size : Nat} {v : Value} {m : Nat} {news : List Value} (h : Lies F w size v m news) : Lies (fun g => w.heap.size ≤ g) w size v m news := by
  obtain ⟨ao, c, h1, h2, h2', h3, h4, h5, h6⟩ := h
  refine ⟨ao, c, h1, h2, h2', h3, h4, fun hm => ?_, h6⟩
  obtain ⟨g, off, e, hF, hl, hc⟩ := h5 hm
  exact ⟨g, off, e, Nat.not_le_of_lt hl, hl, hc⟩
end Go.Proofs.YtlkhbepmkembgaaDoor
