/- The document's directory: a rising list; its functions. -/
import Derived.Test.YtekapdankpamiaaE
namespace Go.Proofs.Ytekapdankpamiaa
open Go.RowKit

theorem up_unique {l r : List Int} (hl : l.Pairwise (· < ·)) (hr : r.Pairwise (· < ·)) (h : ∀ x, x ∈ l ↔ x ∈ r) : l = r := by
  have hp : l.Perm r := (List.perm_ext_iff_of_nodup (hl.imp (fun h => by omega)) (hr.imp (fun h => by omega))).2 h
  exact List.Perm.eq_of_pairwise (le := fun a b => a ≤ b) (fun a b _ _ h1 h2 => by omega) (hl.imp (fun h => by omega)) (hr.imp (fun h => by omega)) hp
def insAt (v : Int) (D : List Int) : List Int := D.filter (fun x => decide (x < v)) ++ v :: D.filter (fun x => decide (v < x))
theorem insAt_up {v : Int} {D : List Int} (h : D.Pairwise (· < ·)) : (insAt v D).Pairwise (· < ·) := by
  unfold insAt
  rw [List.pairwise_append]
  refine ⟨h.filter _, ?_, ?_⟩
  · rw [List.pairwise_cons]
    exact ⟨fun x hx => by simpa using (List.mem_filter.1 hx).2, h.filter _⟩
  · intro a ha b hb
    have h1 : a < v := by simpa using (List.mem_filter.1 ha).2
    rcases List.mem_cons.1 hb with rfl | hb
    · exact h1
    · have h2 : v < b := by simpa using (List.mem_filter.1 hb).2
      omega
theorem mem_insAt {v x : Int} {D : List Int} : x ∈ insAt v D ↔ x = v ∨ x ∈ D := by
  simp only [insAt, List.mem_append, List.mem_cons, List.mem_filter, decide_eq_true_eq]
  by_cases h : x = v
  · simp [h]
  · have : x < v ∨ v < x := by omega
    rcases this with h1 | h1 <;> simp [h, h1]
    all_goals (intros; first | assumption | omega)
def upd (g : Int → Option (Int × Int)) (v : Int) (p : Int × Int) : Int → Option (Int × Int) := fun x => if x = v then some p else g x
theorem upd_dom {g : Int → Option (Int × Int)} (hd : Dom g) {v : Int} (hv : num v = true) (p : Int × Int) : Dom (upd g v p) := fun x hx => by
  unfold upd at hx
  split at hx
  · rename_i h; rw [h]; simpa [num] using hv
  · exact hd x hx
theorem doms_upd {g : Int → Option (Int × Int)} (hd : Dom g) {v : Int} (hv : num v = true) (p : Int × Int) : doms (upd g v p) = insAt v (doms g) :=
  up_unique (doms_up _) (insAt_up (doms_up _)) (fun x => by
    rw [mem_doms (upd_dom hd hv p), mem_insAt, mem_doms hd]
    unfold upd
    by_cases h : x = v <;> simp [h])
/-- what has been written when k entries have been gone through -/
def outK (v : Int) (l : List Int) : List Int := l.filter (fun x => decide (x < v)) ++ if l.any (fun x => decide (v < x)) then v :: l.filter (fun x => decide (v < x)) else []
theorem outK_lt {v x : Int} {l : List Int} (h : x < v) (hn : l.any (fun y => decide (v < y)) = false) : outK v (l ++ [x]) = outK v l ++ [x] := by
  have h2 : decide (v < x) = false := by simp; omega
  simp [outK, List.filter_append, List.any_append, h, h2, hn]
theorem outK_eq {v : Int} {l : List Int} : outK v (l ++ [v]) = outK v l := by
  simp [outK, List.filter_append, List.any_append]
theorem outK_gt {v x : Int} {l : List Int} (h : v < x) : outK v (l ++ [x]) = outK v l ++ (if l.any (fun y => decide (v < y)) then [x] else [v, x]) := by
  have h2 : decide (x < v) = false := by simp; omega
  cases ha : l.any (fun y => decide (v < y)) with
  | true => simp [outK, List.filter_append, List.any_append, h, h2, ha]
  | false =>
    have : l.filter (fun y => decide (v < y)) = [] := by
      rw [List.filter_eq_nil_iff]
      intro y hy
      rw [List.any_eq_false] at ha
      exact ha y hy
    simp [outK, List.filter_append, List.any_append, h, h2, ha, this]
theorem outK_all {v : Int} {l : List Int} : insAt v l = if l.any (fun y => decide (v < y)) then outK v l else outK v l ++ [v] := by
  cases ha : l.any (fun y => decide (v < y)) with
  | true => simp [outK, ha, insAt]
  | false =>
    have : l.filter (fun y => decide (v < y)) = [] := by
      rw [List.filter_eq_nil_iff]
      intro y hy
      rw [List.any_eq_false] at ha
      exact ha y hy
    simp [outK, ha, insAt, this]
theorem up_any {v x : Int} {l r : List Int} (h : (l ++ x :: r).Pairwise (· < ·)) (hx : x ≤ v) : l.any (fun y => decide (v < y)) = false := by
  rw [List.any_eq_false]
  intro y hy
  have := (List.pairwise_append.1 h).2.2 y hy x (by simp)
  simp
  omega
theorem ecell_upd {g : Int → Option (Int × Int)} {v x : Int} {p : Int × Int} (h : x ≠ v) : ecell (upd g v p) x = ecell g x := by
  simp [ecell, upd, h]
theorem ecells_app (g : Int → Option (Int × Int)) (l r : List Int) : ecells g (l ++ r) = ecells g l ++ ecells g r := by simp [ecells]
theorem ecells_single (g : Int → Option (Int × Int)) (v : Int) : ecells g [v] = ecell g v := by simp [ecells]
/-- block yb is the document's directory -/
def RD (w : World) (yb : Nat) (n : Int) (g : Int → Option (Int × Int)) : Prop :=
  ∃ v, w.heap[yb]? = some (.cells #[.int .i64 n, v] 45 (0, 0)) ∧ Own w 33 3 v (doms g).length (ecells g (doms g))
theorem RD.kept {w w' : World} {yb : Nat} {n : Int} {g : Int → Option (Int × Int)} {F : Nat → Prop} (h : RD w yb n g) (k : Kept F w w') (h1 : ¬ F yb) (h2 : ∀ b cur, w.heap[b]? = some (.cells cur 33 (0, 0)) → ¬ F b) : RD w' yb n g := by
  obtain ⟨v, a, b⟩ := h
  exact ⟨v, (k.block _ (row_lt a) h1).trans a, b.kept k (fun x hx => by obtain ⟨c, e⟩ := b.block hx; exact h2 x c e)⟩
theorem RD.same {w w' : World} {yb : Nat} {n : Int} {g : Int → Option (Int × Int)} (h : RD w yb n g) (k : Kept (fun _ => False) w w') : RD w' yb n g := h.kept k id (fun _ _ _ => id)
end Go.Proofs.Ytekapdankpamiaa
