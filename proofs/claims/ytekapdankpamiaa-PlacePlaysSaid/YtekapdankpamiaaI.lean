/- PlaceOne's walk. -/
import Derived.Test.YtekapdankpamiaaE
import Derived.Test.YtekapdankpamiaaF
namespace Go.Proofs.Ytekapdankpamiaa
open Go.RowKit

def ocell (m : Mv) : List Value := [.int .u32 m.1, .int .u32 m.2.1, .int .u8 m.2.2.1, .int .u8 m.2.2.2.1, .int .u32 m.2.2.2.2.1, .int .u32 m.2.2.2.2.2]
abbrev MvB (m : Mv) : Prop := (0 ≤ m.1 ∧ m.1 ≤ 4294967295) ∧ (0 ≤ m.2.1 ∧ m.2.1 ≤ 4294967295) ∧ (0 ≤ m.2.2.1 ∧ m.2.2.1 ≤ 255) ∧ (0 ≤ m.2.2.2.1 ∧ m.2.2.2.1 ≤ 255) ∧ (0 ≤ m.2.2.2.2.1 ∧ m.2.2.2.2.1 ≤ 4294967295) ∧ (0 ≤ m.2.2.2.2.2 ∧ m.2.2.2.2.2 ≤ 4294967295)
theorem cellsOp : Try.prog.cellsOf 30 = 6 := by kernel_rfl
theorem bytesOp : Try.prog.bytesOf 30 = 20 := by kernel_rfl
theorem script_read {w : World} {v : Value} (h : RdV Try.prog w 22 v) : ∃ (a : Option Addr) (cap : Nat) (L : List Mv), v = .slice a L.length cap ∧ Lies (fun g => w.heap.size ≤ g) w 6 (.slice a L.length cap) L.length (L.flatMap ocell) ∧ L.length ≤ 17592186043904 ∧ ∀ x ∈ L, MvB x := by
  obtain ⟨a, len, cap, rfl, h0⟩ := h.slice Try.underlying22
  obtain ⟨l, hl, hv, hb, hq⟩ := lies_of ocell 6 (fun _ => rfl) (by decide) (fun x u hu => by simp [ocell] at hu; rcases hu with rfl | rfl | rfl | rfl | rfl | rfl <;> rfl) (0, 0, 0, 0, 0, 0) Try.underlying22 cellsOp MvB (fun es h1 h2 => by
    obtain ⟨v, u, t, nd, ep, si, rfl, q⟩ := op_read h2 h1
    exact ⟨(v, u, t, nd, ep, si), rfl, q⟩) h0
  subst hl
  rw [bytesOp] at hb
  simp only [reachBytes] at hb
  exact ⟨a, cap, l, rfl, hv, by omega, hq⟩
theorem ocell_at : ∀ (l : List Mv) (i : Nat) (m : Mv), l[i]? = some m → ∀ r, r < 6 → (l.flatMap ocell)[i * 6 + r]? = (ocell m)[r]?
  | y :: l, 0, x, h, r, hr => by
    simp at h; subst h
    rw [List.flatMap_cons, List.getElem?_append_left (by simp [ocell]; omega)]
    simp
  | y :: l, i + 1, x, h, r, hr => by
    rw [List.flatMap_cons, List.getElem?_append_right (by simp [ocell]; omega), show (i + 1) * 6 + r - (ocell y).length = i * 6 + r from by simp [ocell]; omega]
    exact ocell_at l i x (by simpa using h) r hr
/-- an op of the script, in a world where nothing old has changed -/
theorem op_cells {F : Nat → Prop} {w w' : World} {a : Option Addr} {cap : Nat} {L : List Mv} (h : Lies F w 6 (.slice a L.length cap) L.length (L.flatMap ocell)) (hk : Kept (fun _ => False) w w') {i : Nat} {m : Mv} (hm : L[i]? = some m) :
    ∃ g o, a = some ⟨g, o, none⟩ ∧ w'.cell? ⟨g, o + i * 6, none⟩ = some (.int .u32 m.1) ∧ w'.cell? ⟨g, o + i * 6 + 1, none⟩ = some (.int .u32 m.2.1) ∧ w'.cell? ⟨g, o + i * 6 + 2, none⟩ = some (.int .u8 m.2.2.1) ∧ w'.cell? ⟨g, o + i * 6 + 3, none⟩ = some (.int .u8 m.2.2.2.1) ∧ w'.cell? ⟨g, o + i * 6 + 4, none⟩ = some (.int .u32 m.2.2.2.2.1) ∧ w'.cell? ⟨g, o + i * 6 + 5, none⟩ = some (.int .u32 m.2.2.2.2.2) := by
  obtain ⟨g, o, c, e, _, _, _, _, z⟩ := (h.same hk).cell (by have := (List.getElem?_eq_some_iff.1 hm).1; omega)
  simp only [Value.slice.injEq] at e
  refine ⟨g, o, e.1, ?_, ?_, ?_, ?_, ?_, ?_⟩
  · exact z (i * 6 + 0) _ (ocell_at L i m hm 0 (by omega))
  all_goals rw [Nat.add_assoc]
  · exact z (i * 6 + 1) _ (ocell_at L i m hm 1 (by omega))
  · exact z (i * 6 + 2) _ (ocell_at L i m hm 2 (by omega))
  · exact z (i * 6 + 3) _ (ocell_at L i m hm 3 (by omega))
  · exact z (i * 6 + 4) _ (ocell_at L i m hm 4 (by omega))
  · exact z (i * 6 + 5) _ (ocell_at L i m hm 5 (by omega))
def Conf (m m' : Mv) : Prop := m.1 = m'.1 ∧ m.2.2.2.2.1 = m'.2.2.2.2.1 ∧ m.2.2.1 ≠ m'.2.2.1
theorem noconf_of {M : List Mv} (h : ∀ (i j : Nat) (m m' : Mv), j < i → M[i]? = some m → M[j]? = some m' → ¬ Conf m m') : NoConf M := by
  intro m hm m' hm' e1 e2
  obtain ⟨i, hi⟩ := List.mem_iff_getElem?.1 hm
  obtain ⟨j, hj⟩ := List.mem_iff_getElem?.1 hm'
  refine Classical.byContradiction fun hne => ?_
  rcases Nat.lt_trichotomy i j with hlt | rfl | hlt
  · exact h j i m' m hlt hj hi ⟨e1.symm, e2.symm, fun h => hne h.symm⟩
  · rw [hi] at hj; simp at hj; rw [hj] at hne; exact hne rfl
  · exact h i j m m' hlt hi hj ⟨e1, e2, hne⟩
theorem conf_in {L : List Mv} {m p : Mv} {j : Nat} (h : ∀ (j' : Nat) (m' : Mv), j' < j → L[j']? = some m' → ¬ Conf m m') (hp : L[j]? = some p) (hno : ¬ Conf m p) : ∀ (j' : Nat) (m' : Mv), j' < j + 1 → L[j']? = some m' → ¬ Conf m m' := by
  intro j' m' hj hm
  rcases Nat.lt_succ_iff_lt_or_eq.1 hj with h1 | rfl
  · exact h j' m' h1 hm
  · rw [hp] at hm; simp at hm; rw [← hm]; exact hno
theorem conf_out {L : List Mv} {m : Mv} {k : Nat} (h : ∀ (i j : Nat) (m m' : Mv), i < k → j < i → L[i]? = some m → L[j]? = some m' → ¬ Conf m m') (hm : L[k]? = some m) (hn : ∀ (j' : Nat) (m' : Mv), j' < k → L[j']? = some m' → ¬ Conf m m') : ∀ (i j : Nat) (m m' : Mv), i < k + 1 → j < i → L[i]? = some m → L[j]? = some m' → ¬ Conf m m' := by
  intro i j a b hi hj ha hb
  rcases Nat.lt_succ_iff_lt_or_eq.1 hi with h1 | rfl
  · exact h i j a b h1 hj ha hb
  · rw [hm] at ha; simp at ha; rw [← ha]; exact hn j b hj hb
theorem noconf_take {L : List Mv} {N : Nat} (h : ∀ (i j : Nat) (m m' : Mv), i < N → j < i → L[i]? = some m → L[j]? = some m' → ¬ Conf m m') : NoConf (L.take N) :=
  noconf_of fun i j m m' hj hi hjm => by
    have hiN : i < N := by have := (List.getElem?_eq_some_iff.1 hi).1; simp at this; omega
    rw [List.getElem?_take, if_pos hiN] at hi
    rw [List.getElem?_take, if_pos (by omega)] at hjm
    exact h i j m m' hiN hj hi hjm
theorem rev_step {M : List Mv} {k : Nat} {m : Mv} (h : M[M.length - 1 - k]? = some m) (hk : k < M.length) : M.reverse.take (k + 1) = M.reverse.take k ++ [m] := by
  rw [List.take_add_one, List.getElem?_reverse hk, h]; rfl
theorem tk_step {M : List Mv} {k : Nat} {m : Mv} (h : M[k]? = some m) : M.take (k + 1) = M.take k ++ [m] := by
  rw [List.take_add_one, h]; rfl
theorem one_law {n : Int} {M : List Mv} (hc : NoConf M) (k : Nat) : mvs n (fun _ => none) (M.reverse ++ M.drop k) = mvs n (fun _ => none) M :=
  (tells_one (tells_mvs n M) (tells_mvs n (M.reverse ++ M.drop k)) (fun m => by
    rw [List.mem_append, List.mem_reverse]
    exact ⟨fun h => .inl h, fun h => h.elim id (fun h => List.mem_of_mem_drop h)⟩) hc).symm
end Go.Proofs.Ytekapdankpamiaa
