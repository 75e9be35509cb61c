/- Put: what it makes, by its ways. -/
import Derived.Test.YtfmohmlpcielnaaH
namespace Go.Proofs.Ytfmohmlpcielnaa
open Go.RowKit

theorem findP_some {PL : List (List It)} {k : Int} {i j : Nat} (h : findP PL k = (i, j, true)) : ∃ L v0, PL[i]? = some L ∧ L[j]? = some (k, v0) := by
  unfold findP at h
  cases hL : PL[aft (PL.map lastK) k]? with
  | none => rw [hL] at h; simp at h
  | some L =>
    rw [hL] at h
    simp only [Prod.mk.injEq, decide_eq_true_eq] at h
    obtain ⟨rfl, rfl, h3⟩ := h
    rw [List.getElem?_map, Option.map_eq_some_iff] at h3
    obtain ⟨⟨a, b⟩, h4, rfl⟩ := h3
    exact ⟨L, b, hL, h4⟩
theorem putP_found {PL : List (List It)} {k v : Int} {i j : Nat} {L : List It} (h : findP PL k = (i, j, true)) (hL : PL[i]? = some L) : putP PL k v = PL.take i ++ [L.set j (k, v)] ++ PL.drop (i + 1) := by
  unfold putP
  rw [h]
  simp only [if_true, hL, Option.getD_some]
  rw [set_at (List.getElem?_eq_some_iff.1 hL).1]
  simp
theorem putP_new {PL : List (List It)} {k v : Int} {i j i' j' : Nat} {L : List It} (h : findP PL k = (i', j', false)) (hs : spot PL k = (i, j)) (hL : PL[i]? = some L) : putP PL k v = PL.take i ++ split8 (putI L j (k, v)) ++ PL.drop (i + 1) := by
  have he : PL ≠ [] := by rintro rfl; simp at hL
  unfold putP
  rw [h, hs, if_neg he]
  simp [hL]
theorem putP_first {k v : Int} : putP [] k v = [[(k, v)]] := rfl
theorem flat_len_set {PL : List (List It)} {i : Nat} {L M : List It} (hL : PL[i]? = some L) (d : Nat) (hM : M.length = L.length + d) : (PL.take i ++ [M] ++ PL.drop (i + 1)).flatten.length = PL.flatten.length + d := by
  have : PL.flatten = (PL.take i ++ [L] ++ PL.drop (i + 1)).flatten := by
    conv => lhs; rw [split_at hL]
    simp
  rw [this]
  simp only [List.flatten_append, List.length_append, List.flatten_cons, List.flatten_nil, List.append_nil]
  omega
theorem putP_len {PL : List (List It)} {k : Int} (v : Int) {i j : Nat} {b : Bool} (h : findP PL k = (i, j, b)) : (putP PL k v).flatten.length = PL.flatten.length + (if b then 0 else 1) := by
  cases b with
  | true =>
    obtain ⟨L, v0, hL, hx⟩ := findP_some h
    rw [putP_found h hL, if_pos rfl]
    exact flat_len_set hL 0 (by simp)
  | false =>
    rw [if_neg (by simp)]
    by_cases he : PL = []
    · subst he; rfl
    · have hlt := spot_lt he k
      obtain ⟨L, hL⟩ : ∃ L, PL[(spot PL k).1]? = some L := ⟨_, List.getElem?_eq_getElem hlt⟩
      rw [putP_new h rfl hL]
      have := flat_len_set (M := putI L (spot PL k).2 (k, v)) hL 1 (putI_len _ _ _)
      simp only [List.flatten_append, split8_flat, List.length_append, List.flatten_cons, List.flatten_nil, List.append_nil] at this ⊢
      exact this
theorem spot_ways {S : List Pg} {k : Int} {i j i' j' : Nat} {b : Bool} {L : List It} (hf : findP (pl S) k = (i', j', b)) (hs : spot (pl S) k = (i, j)) (hL : (pl S)[i]? = some L) : i' = S.length ∧ i = S.length - 1 ∧ j = L.length ∨ i' < S.length ∧ i = i' ∧ j = j' := by
  have hle := aft_le ((pl S).map lastK) k
  have hlen : ((pl S).map lastK).length = S.length := by simp [pl]
  have hlen2 : (pl S).length = S.length := by simp [pl]
  rw [hlen] at hle
  have h1 : i' = aft ((pl S).map lastK) k := by
    unfold findP at hf
    split at hf <;> (simp only [Prod.mk.injEq] at hf; exact hf.1.symm)
  unfold spot at hs
  split at hs
  · rename_i h2
    simp only [Prod.mk.injEq] at hs
    obtain ⟨rfl, rfl⟩ := hs
    refine .inl ⟨by omega, by omega, ?_⟩
    rw [List.getLast?_eq_getElem?, hL]; rfl
  · rw [hf] at hs
    simp only [Prod.mk.injEq] at hs
    exact .inr ⟨by omega, by omega, hs.2.symm⟩
theorem spot_le {PL : List (List It)} {k : Int} {i j : Nat} {L : List It} (hs : spot PL k = (i, j)) (hL : PL[i]? = some L) : j ≤ L.length := by
  unfold spot at hs
  split at hs
  · simp only [Prod.mk.injEq] at hs
    obtain ⟨rfl, rfl⟩ := hs
    rw [List.getLast?_eq_getElem?, hL]; exact Nat.le_refl _
  · simp only [Prod.mk.injEq] at hs
    obtain ⟨rfl, rfl⟩ := hs
    unfold findP
    rw [hL]
    have := aft_le (L.map (·.1)) k
    simpa using this
def putE (PL : List (List It)) (k : Int) : Int := if (findP PL k).2.2 then 0 else if 4096 ≤ PL.flatten.length then 10 else 0
def putQ (PL : List (List It)) (k v : Int) : List (List It) := if (findP PL k).2.2 then putP PL k v else if 4096 ≤ PL.flatten.length then PL else putP PL k v
theorem putQ_wf {PL : List (List It)} (hw : Wf PL) (k v : Int) : Wf (putQ PL k v) := by
  unfold putQ
  split
  · exact putP_wf hw k v
  · split
    · exact hw
    · exact putP_wf hw k v
theorem icells_set : ∀ (L : List It) (j : Nat) (k v v0 : Int), L[j]? = some (k, v0) → (icells L).set (j * 2 + 1) (.int .u64 v) = icells (L.set j (k, v))
  | x :: L, 0, k, v, v0, h => by simp at h; subst h; simp [icells, icell]
  | x :: L, j + 1, k, v, v0, h => by
    have := icells_set L j k v v0 (by simpa using h)
    have e : icells (x :: L) = .int .u64 x.1 :: .int .u64 x.2 :: icells L := by simp [icells, icell]
    rw [e, show (j + 1) * 2 + 1 = (j * 2 + 1) + 1 + 1 from by omega, List.set_cons_succ, List.set_cons_succ, this, List.set_cons_succ]
    simp [icells, icell]
theorem PgFar.single (x : Pg) : [x].Pairwise PgFar := by simp
/-- one page's items are other ones -/
theorem IxAt.setPage {F K : Nat → Prop} {w w' : World} {xb : Nat} {pv : Value} {S : List Pg} {n n' : Int} {i pb : Nat} {iv iv' : Value} {L L' : List It} (h : IxAt F w xb pv S n) (hx : S[i]? = some (pb, iv, L)) (k : Kept K w w')
    (hK : ∀ g, K g → g < w.heap.size → g = xb ∨ g = pb ∨ iv.ownBlock = some g) (r : w'.heap[xb]? = some (.cells #[pv, .int .i64 n'] 64 (0, 0))) (p : PgAt w' pb iv' L')
    (hf : ∀ g, iv'.ownBlock = some g → F g ∧ (iv.ownBlock = some g ∨ w.heap.size ≤ g)) : IxAt F w' xb pv (S.take i ++ [(pb, iv', L')] ++ S.drop (i + 1)) n' := by
  have hmem := List.mem_of_getElem? hx
  have hp := h.p _ hmem
  have hS := page_split hx
  have hlt := (List.getElem?_eq_some_iff.1 hx).1
  have hb := (h.b _ hmem).1
  have hs : Seg w' 69 1 pv S.length (ptrs S) := h.s.kept k (fun g hg hKg => by
    rcases hK g hKg (h.s.lt hg) with e | e | e
    · subst e; exact h.s.ne_block h.r (by decide) hg
    · subst e; exact h.s.ne_block hp.r (by decide) hg
    · exact h.s.ne hp.s (by decide) hg e)
  have hff := h.f
  rw [hS] at h
  refine h.re k (fun g hg hl => ?_) r ?_ ?_ hff ?_ (PgFar.single _) ?_ ?_
  · rcases hK g hg hl with e | e | e
    · exact .inl e
    · exact .inr (.inr ⟨_, List.mem_singleton.2 rfl, .inl e⟩)
    · exact .inr (.inr ⟨_, List.mem_singleton.2 rfl, .inr e⟩)
  · have e1 : (S.take i ++ [(pb, iv', L')] ++ S.drop (i + 1)).length = S.length := by simp; omega
    have e2 : ptrs (S.take i ++ [(pb, iv', L')] ++ S.drop (i + 1)) = ptrs S := by
      conv => rhs; rw [hS]
      simp [ptrs]
    rw [e1, e2]
    exact hs
  · intro z hz; simp at hz; subst hz; exact p
  · intro z hz; simp at hz; subst hz; exact ⟨hb, fun g hg => (hf g hg).1⟩
  · intro z hz; simp at hz; subst hz; exact .inl ⟨_, List.mem_singleton.2 rfl, rfl⟩
  · intro z hz g hg; simp at hz; subst hz
    rcases (hf g hg).2 with e | e
    · exact .inl ⟨_, List.mem_singleton.2 rfl, e⟩
    · exact .inr e
end Go.Proofs.Ytfmohmlpcielnaa
