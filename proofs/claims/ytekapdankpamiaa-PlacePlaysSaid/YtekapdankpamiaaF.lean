/- The plain law of PlaceOne: what directories hold behind moves, in whatever order. -/
import Derived.Test.YtekapdankpamiaaC
namespace Go.Proofs.Ytekapdankpamiaa

/-- a move: vertex, (another one), node, (another one), epoch, (another one) -/
abbrev Mv := Int × Int × Int × Int × Int × Int
def mvStep (n : Int) (g : Int → Option (Int × Int)) (m : Mv) : Int → Option (Int × Int) := (mv n g m.1 m.2.2.1 m.2.2.2.2.1).2
def mvs (n : Int) (g : Int → Option (Int × Int)) (M : List Mv) : Int → Option (Int × Int) := M.foldl (mvStep n) g
def Vld (n : Int) (m : Mv) (x : Int) : Prop := m.1 = x ∧ num x = true ∧ m.2.2.1 < n ∧ 1 ≤ m.2.2.2.2.1
def Tells (n : Int) (M : List Mv) (g : Int → Option (Int × Int)) : Prop := ∀ x, (g x = none ∧ ∀ m ∈ M, ¬ Vld n m x) ∨ ∃ m ∈ M, Vld n m x ∧ g x = some (m.2.2.1, m.2.2.2.2.1) ∧ ∀ m' ∈ M, Vld n m' x → m'.2.2.2.2.1 ≤ m.2.2.2.2.1
theorem tells_nil (n : Int) : Tells n [] (fun _ => none) := fun x => .inl ⟨rfl, fun m hm => by cases hm⟩
theorem Tells.step {n : Int} {M : List Mv} {g : Int → Option (Int × Int)} (h : Tells n M g) (m : Mv) : Tells n (M ++ [m]) (mvStep n g m) := by
  obtain ⟨v, u, t, nd, ep, si⟩ := m
  intro x
  have old : (mvStep n g (v, u, t, nd, ep, si) x = g x) → (∀ y, Vld n (v, u, t, nd, ep, si) x → g x = some y → ep ≤ y.2) → (Vld n (v, u, t, nd, ep, si) x → g x ≠ none) → (mvStep n g (v, u, t, nd, ep, si) x = none ∧ ∀ m ∈ M ++ [(v, u, t, nd, ep, si)], ¬ Vld n m x) ∨ ∃ m ∈ M ++ [(v, u, t, nd, ep, si)], Vld n m x ∧ mvStep n g (v, u, t, nd, ep, si) x = some (m.2.2.1, m.2.2.2.2.1) ∧ ∀ m' ∈ M ++ [(v, u, t, nd, ep, si)], Vld n m' x → m'.2.2.2.2.1 ≤ m.2.2.2.2.1 := by
    intro e h1 h2
    rw [e]
    rcases h x with ⟨a, b⟩ | ⟨m0, hm0, a, b, c⟩
    · refine .inl ⟨a, fun m hm hv => ?_⟩
      rcases List.mem_append.1 hm with hm | hm
      · exact b m hm hv
      · rw [List.mem_singleton.1 hm] at hv
        exact h2 hv a
    · refine .inr ⟨m0, List.mem_append_left _ hm0, a, b, fun m' hm' hv => ?_⟩
      rcases List.mem_append.1 hm' with hm' | hm'
      · exact c m' hm' hv
      · rw [List.mem_singleton.1 hm'] at hv ⊢
        exact h1 _ hv b
  by_cases ht : thr n v t = 0
  · have hnum : num v = true ∧ t < n := by
      unfold thr at ht; split at ht
      · rename_i hh; exact hh
      · cases ht
    by_cases hep : ep ≤ (own n g v).2
    · have e : mvStep n g (v, u, t, nd, ep, si) = g := by simp [mvStep, mv, ht, hep]
      refine old (by rw [e]) (fun y hv hy => ?_) (fun hv hno => ?_)
      · obtain ⟨e1, _, _, _⟩ := hv
        dsimp only at e1
        rw [← e1] at hy
        simpa [own, hy] using hep
      · obtain ⟨e1, _, _, e4⟩ := hv
        dsimp only at e1 e4
        rw [← e1] at hno
        simp [own, hno] at hep
        omega
    · have e : ∀ y, mvStep n g (v, u, t, nd, ep, si) y = if y = v then some (t, ep) else g y := fun y => by simp [mvStep, mv, ht, hep]
      by_cases hx : x = v
      · subst hx
        right
        have hown : (own n g x).2 < ep := by omega
        have h0 : 0 ≤ (own n g x).2 ∧ ∀ m' ∈ M, Vld n m' x → m'.2.2.2.2.1 ≤ (own n g x).2 := by
          rcases h x with ⟨a, b⟩ | ⟨m0, hm0, a, b, c⟩
          · simp only [own, a, Option.getD_none]
            exact ⟨Int.le_refl _, fun m' hm' hv => absurd hv (b m' hm')⟩
          · simp only [own, b, Option.getD_some]
            exact ⟨by have := a.2.2.2; omega, c⟩
        refine ⟨(x, u, t, nd, ep, si), by simp, ⟨rfl, hnum.1, hnum.2, by show 1 ≤ ep; omega⟩, by rw [e, if_pos rfl], fun m' hm' hv => ?_⟩
        rcases List.mem_append.1 hm' with hm' | hm'
        · have := h0.2 m' hm' hv
          show _ ≤ ep
          omega
        · rw [List.mem_singleton.1 hm']
          exact Int.le_refl _
      · refine old (by rw [e, if_neg hx]) (fun y hv _ => absurd hv.1 (Ne.symm hx)) (fun hv => absurd hv.1 (Ne.symm hx))
  · have e : mvStep n g (v, u, t, nd, ep, si) = g := by simp [mvStep, mv, ht]
    have hno : ¬ Vld n (v, u, t, nd, ep, si) x := by
      rintro ⟨e1, e2, e3, _⟩
      dsimp only at e1 e3
      subst e1
      exact ht (by unfold thr; rw [if_pos ⟨e2, e3⟩])
    exact old (by rw [e]) (fun y hv _ => absurd hv hno) (fun hv => absurd hv hno)
theorem Tells.all {n : Int} : ∀ (M' M : List Mv) (g : Int → Option (Int × Int)), Tells n M g → Tells n (M ++ M') (mvs n g M')
  | [], M, g, h => by simpa [mvs] using h
  | m :: M', M, g, h => by
    have := Tells.all M' (M ++ [m]) _ (h.step m)
    simpa [mvs] using this
theorem tells_mvs (n : Int) (M : List Mv) : Tells n M (mvs n (fun _ => none) M) := by simpa using (tells_nil n).all M [] _
def NoConf (M : List Mv) : Prop := ∀ m ∈ M, ∀ m' ∈ M, m.1 = m'.1 → m.2.2.2.2.1 = m'.2.2.2.2.1 → m.2.2.1 = m'.2.2.1
theorem tells_one {n : Int} {M M' : List Mv} {g g' : Int → Option (Int × Int)} (h : Tells n M g) (h' : Tells n M' g') (hs : ∀ m, m ∈ M ↔ m ∈ M') (hc : NoConf M) : g = g' := by
  funext x
  rcases h x with ⟨a, b⟩ | ⟨m, hm, a, b, c⟩
  · rcases h' x with ⟨a', b'⟩ | ⟨m', hm', a', b', c'⟩
    · rw [a, a']
    · exact absurd a' (b m' ((hs m').2 hm'))
  · rcases h' x with ⟨a', b'⟩ | ⟨m', hm', a', b', c'⟩
    · exact absurd a (b' m ((hs m).1 hm))
    · have e1 := c m' ((hs m').2 hm') a'
      have e2 := c' m ((hs m).1 hm) a
      have e3 : m.2.2.2.2.1 = m'.2.2.2.2.1 := by omega
      rw [b, b', e3, hc m hm m' ((hs m').2 hm') (a.1.trans a'.1.symm) e3]
theorem Tells.dom {n : Int} {M : List Mv} {g : Int → Option (Int × Int)} (h : Tells n M g) : Dom g := fun x hx => by
  rcases h x with ⟨a, _⟩ | ⟨m, _, a, _⟩
  · rw [a] at hx; simp at hx
  · have := a.2.1
    simpa [num] using this
theorem mvs_snoc (n : Int) (g : Int → Option (Int × Int)) (M : List Mv) (m : Mv) : mvs n g (M ++ [m]) = mvStep n (mvs n g M) m := by simp [mvs]
end Go.Proofs.Ytekapdankpamiaa
