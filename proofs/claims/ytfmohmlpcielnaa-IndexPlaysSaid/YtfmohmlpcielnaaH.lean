/- Pages changed in memory. -/
import Derived.Test.YtfmohmlpcielnaaG
namespace Go.Proofs.Ytfmohmlpcielnaa
open Go.RowKit

theorem PgFar.symm {x y : Pg} (h : PgFar x y) : PgFar y x := ⟨fun e => h.1 e.symm, fun g hy hx => h.2 g hx hy⟩
/-- some pages Y become other ones Z -/
theorem IxAt.re {F K : Nat → Prop} {w w' : World} {xb : Nat} {pv pv' : Value} {A Y B Z : List Pg} {n n' : Int} (h : IxAt F w xb pv (A ++ Y ++ B) n) (k : Kept K w w')
    (hK : ∀ g, K g → g < w.heap.size → g = xb ∨ pv.ownBlock = some g ∨ ∃ y ∈ Y, g = y.1 ∨ y.2.1.ownBlock = some g)
    (r : w'.heap[xb]? = some (.cells #[pv', .int .i64 n'] 64 (0, 0)))
    (s : Seg w' 69 1 pv' (A ++ Z ++ B).length (ptrs (A ++ Z ++ B)))
    (p : ∀ z ∈ Z, PgAt w' z.1 z.2.1 z.2.2) (f : ∀ g, pv'.ownBlock = some g → F g)
    (b : ∀ z ∈ Z, F z.1 ∧ ∀ g, z.2.1.ownBlock = some g → F g) (d : Z.Pairwise PgFar)
    (e1 : ∀ z ∈ Z, (∃ y ∈ Y, z.1 = y.1) ∨ w.heap.size ≤ z.1)
    (e2 : ∀ z ∈ Z, ∀ g, z.2.1.ownBlock = some g → (∃ y ∈ Y, y.2.1.ownBlock = some g) ∨ w.heap.size ≤ g) : IxAt F w' xb pv' (A ++ Z ++ B) n' := by
  have hd := h.d
  rw [List.pairwise_append, List.pairwise_append] at hd
  obtain ⟨⟨dA, dY, dAY⟩, dB, dAYB⟩ := hd
  -- an old page apart from those of Y stays
  have keep : ∀ x, x ∈ A ++ Y ++ B → (∀ y ∈ Y, PgFar x y) → PgAt w' x.1 x.2.1 x.2.2 := fun x hx hy => by
    have hp := h.p x hx
    refine hp.kept k ?_ ?_
    · intro hg
      rcases hK _ hg (row_lt hp.r) with e | e | ⟨y, hyY, e | e⟩
      · have := hp.r; rw [e, h.r] at this; simp at this
      · exact h.s.ne_block hp.r (by decide) e
      · exact (hy y hyY).1 e
      · exact (h.p y (by simp [hyY])).s.ne_block hp.r (by decide) e
    · intro g hg hKg
      rcases hK _ hKg (hp.s.lt hg) with e | e | ⟨y, hyY, e | e⟩
      · subst e; exact hp.s.ne_block h.r (by decide) hg
      · exact hp.s.ne h.s (by decide) hg e
      · subst e; exact hp.s.ne_block (h.p y (by simp [hyY])).r (by decide) hg
      · exact (hy y hyY).2 g hg e
  have far : ∀ x, x ∈ A ++ Y ++ B → (∀ y ∈ Y, PgFar x y) → ∀ z ∈ Z, PgFar x z := fun x hx hy z hz => by
    have hp := h.p x hx
    refine ⟨fun e => ?_, fun g hg hgz => ?_⟩
    · rcases e1 z hz with ⟨y, hyY, e'⟩ | e'
      · exact (hy y hyY).1 (e.trans e')
      · have := row_lt hp.r; omega
    · rcases e2 z hz g hgz with ⟨y, hyY, e'⟩ | e'
      · exact (hy y hyY).2 g hg e'
      · have := hp.s.lt hg; omega
  have farA : ∀ x ∈ A, ∀ y ∈ Y, PgFar x y := fun x hx y hy => dAY x hx y hy
  have farB : ∀ x ∈ B, ∀ y ∈ Y, PgFar x y := fun x hx y hy => (dAYB y (by simp [hy]) x hx).symm
  refine ⟨r, s, fun x hx => ?_, h.m, f, fun x hx => ?_, ?_⟩
  · rcases List.mem_append.1 hx with hx | hx
    · rcases List.mem_append.1 hx with hx | hx
      · exact keep x (by simp [hx]) (farA x hx)
      · exact p x hx
    · exact keep x (by simp [hx]) (farB x hx)
  · rcases List.mem_append.1 hx with hx | hx
    · rcases List.mem_append.1 hx with hx | hx
      · exact h.b x (by simp [hx])
      · exact b x hx
    · exact h.b x (by simp [hx])
  · rw [List.pairwise_append, List.pairwise_append]
    refine ⟨⟨dA, d, fun x hx z hz => far x (by simp [hx]) (farA x hx) z hz⟩, dB, fun x hx y hy => ?_⟩
    rcases List.mem_append.1 hx with hx | hx
    · exact dAYB x (by simp [hx]) y hy
    · exact (far y (by simp [hy]) (farB y hy) x hx).symm
theorem ptrs_len (S : List Pg) : (ptrs S).length = S.length := by simp [ptrs]
theorem pl_append (A B : List Pg) : pl (A ++ B) = pl A ++ pl B := by simp [pl]
theorem ptrs_append (A B : List Pg) : ptrs (A ++ B) = ptrs A ++ ptrs B := by simp [ptrs]
theorem page_split {S : List Pg} {i : Nat} {x : Pg} (h : S[i]? = some x) : S = S.take i ++ [x] ++ S.drop (i + 1) := by
  conv => lhs; rw [split_at h]
  simp
/-- an index of these items, by pages -/
def IxOk (F : Nat → Prop) (w : World) (xb : Nat) (PL : List (List It)) : Prop := Wf PL ∧ PL.flatten.length ≤ 4096 ∧ ∃ pv S, pl S = PL ∧ IxAt F w xb pv S (PL.flatten.length : Int)
theorem IxOk.kept {F G : Nat → Prop} {w w' : World} {xb : Nat} {PL : List (List It)} (h : IxOk F w xb PL) (k : Kept G w w') (hg : ∀ g, g < w.heap.size → F g → ¬ G g) : IxOk F w' xb PL := by
  obtain ⟨h1, h2, pv, S, h3, h4⟩ := h
  exact ⟨h1, h2, pv, S, h3, h4.kept k hg⟩
theorem IxOk.same {F : Nat → Prop} {w w' : World} {xb : Nat} {PL : List (List It)} (h : IxOk F w xb PL) (k : Kept (fun _ => False) w w') : IxOk F w' xb PL := h.kept k (fun _ _ _ h => h)
theorem IxOk.mono {F G : Nat → Prop} {w : World} {xb : Nat} {PL : List (List It)} (h : IxOk F w xb PL) (hg : ∀ g, F g → G g) : IxOk G w xb PL := by
  obtain ⟨h1, h2, pv, S, h3, h4⟩ := h
  exact ⟨h1, h2, pv, S, h3, h4.mono hg⟩
theorem IxOk.bound {F : Nat → Prop} {w : World} {xb : Nat} {PL : List (List It)} (h : IxOk F w xb PL) : IxOk (fun g => F g ∧ g < w.heap.size) w xb PL := by
  obtain ⟨h1, h2, pv, S, h3, h4⟩ := h
  exact ⟨h1, h2, pv, S, h3, h4.bound⟩
/-- no more pages than items -/
theorem pages_le : ∀ {PL : List (List It)}, (∀ L ∈ PL, 0 < L.length) → PL.length ≤ PL.flatten.length
  | [], _ => Nat.le_refl _
  | L :: PL, h => by
    have h1 := pages_le (PL := PL) (fun M hM => h M (by simp [hM]))
    have h2 := h L (by simp)
    simp only [List.flatten_cons, List.length_append, List.length_cons]
    omega
theorem Wf.pages {PL : List (List It)} (h : Wf PL) : PL.length ≤ PL.flatten.length := pages_le (fun L hL => (h.ne L hL).1)
end Go.Proofs.Ytfmohmlpcielnaa
