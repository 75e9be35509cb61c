/- The document's Elder and Sort, plain. -/
import Derived.Test.YtfkkfjmdpkgicaaT
namespace Go.Proofs.Ytfkkfjmdpkgicaa
open Go.RowKit Go.Shelf
def insS (s : Sp) : List Sp → List Sp
  | [] => [s]
  | x :: r => if eldS s x then s :: x :: r else x :: insS s r
def stepS (s : Sp) (p : List Sp × Bool) (x : Sp) : List Sp × Bool := if p.2 = false ∧ eldS s x then (p.1 ++ [s, x], true) else (p.1 ++ [x], p.2)
def insF (s : Sp) (l : List Sp) : List Sp × Bool := l.foldl (stepS s) ([], false)
theorem insF_snoc (s : Sp) (l : List Sp) (x : Sp) : insF s (l ++ [x]) = stepS s (insF s l) x := by simp [insF, List.foldl_append]
theorem fold_done (s : Sp) : ∀ (l : List Sp) (acc : List Sp), l.foldl (stepS s) (acc, true) = (acc ++ l, true)
  | [], acc => by simp
  | x :: l, acc => by
    rw [List.foldl_cons]
    have : stepS s (acc, true) x = (acc ++ [x], true) := by simp [stepS]
    rw [this, fold_done s l]
    simp
theorem fold_open (s : Sp) : ∀ (l : List Sp) (acc : List Sp), (let p := l.foldl (stepS s) (acc, false); if p.2 then p.1 else p.1 ++ [s]) = acc ++ insS s l
  | [], acc => by simp [insS]
  | x :: l, acc => by
    by_cases h : eldS s x
    · have : stepS s (acc, false) x = (acc ++ [s, x], true) := by simp [stepS, h]
      simp only [List.foldl_cons, this, fold_done, insS, h, if_true]
      simp
    · have : stepS s (acc, false) x = (acc ++ [x], false) := by simp [stepS, h]
      rw [List.foldl_cons, this, fold_open s l]
      simp [insS, h]
theorem insF_ins (s : Sp) (l : List Sp) : (if (insF s l).2 then (insF s l).1 else (insF s l).1 ++ [s]) = insS s l := by
  have := fold_open s l []
  rw [List.nil_append] at this
  exact this
theorem insF_len (s : Sp) (l : List Sp) : (insF s l).1.length + (if (insF s l).2 then 0 else 1) = l.length + 1 := by
  have h : ∀ l : List Sp, (insS s l).length = l.length + 1 := by
    intro l
    induction l with
    | nil => rfl
    | cons x r ih => unfold insS; split <;> simp [ih]
  have h1 := congrArg List.length (insF_ins s l)
  rw [h] at h1
  split at h1 <;> rename_i hd <;> simp [hd] at h1 ⊢ <;> exact h1
theorem insS_perm (s : Sp) : ∀ l : List Sp, (insS s l).Perm (s :: l)
  | [] => List.Perm.refl _
  | x :: r => by
    unfold insS
    split
    · exact List.Perm.refl _
    · exact ((insS_perm s r).cons x).trans (List.Perm.swap s x r)
theorem insS_up {s : Sp} : ∀ {l : List Sp}, l.Pairwise (fun x y => ¬ eldS y x) → (insS s l).Pairwise (fun x y => ¬ eldS y x)
  | [], _ => by simp [insS]
  | x :: r, h => by
    unfold insS
    obtain ⟨h1, h2⟩ := List.pairwise_cons.1 h
    split
    · rename_i hs
      refine List.pairwise_cons.2 ⟨fun y hy => ?_, h⟩
      intro hy2
      rcases List.mem_cons.1 hy with rfl | hy
      · exact eld_irrefl _ (eld_trans hs hy2)
      · exact h1 y hy (eld_trans hy2 hs)
    · rename_i hs
      refine List.pairwise_cons.2 ⟨fun y hy => ?_, insS_up h2⟩
      rcases List.mem_cons.1 ((insS_perm s r).mem_iff.1 hy) with rfl | hy
      · exact hs
      · exact h1 y hy
def docS (l : List Sp) : List Sp := l.foldl (fun out s => insS s out) []
theorem docS_snoc (l : List Sp) (x : Sp) : docS (l ++ [x]) = insS x (docS l) := by simp [docS, List.foldl_append]
theorem docS_any (l acc : List Sp) (h : acc.Pairwise (fun x y => ¬ eldS y x)) : (l.foldl (fun out s => insS s out) acc).Pairwise (fun x y => ¬ eldS y x) ∧ (l.foldl (fun out s => insS s out) acc).Perm (acc ++ l) := by
  induction l generalizing acc with
  | nil => simpa using h
  | cons x l ih =>
    obtain ⟨h1, h2⟩ := ih (insS x acc) (insS_up h)
    refine ⟨h1, h2.trans ?_⟩
    refine ((insS_perm x acc).append_right l).trans ?_
    simpa using (List.perm_middle (a := x) (l₁ := acc) (l₂ := l)).symm
theorem sort_unique : ∀ {a b : List Sp}, a.Pairwise (fun x y => ¬ eldS y x) → b.Pairwise (fun x y => ¬ eldS y x) → a.Perm b → a = b
  | [], b, _, _, h => by simpa using h.symm.eq_nil
  | x :: a, [], _, _, h => by simpa using h.eq_nil
  | x :: a, y :: b, ha, hb, h => by
    obtain ⟨a1, a2⟩ := List.pairwise_cons.1 ha
    obtain ⟨b1, b2⟩ := List.pairwise_cons.1 hb
    have hx : x ∈ y :: b := h.mem_iff.1 (by simp)
    have hy : y ∈ x :: a := h.mem_iff.2 (by simp)
    have hxy : x = y := by
      rcases List.mem_cons.1 hx with rfl | hx
      · rfl
      rcases List.mem_cons.1 hy with rfl | hy
      · rfl
      exact eld_total (b1 x hx) (a1 y hy)
    subst hxy
    rw [sort_unique a2 b2 (List.perm_cons x |>.1 h)]
theorem docS_sortS (l : List Sp) : docS l = sortS l := by
  obtain ⟨h1, h2⟩ := docS_any l [] List.Pairwise.nil
  refine sort_unique h1 ?_ (h2.trans (by simpa using (sortS_perm l).symm))
  refine (sortS_up l).imp fun h => ?_
  rw [ltOf_ordS] at h
  simpa using h
end Go.Proofs.Ytfkkfjmdpkgicaa
