/- The index by its items; the keys of an argument. -/
import Derived.Test.YtfmohmlpcielnaaP
import Derived.Test.YtfmohmlpcielnaaArg
namespace Go.Proofs.Ytfmohmlpcielnaa
open Go.RowKit

/-- an index of these items -/
def Ix (F : Nat → Prop) (w : World) (xb : Nat) (M : List It) : Prop := ∃ PL, IxOk F w xb PL ∧ PL.flatten = M
theorem Ix.kept {F G : Nat → Prop} {w w' : World} {xb : Nat} {M : List It} (h : Ix F w xb M) (k : Kept G w w') (hg : ∀ g, g < w.heap.size → F g → ¬ G g) : Ix F w' xb M := by
  obtain ⟨PL, h, e⟩ := h; exact ⟨PL, h.kept k hg, e⟩
theorem Ix.same {F : Nat → Prop} {w w' : World} {xb : Nat} {M : List It} (h : Ix F w xb M) (k : Kept (fun _ => False) w w') : Ix F w' xb M := h.kept k (fun _ _ _ h => h)
theorem Ix.mono {F G : Nat → Prop} {w : World} {xb : Nat} {M : List It} (h : Ix F w xb M) (hg : ∀ g, F g → G g) : Ix G w xb M := by
  obtain ⟨PL, h, e⟩ := h; exact ⟨PL, h.mono hg, e⟩
theorem Ix.bound {F : Nat → Prop} {w : World} {xb : Nat} {M : List It} (h : Ix F w xb M) : Ix (fun g => F g ∧ g < w.heap.size) w xb M := by
  obtain ⟨PL, h, e⟩ := h; exact ⟨PL, h.bound, e⟩
theorem Ix.up {F : Nat → Prop} {w : World} {xb : Nat} {M : List It} (h : Ix F w xb M) : Up M := by
  obtain ⟨PL, h, e⟩ := h; rw [← e]; exact h.1.up
theorem Ix.len {F : Nat → Prop} {w : World} {xb : Nat} {M : List It} (h : Ix F w xb M) : M.length ≤ 4096 := by
  obtain ⟨PL, h, e⟩ := h; rw [← e]; exact h.2.1
theorem Ix.lt {F : Nat → Prop} {w : World} {xb : Nat} {M : List It} (h : Ix F w xb M) : xb < w.heap.size ∧ F xb := by
  obtain ⟨PL, ⟨_, _, pv, S, _, h⟩, e⟩ := h; exact ⟨row_lt h.r, h.m⟩
theorem found_is {PL : List (List It)} (hw : Wf PL) (k : Int) : (findP PL k).2.2 = (getI PL.flatten k).isSome := by
  obtain ⟨i, j, b, hf⟩ : ∃ i j b, findP PL k = (i, j, b) := ⟨_, _, _, rfl⟩
  rw [hf]
  cases b with
  | true =>
    obtain ⟨L, v0, hL, hj⟩ := findP_some hf
    rw [getI_in hw hf hL hj]; rfl
  | false => rw [getI_out hw hf]; rfl
def putN (M : List It) (k : Int) : Int := if (getI M k).isSome then 0 else if 4096 ≤ M.length then 10 else 0
def putM (M : List It) (k v : Int) : List It := if (getI M k).isSome then layL M k v else if 4096 ≤ M.length then M else layL M k v
theorem put_flat {F : Nat → Prop} {w : World} {xb : Nat} {M : List It} (h : Ix F w xb M) (hF : ∀ g, w.heap.size ≤ g → F g) (k v : Int) :
    Calls Try.prog 10 #[.pointer (some ⟨xb, 0, none⟩), .int .u64 k, .int .u64 v] w fun e w' => e = .returned (.int .i64 (putN M k)) ∧ Ix F w' xb (putM M k v) ∧ Kept F w w' := by
  obtain ⟨PL, h, rfl⟩ := h
  have hw := h.1
  refine (put_any h hF k v).mono ?_
  rintro e w' ⟨rfl, h2, h3⟩
  refine ⟨?_, ⟨_, h2, ?_⟩, h3⟩
  · unfold putE putN; rw [found_is hw]
  · unfold putQ putM; rw [found_is hw]
    split
    · exact putP_flat hw k v
    · split
      · rfl
      · exact putP_flat hw k v
theorem get_flat {F : Nat → Prop} {w : World} {xb : Nat} {M : List It} (h : Ix F w xb M) (k : Int) :
    Calls Try.prog 19 #[.pointer (some ⟨xb, 0, none⟩), .int .u64 k] w fun e w' => e = .returned (.tuple #[.int .u64 ((getI M k).getD 0), .bool (getI M k).isSome]) ∧ Kept (fun _ => False) w w' := by
  obtain ⟨PL, h, rfl⟩ := h
  exact get_any h k
theorem next_flat {F : Nat → Prop} {w : World} {xb : Nat} {M : List It} (h : Ix F w xb M) (k : Int) :
    Calls Try.prog 13 #[.pointer (some ⟨xb, 0, none⟩), .int .u64 k] w fun e w' => e = .returned (.tuple #[.agg #[.int .u64 ((nextI M k).getD (0, 0)).1, .int .u64 ((nextI M k).getD (0, 0)).2], .bool (nextI M k).isSome]) ∧ Kept (fun _ => False) w w' := by
  obtain ⟨PL, h, rfl⟩ := h
  exact next_any h k
theorem len_flat {F : Nat → Prop} {w : World} {xb : Nat} {M : List It} (h : Ix F w xb M) :
    Calls Try.prog 12 #[.pointer (some ⟨xb, 0, none⟩)] w fun e w' => e = .returned (.int .i64 (M.length : Int)) ∧ Kept (fun _ => False) w w' := by
  obtain ⟨PL, h, rfl⟩ := h
  exact len_any h
theorem range_flat {F : Nat → Prop} {w : World} {xb : Nat} {M : List It} (h : Ix F w xb M) (from_ to : Int) :
    Calls Try.prog 11 #[.pointer (some ⟨xb, 0, none⟩), .int .u64 from_, .int .u64 to] w (RangePost w (rangeI M from_ to)) := by
  obtain ⟨PL, h, rfl⟩ := h
  exact range_any h from_ to
theorem new_flat (w : World) :
    Calls Try.prog 9 #[] w fun e w' => e = .returned (.pointer (some ⟨w.heap.size, 0, none⟩)) ∧ Ix (fun g => g = w.heap.size) w' w.heap.size [] ∧ Kept (fun _ => False) w w' :=
  (new_any w).mono fun _ _ h => ⟨h.1, ⟨[], h.2.1, rfl⟩, h.2.2⟩

theorem mem_layL {M : List It} {k v : Int} {x : It} : x ∈ layL M k v ↔ x = (k, v) ∨ x ∈ M ∧ x.1 ≠ k := by
  unfold layL
  simp only [List.mem_append, List.mem_cons, List.mem_filter, decide_eq_true_eq]
  constructor
  · rintro (⟨h1, h2⟩ | rfl | ⟨h1, h2⟩)
    · exact .inr ⟨h1, by omega⟩
    · exact .inl rfl
    · exact .inr ⟨h1, by omega⟩
  · rintro (rfl | ⟨h1, h2⟩)
    · exact .inr (.inl rfl)
    · rcases Int.lt_or_gt_of_ne h2 with h3 | h3
      · exact .inl ⟨h1, h3⟩
      · exact .inr (.inr ⟨h1, h3⟩)
theorem layL_le (M : List It) (k v : Int) : (layL M k v).length ≤ M.length + 1 := by
  have h : ∀ M : List It, (M.filter (fun x => decide (x.1 < k))).length + (M.filter (fun x => decide (k < x.1))).length ≤ M.length := by
    intro M
    induction M with
    | nil => simp
    | cons x M ih =>
      simp only [List.filter_cons, List.length_cons]
      by_cases h1 : x.1 < k
      · have h2 : ¬ k < x.1 := by omega
        simp only [h1, h2, decide_true, decide_false, if_true, Bool.false_eq_true, if_false, List.length_cons]; omega
      · by_cases h2 : k < x.1
        · simp only [h1, h2, decide_true, decide_false, if_true, Bool.false_eq_true, if_false, List.length_cons]; omega
        · simp only [h1, h2, decide_false, Bool.false_eq_true, if_false]; omega
  unfold layL
  rw [List.length_append, List.length_cons]
  exact Nat.succ_le_succ (h M)
/-- two rising lists of the same items are one -/
theorem up_eq : ∀ {A B : List It}, Up A → Up B → (∀ x, x ∈ A ↔ x ∈ B) → A = B
  | [], [], _, _, _ => rfl
  | [], b :: B, _, _, h => absurd ((h b).2 (by simp)) (by simp)
  | a :: A, [], _, _, h => absurd ((h a).1 (by simp)) (by simp)
  | a :: A, b :: B, hA, hB, h => by
    obtain ⟨ha, hA'⟩ := List.pairwise_cons.1 hA
    obtain ⟨hb, hB'⟩ := List.pairwise_cons.1 hB
    have e : a = b := by
      rcases List.mem_cons.1 ((h a).1 (by simp)) with e | e
      · exact e
      · rcases List.mem_cons.1 ((h b).2 (by simp)) with e2 | e2
        · exact e2.symm
        · have h1 := ha b e2
          have h2 := hb a e
          omega
    subst e
    refine congrArg _ (up_eq hA' hB' fun x => ?_)
    constructor
    · intro hx
      rcases List.mem_cons.1 ((h x).1 (by simp [hx])) with e | e
      · subst e; have := ha x hx; omega
      · exact e
    · intro hx
      rcases List.mem_cons.1 ((h x).2 (by simp [hx])) with e | e
      · subst e; have := hb x hx; omega
      · exact e
def kc (x : Int) : List Value := [.int .u64 x]
theorem wf64 {n : Int} (h : (Lit.int .u64 n).wf = true) : 0 ≤ n ∧ n ≤ 18446744073709551615 := by
  simp [Lit.wf, IntKind.min, IntKind.max, IntKind.signed, IntKind.bits] at h; omega
theorem cells64 : Try.prog.cellsOf 26 = 1 := by kernel_rfl
theorem keys_read {w : World} {v : Value} (h : RdV Try.prog w 22 v) : ∃ (a : Option Addr) (cap : Nat) (L : List Int), v = .slice a L.length cap ∧ Lies (fun g => w.heap.size ≤ g) w 1 (.slice a L.length cap) L.length (L.flatMap kc) ∧ ∀ x ∈ L, 0 ≤ x ∧ x ≤ 18446744073709551615 := by
  obtain ⟨a, len, cap, rfl, h0⟩ := h.slice Try.underlying22
  obtain ⟨l, hl, hv, hb, hq⟩ := lies_of kc 1 (fun _ => rfl) (by decide) (fun x u hu => by simp [kc] at hu; subst hu; rfl) 0 Try.underlying22 cells64 (fun x : Int => 0 ≤ x ∧ x ≤ 18446744073709551615) (fun es h1 h2 => by
    match es, h1 with
    | [x0], _ =>
      obtain ⟨n, e, hw⟩ := h2.int Try.underlying26
      simp only [List.cons.injEq, and_true] at e
      subst e
      exact ⟨n, rfl, wf64 hw⟩) h0
  subst hl
  exact ⟨a, cap, l, rfl, hv, hq⟩
theorem kc_at (l : List Int) (i : Nat) (x : Int) (h : l[i]? = some x) : (l.flatMap kc)[i]? = some (.int .u64 x) := by
  have : ∀ l : List Int, l.flatMap kc = l.map (.int .u64) := fun l => by induction l <;> simp_all [kc]
  rw [this, List.getElem?_map, h]; rfl
end Go.Proofs.Ytfmohmlpcielnaa
