/- Has, Clone, Spans, Count, Free. -/
import Derived.Test.YtglcpiokmieppaaJ
namespace Go.Proofs.Ytglcpiokmieppaa
open Go.RowKit

theorem own_at2 {w : World} {v : Value} {L : List Sp} (h : Own w 46 2 v L.length (scells L)) (q : Nat) (hq : q < L.length) :
    ∃ g cap, v = .slice (some ⟨g, 0, none⟩) L.length cap ∧ L.length ≤ cap ∧ cap ≤ 2 ^ 63 - 1 ∧ w.cell? ⟨g, q * 2, none⟩ = some (.int .u32 L[q].1) ∧ w.cell? ⟨g, q * 2 + 1, none⟩ = some (.int .u32 L[q].2) := by
  obtain ⟨g, c, rfl, l1, l2⟩ := h.some_of_pos (by omega)
  obtain ⟨x0, x1⟩ := scells_at L q L[q] (by simp [hq])
  obtain ⟨z0, e0⟩ := List.getElem?_eq_some_iff.1 x0
  obtain ⟨z1, e1⟩ := List.getElem?_eq_some_iff.1 x1
  refine ⟨g, c, rfl, l1, l2, ?_, ?_⟩
  · rw [← e0]; exact h.cells rfl _ z0
  · rw [← e1]; exact h.cells rfl _ z1
def hasB (S : List Sp) (n : Int) : Bool := match S[aft S n]? with | some x => decide (x.1 ≤ n) | none => false
theorem has_iff {S : List Sp} (h : Good S) (n : Int) : hasB S n = true ↔ Has S n := by
  have c := cut_facts h n n (Int.le_refl _)
  unfold hasB
  constructor
  · intro hb
    cases hx : S[aft S n]? with
    | none => rw [hx] at hb; cases hb
    | some x =>
      rw [hx] at hb
      simp only [decide_eq_true_eq] at hb
      refine ⟨x, List.mem_of_getElem? hx, hb, ?_⟩
      obtain ⟨hl, e⟩ := List.getElem?_eq_some_iff.1 hx
      have hm : x ∈ cutM S n n ∨ x ∈ S.drop (cutJ S n n) := by
        have h1 : x ∈ S.drop (aft S n) := by rw [← e]; exact List.mem_drop_iff_getElem.2 ⟨0, by omega, by simp⟩
        have h2 : S.drop (aft S n) = cutM S n n ++ S.drop (cutJ S n n) := by
          have h3 := cut_split S n n
          have h4 : S.take (aft S n) ++ S.drop (aft S n) = S.take (aft S n) ++ (cutM S n n ++ S.drop (cutJ S n n)) := by rw [List.take_append_drop, ← List.append_assoc]; exact h3
          exact List.append_cancel_left h4
        rw [h2] at h1
        exact List.mem_append.1 h1
      rcases hm with hm | hm
      · exact (c.m x hm).2
      · have := c.r x hm; have := h.b x (List.mem_of_getElem? hx); omega
  · rintro ⟨x, hx, h1, h2⟩
    have hi : aft S n < S.length := by
      apply Classical.byContradiction
      intro hn
      have : S.take (aft S n) = S := List.take_of_length_le (by omega)
      have := c.l x (by rw [this]; exact hx)
      omega
    rw [List.getElem?_eq_getElem hi]
    simp only [decide_eq_true_eq]
    rw [c.e] at hx
    rcases List.mem_append.1 hx with hx | hx
    · rcases List.mem_append.1 hx with hx | hx
      · have := c.l x hx; omega
      · have h3 := List.length_pos_of_mem hx
        have h4 := (tw_step (fun x : Sp => decide (x.1 ≤ n)) (S.drop (aft S n)) 0 (Nat.zero_le _)).1 (S[aft S n]'hi) (by rw [List.getElem?_drop]; simp [hi])
        apply Classical.byContradiction
        intro hn
        have := h4.2 (by simpa using hn)
        unfold cutM at h3
        omega
    · have := c.r x hx; omega
theorem hasB_eq {S : List Sp} (h : Good S) (n : Int) [Decidable (Has S n)] : hasB S n = decide (Has S n) := by
  rw [Bool.eq_iff_iff, has_iff h]; simp
set_option maxHeartbeats 1000000 in
theorem has_nil (n : Int) (w : World) : Calls Try.prog 21 #[.pointer none, .int .u32 n] w fun e w' => e = .returned (.bool false) ∧ w = w' := by
  go_enter Try.func21, Try.ntmps21
  go_wp2
  go_ret
  exact ⟨rfl, rfl⟩
set_option maxRecDepth 100000 in
set_option maxHeartbeats 1000000 in
theorem has_any {F : Nat → Prop} {w : World} {sb : Nat} {S : List Sp} (h : SetAt F w sb S) (n : Int) : Calls Try.prog 21 #[.pointer (some ⟨sb, 0, none⟩), .int .u32 n] w fun e w' => e = .returned (.bool (hasB S n)) ∧ Kept (fun _ => False) w w' := by
  obtain ⟨ao, cap, g1, g2, g3⟩ := h.c
  have H := hid h
  have hn := h.n
  have c0 := row_cell g1 0
  simp at c0
  have G2 := hid g2; have G1 := hid g1
  clear h g1 g2 g3
  go_enter Try.func21, Try.ntmps21
  go_wp2_with fail
  refine (after_any H.out n).mono ?_
  rintro e w1 ⟨rfl, hk⟩
  have c1 := hk.cell c0 id
  have HK := hid hk; clear hk c0
  by_cases hi : aft S n < S.length
  · obtain ⟨g, cap', e, l1, l2, y0, y1⟩ := own_at2 G2.out (aft S n) hi
    simp only [Value.slice.injEq] at e
    obtain ⟨rfl, _, rfl⟩ := e
    have z0 := HK.out.cell y0 id
    have hii : ((aft S n : Nat) : Int) < (S.length : Int) := by omega
    have hb : hasB S n = decide ((S[aft S n]'hi).1 ≤ n) := by simp only [hasB, List.getElem?_eq_getElem hi]
    have HB := hid hb; clear hb y0 y1
    obtain ⟨⟨p, q⟩, hsx⟩ : ∃ sx, S[aft S n]'hi = sx := ⟨_, rfl⟩
    rw [hsx] at z0 HB
    simp only at z0
    clear hsx
    go_wp2
    go_ret
    exact ⟨ret_bool HB.out.symm, HK.out⟩
  · have hii : ¬ ((aft S n : Nat) : Int) < (S.length : Int) := by omega
    have hb : hasB S n = false := by simp only [hasB, List.getElem?_eq_none (by omega : S.length ≤ aft S n)]
    have HB := hid hb; clear hb
    go_wp2
    go_ret
    exact ⟨ret_bool HB.out.symm, HK.out⟩
set_option maxRecDepth 100000 in
set_option maxHeartbeats 1000000 in
theorem clone_any {w : World} {v : Value} {L : List Sp} (h : Own w 46 2 v L.length (scells L)) (hl : L.length ≤ 17592186043904) :
    Calls Try.prog 29 #[v] w fun e w' => ∃ v', e = .returned v' ∧ Fresh w.heap.size w' v' L ∧ Kept (fun _ => False) w w' := by
  rcases h.shape with ⟨rfl, h0, _⟩ | ⟨g, cap, cur, rfl, _⟩
  · obtain rfl : L = [] := List.eq_nil_of_length_eq_zero h0
    have he := fun w => Lib.run_eql_slice_nil (P := Try.prog) w
    go_enter Try.func29, Try.ntmps29
    go_wp2
    go_ret
    exact ⟨_, rfl, ⟨none, 0, rfl, Own.nil _ _ _, by simp [Value.ownBlock]⟩, Kept.refl _ _⟩
  · have HS := hid ((h.src (scells_one _)).kept ((Kept.refl (fun _ => False) w).alloc (.cells #[] 46)) (fun _ _ h => h))
    clear h
    have he := fun w => Lib.run_eql_slice_nil (P := Try.prog) w
    go_enter Try.func29, Try.ntmps29
    go_wp2_with (at_builtin; refine wpList_app (o := ⟨some 7, _, _, _, _, _⟩) rfl (.tmp 5) (.tmp 6) 37 rfl 46 (.agg #[.int .u32 0, .int .u32 0]) 2 8 Try.underlying37 infoS rfl (by decide) (.slice (some ⟨w.heap.size, 0, none⟩) 0 0) 0 [] (by simp [Act.eval, Act.put]) (by exact own_empty _ _ _) (.slice (some ⟨g, 0, none⟩) L.length cap) (by simp [Act.eval, Act.put]) L.length (scells L) (by exact HS.out) (by unfold maxLen; omega) (by omega) ?_; intro a1 c1 w1 ho1 hk1 hf1 _; have HO1 := hid ho1; have HK1 := hid hk1; have HF1 := hid hf1; clear ho1 hk1 hf1)
    go_ret
    have ho := HO1.out
    have hf := HF1.out
    rw [Nat.zero_add] at ho hf
    refine ⟨_, rfl, ⟨a1, c1, rfl, by simpa using ho, fun k hk => ?_⟩, ((Kept.refl _ _).alloc _).trans' HK1.out (fun i hi => .inr (by simp [Value.ownBlock] at hi; omega))⟩
    rcases hf k hk with h | h
    · simp [Value.ownBlock] at h; omega
    · simp at h; omega
end Go.Proofs.Ytglcpiokmieppaa
