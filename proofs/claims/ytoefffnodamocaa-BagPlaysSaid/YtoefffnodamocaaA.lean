/- The bag's functions, each by its contract. -/
import Derived.Test.YtoefffnodamocaaByt
namespace Go.Proofs.Ytoefffnodamocaa
open Go.RowKit

theorem info5 : (Try.prog.info? 5).map (fun i => (i.zero, i.size, i.bytes)) = some (some (.int .u8 0), 1, 1) := by kernel_rfl
theorem info22 : (Try.prog.info? 22).map (fun i => (i.zero, i.size, i.bytes)) = some (some (.slice none 0 0), 1, 24) := by kernel_rfl

set_option maxHeartbeats 400000 in
theorem clone_any (v : Value) (l : List Int) (w : World) (h : Bts w v l) (hl : l.length ≤ 140737488351232) :
    Calls Try.prog 19 #[v] w fun e w' => ∃ v', e = .returned v' ∧ Own w' 5 1 v' l.length (u8s l) ∧ (∀ g, v'.ownBlock = some g → w.heap.size ≤ g) ∧ Kept (fun _ => False) w w' := by
  have H := hid h
  obtain ⟨ao, c, rfl, h1, h2, h3, h4⟩ := h
  cases ao with
  | none =>
    obtain ⟨h5, rfl⟩ := h2 rfl
    obtain rfl : l = [] := List.eq_nil_of_length_eq_zero h5
    clear h1 h2 h3 h4 h5 H
    have he := fun w => Lib.run_eql_slice_nil (P := Try.prog) w
    go_enter Try.func19, Try.ntmps19
    go_wp2
    go_ret
    exact ⟨_, rfl, Own.nil _ _ _, by simp [Value.ownBlock], Kept.refl _ _⟩
  | some ad =>
    clear h1 h2 h3 h4
    have hl' := hid hl; clear hl
    have he := fun w => Lib.run_eql_slice_nil (P := Try.prog) w
    go_enter Try.func19, Try.ntmps19
    go_wp2_with (at_builtin; refine wpList_app rfl _ _ 22 rfl 5 (.int .u8 0) 1 1 Try.underlying22 info5 rfl (by decide) _ 0 [] rfl (own_empty _ _ _) _ rfl l.length (u8s l) ?c1 ?c2 ?c3 ?_)
    case c1 => exact Bts.kept H.out ((Kept.refl (fun _ => False) _).alloc _) (fun _ _ => id)
    case c2 => have := hl'.out; simp only [maxLen]; omega
    case c3 => have := hl'.out; omega
    · intro a' c' w' hown hk hf _
      go_wp2
      go_ret
      refine ⟨_, rfl, by simpa using hown, fun g hg => ?_, ?_⟩
      · rcases hf g (by simpa using hg) with h | h
        · simp [Value.ownBlock] at h; omega
        · (try simp at h); omega
      · refine ((Kept.refl (fun _ => False) w).alloc _).trans' hk (fun i hi => ?_)
        simp [Value.ownBlock] at hi
        right; omega

theorem clone_sl (v : Value) (l : List Int) (w : World) (h : Bts w v l) (hl : l.length ≤ 140737488351232) :
    Calls Try.prog 19 #[v] w fun e w' => ∃ pa pc, e = .returned (.slice pa l.length pc) ∧ Own w' 5 1 (.slice pa l.length pc) l.length (u8s l) ∧ (∀ g, (Value.slice pa l.length pc).ownBlock = some g → w.heap.size ≤ g) ∧ Kept (fun _ => False) w w' :=
  (clone_any v l w h hl).mono fun e w' ⟨v', he, ho, hf, hk⟩ => by
    obtain ⟨pa, pc, rfl⟩ := ho.isSlice
    exact ⟨pa, pc, he, ho, hf, hk⟩

/-! ### a bag (the program's or the document's) in memory -/
def Pays (w : World) (ps : List Value) (L : List (List Int)) (F : Nat → Prop) : Prop :=
  ps.length = L.length ∧ ∀ (i : Nat) (p : Value) (l : List Int), ps[i]? = some p → L[i]? = some l → Own w 5 1 p l.length (u8s l) ∧ (∀ g, p.ownBlock = some g → F g) ∧ l.length ≤ 16384

/-- Block bb (of type T: one cell, the list) is a bag of the messages L; all of it lies in blocks of F. -/
def BagAt (T : TypeId) (w : World) (bb : Nat) (L : List (List Int)) (F : Nat → Prop) : Prop :=
  ∃ ao cap ps, w.heap[bb]? = some (.cells #[.slice ao L.length cap] T (0, 0)) ∧ Own w 22 1 (.slice ao L.length cap) L.length ps ∧ Pays w ps L F ∧ F bb ∧ (∀ g, (Value.slice ao L.length cap).ownBlock = some g → F g)

theorem Pays.kept {G F : Nat → Prop} {w w' : World} {ps : List Value} {L : List (List Int)} (h : Pays w ps L F) (k : Kept G w w') (hF : ∀ g, F g → ¬ G g) : Pays w' ps L F :=
  ⟨h.1, fun i p l hp hl => let ⟨h1, h2, h3⟩ := h.2 i p l hp hl; ⟨h1.kept k fun g hg => hF g (h2 g hg), h2, h3⟩⟩
theorem Pays.mono {F G : Nat → Prop} {w : World} {ps : List Value} {L : List (List Int)} (h : Pays w ps L F) (hF : ∀ g, F g → G g) : Pays w ps L G :=
  ⟨h.1, fun i p l hp hl => let ⟨h1, h2, h3⟩ := h.2 i p l hp hl; ⟨h1, fun g hg => hF g (h2 g hg), h3⟩⟩
theorem BagAt.kept {T : TypeId} {G F : Nat → Prop} {w w' : World} {bb : Nat} {L : List (List Int)} (h : BagAt T w bb L F) (k : Kept G w w') (hF : ∀ g, F g → ¬ G g) : BagAt T w' bb L F := by
  obtain ⟨ao, cap, ps, h1, h2, h3, h4, h5⟩ := h
  exact ⟨ao, cap, ps, (k.block _ (row_lt h1) (hF _ h4)).trans h1, h2.kept k fun g hg => hF g (h5 g hg), h3.kept k hF, h4, h5⟩
theorem BagAt.alloc {T : TypeId} {F : Nat → Prop} {w : World} {bb : Nat} {L : List (List Int)} (h : BagAt T w bb L F) (o : Obj) : BagAt T (w.alloc o) bb L F :=
  h.kept (G := fun _ => False) ((Kept.refl _ _).alloc o) (fun _ _ => id)

set_option maxHeartbeats 400000 in
theorem new_any (w : World) : Calls Try.prog 8 #[] w fun e w' => e = .returned (.pointer (some ⟨w.heap.size, 0, none⟩)) ∧ BagAt 50 w' w.heap.size [] (fun k => k = w.heap.size) ∧ Kept (fun _ => False) w w' := by
  go_enter Try.func8, Try.ntmps8
  go_wp2
  go_ret
  exact ⟨rfl, ⟨none, 0, [], row_new _ _, Own.nil _ _ _, ⟨rfl, fun i p l hp => by simp at hp⟩, rfl, by simp [Value.ownBlock]⟩, (Kept.refl _ _).alloc _⟩

set_option maxHeartbeats 400000 in
theorem len_any {w : World} {bb : Nat} {L : List (List Int)} {F : Nat → Prop} (h : BagAt 50 w bb L F) : Calls Try.prog 12 #[.pointer (some ⟨bb, 0, none⟩)] w fun e w' => e = .returned (.int .i64 L.length) ∧ w = w' := by
  obtain ⟨ao, cap, ps, h1, _⟩ := h
  have c := row_cell h1 0
  simp at c
  clear h1
  go_enter Try.func12, Try.ntmps12
  go_wp2
  go_ret
  exact ⟨rfl, rfl⟩

/-- there: is there such a one? -/
def thr (n : Nat) (i : Int) : Int := if 0 ≤ i ∧ i < n then 0 else 6

set_option maxHeartbeats 400000 in
theorem there_any {w : World} {bb : Nat} {L : List (List Int)} {F : Nat → Prop} (h : BagAt 50 w bb L F) (i : Int) : Calls Try.prog 20 #[.pointer (some ⟨bb, 0, none⟩), .int .i64 i] w fun e w' => e = .returned (.int .i64 (thr L.length i)) ∧ w = w' := by
  obtain ⟨ao, cap, ps, h1, _⟩ := h
  have c := row_cell h1 0
  simp at c
  clear h1
  by_cases h0 : i < 0
  · go_enter Try.func20, Try.ntmps20
    go_wp2
    go_ret
    exact ⟨ret_int (by simp [thr]; omega), rfl⟩
  · by_cases hn : i < (L.length : Int)
    · go_enter Try.func20, Try.ntmps20
      go_wp2
      go_ret
      exact ⟨ret_int (by simp [thr]; omega), rfl⟩
    · go_enter Try.func20, Try.ntmps20
      go_wp2
      go_ret
      exact ⟨ret_int (by simp [thr]; omega), rfl⟩

set_option maxHeartbeats 400000 in
theorem copy_yes {w : World} {bb : Nat} {L : List (List Int)} {F : Nat → Prop} (h : BagAt 50 w bb L F) (i : Nat) (l : List Int) (hi : L[i]? = some l) : Calls Try.prog 26 #[.pointer (some ⟨bb, 0, none⟩), .int .i64 i] w fun e w' =>
    ∃ pa pc, e = .returned (.tuple #[.slice pa l.length pc, .int .i64 0]) ∧ Own w' 5 1 (.slice pa l.length pc) l.length (u8s l) ∧ (∀ g, (Value.slice pa l.length pc).ownBlock = some g → w.heap.size ≤ g) ∧ Kept (fun _ => False) w w' := by
  have H := hid h
  obtain ⟨ao, cap, ps, h1, h2, h3, h4, h5⟩ := h
  have hlt : i < L.length := (List.getElem?_eq_some_iff.1 hi).1
  have c := row_cell h1 0
  simp at c
  obtain ⟨g, cap', e0, hn1, hn2⟩ := h2.some_of_pos (by omega)
  simp only [Value.slice.injEq] at e0
  obtain ⟨rfl, _, rfl⟩ := e0
  have hps : i < ps.length := by rw [h3.1]; exact hlt
  obtain ⟨q1, q2, q3⟩ := h3.2 i ps[i] l (by simp [hps]) hi
  have c2 := h2.cells (g := g) rfl i hps
  obtain ⟨p, hp⟩ : ∃ p, ps[i] = p := ⟨_, rfl⟩
  rw [hp] at q1 q2 c2
  have ht : thr L.length (i : Int) = 0 := by simp [thr]; omega
  have hlt' : (i : Int) < (L.length : Int) := by omega
  have Q1 := hid q1
  have Q3 := hid q3
  have HI := hid hi
  clear h1 h2 h3 h4 h5 hps hp q1 q2 q3 hi hn1
  unfold maxLen at hn2
  go_enter Try.func26, Try.ntmps26
  go_wp2_with fail
  refine (there_any H.out _).mono ?_; rintro e w' ⟨rfl, rfl⟩
  go_wp2_with fail
  refine (clone_sl _ l _ (by exact Own.src Q1.out (u8s_one _)) (by have := Q3.out; omega)).mono ?_; rintro e w' ⟨pa, pc, rfl, hown, hfr, hk⟩
  have H1 := hid hown; have H2 := hid hfr; clear hown hfr
  go_wp2
  go_ret2
  exact ⟨_, _, rfl, H1.out, H2.out, hk⟩

set_option maxHeartbeats 400000 in
theorem copy_no {w : World} {bb : Nat} {L : List (List Int)} {F : Nat → Prop} (h : BagAt 50 w bb L F) (i : Int) (hi : ¬ (0 ≤ i ∧ i < L.length)) : Calls Try.prog 26 #[.pointer (some ⟨bb, 0, none⟩), .int .i64 i] w fun e w' =>
    e = .returned (.tuple #[.slice none 0 0, .int .i64 6]) ∧ w = w' := by
  have ht : thr L.length (i : Int) = 6 := by simp only [thr, if_neg hi]
  have HI := hid hi; clear hi
  go_enter Try.func26, Try.ntmps26
  go_wp2_with fail
  refine (there_any h _).mono ?_; rintro e w' ⟨rfl, rfl⟩
  go_wp2
  go_ret2
  exact ⟨rfl, rfl⟩
end Go.Proofs.Ytoefffnodamocaa
