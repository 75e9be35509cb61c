/- A nil bag; the rest of the document's. -/
import Derived.Test.YtoefffnodamocaaJ
namespace Go.Proofs.Ytoefffnodamocaa
open Go.RowKit

set_option maxHeartbeats 400000 in
theorem there_nil (w : World) (i : Int) : Calls Try.prog 20 #[.pointer none, .int .i64 i] w fun e w' => e = .returned (.int .i64 6) ∧ w = w' := by
  go_enter Try.func20, Try.ntmps20
  go_wp2
  go_ret
  exact ⟨rfl, rfl⟩
set_option maxHeartbeats 400000 in
theorem copy_nil (w : World) (i : Int) : Calls Try.prog 26 #[.pointer none, .int .i64 i] w fun e w' => e = .returned (.tuple #[.slice none 0 0, .int .i64 6]) ∧ w = w' := by
  go_enter Try.func26, Try.ntmps26
  go_wp2_with fail
  refine (there_nil _ _).mono ?_; rintro e w' ⟨rfl, rfl⟩
  go_wp2
  go_ret2
  exact ⟨rfl, rfl⟩
set_option maxHeartbeats 400000 in
theorem drop_nil (w : World) (i : Int) : Calls Try.prog 11 #[.pointer none, .int .i64 i] w fun e w' => e = .returned (.int .i64 6) ∧ w = w' := by
  go_enter Try.func11, Try.ntmps11
  go_wp2_with fail
  refine (there_nil _ _).mono ?_; rintro e w' ⟨rfl, rfl⟩
  go_wp2
  go_ret
  exact ⟨rfl, rfl⟩
set_option maxHeartbeats 400000 in
theorem take_nil (w : World) (i : Int) : Calls Try.prog 17 #[.pointer none, .int .i64 i] w fun e w' => e = .returned (.tuple #[.slice none 0 0, .int .i64 6]) ∧ w = w' := by
  go_enter Try.func17, Try.ntmps17
  go_wp2_with fail
  refine (copy_nil _ _).mono ?_; rintro e w' ⟨rfl, rfl⟩
  go_wp2_with fail
  refine (drop_nil _ _).mono ?_; rintro e w' ⟨rfl, rfl⟩
  go_wp2
  go_ret2
  exact ⟨rfl, rfl⟩
set_option maxHeartbeats 400000 in
theorem hold_nil (w : World) (i : Int) : Calls Try.prog 10 #[.pointer none, .int .i64 i] w fun e w' => e = .returned (.int .i64 6) ∧ w = w' := by
  go_enter Try.func10, Try.ntmps10
  go_wp2_with fail
  refine (take_nil _ _).mono ?_; rintro e w' ⟨rfl, rfl⟩
  go_wp2
  go_ret
  exact ⟨rfl, rfl⟩
def putN (n : Nat) : Int := if 16384 < n then 2 else if n = 0 then 3 else 6
set_option maxHeartbeats 400000 in
theorem put_nil (w : World) (ao : Option Addr) (n c : Nat) : Calls Try.prog 9 #[.pointer none, .slice ao n c] w fun e w' => e = .returned (.int .i64 (putN n)) ∧ w = w' := by
  by_cases e1 : 16384 < n
  · have e1' : (16384 : Int) < (n : Int) := by omega
    go_enter Try.func9, Try.ntmps9
    go_wp2
    go_ret
    exact ⟨ret_int (by simp [putN, e1]), rfl⟩
  · have e1' : ¬ (16384 : Int) < (n : Int) := by omega
    by_cases e2 : n = 0
    · have e2' : ((n : Int) == 0) = true := by rw [beq_iff_eq]; omega
      have hr : putN n = 3 := by simp [putN, e2]
      have HR := hid hr; clear hr e2
      go_enter Try.func9, Try.ntmps9
      go_wp2
      go_ret
      exact ⟨ret_int HR.out.symm, rfl⟩
    · have e2' : ((n : Int) == 0) = false := by rw [beq_eq_false_iff_ne]; omega
      go_enter Try.func9, Try.ntmps9
      go_wp2
      go_ret
      exact ⟨ret_int (by simp [putN, e1, e2]), rfl⟩
set_option maxHeartbeats 400000 in
theorem docput_nil (w : World) (ao : Option Addr) (n c : Nat) : Calls Try.prog 23 #[.pointer none, .slice ao n c] w fun e w' => e = .returned (.int .i64 (putN n)) ∧ w = w' := by
  by_cases e1 : 16384 < n
  · have e1' : (16384 : Int) < (n : Int) := by omega
    go_enter Try.func23, Try.ntmps23
    go_wp2
    go_ret
    exact ⟨ret_int (by simp [putN, e1]), rfl⟩
  · have e1' : ¬ (16384 : Int) < (n : Int) := by omega
    by_cases e2 : n = 0
    · have e2' : ((n : Int) == 0) = true := by rw [beq_iff_eq]; omega
      have hr : putN n = 3 := by simp [putN, e2]
      have HR := hid hr; clear hr e2
      go_enter Try.func23, Try.ntmps23
      go_wp2
      go_ret
      exact ⟨ret_int HR.out.symm, rfl⟩
    · have e2' : ((n : Int) == 0) = false := by rw [beq_eq_false_iff_ne]; omega
      go_enter Try.func23, Try.ntmps23
      go_wp2
      go_ret
      exact ⟨ret_int (by simp [putN, e1, e2]), rfl⟩
set_option maxHeartbeats 400000 in
theorem len_nil (w : World) : Calls Try.prog 12 #[.pointer none] w fun e w' => e = .returned (.int .i64 0) ∧ w = w' := by
  go_enter Try.func12, Try.ntmps12
  go_wp2
  go_ret
  exact ⟨rfl, rfl⟩
set_option maxHeartbeats 400000 in
theorem all_nil (w : World) : Calls Try.prog 14 #[.pointer none] w fun e w' => e = .returned (.slice none 0 0) ∧ w = w' := by
  go_enter Try.func14, Try.ntmps14
  go_wp2
  go_ret
  exact ⟨rfl, rfl⟩
set_option maxHeartbeats 400000 in
theorem doctake_nil (w : World) (i : Int) (s l : Bool) : Calls Try.prog 25 #[.pointer none, .int .i64 i, .bool s, .bool l] w fun e w' => e = .returned (.tuple #[.slice none 0 0, .int .i64 6]) ∧ w = w' := by
  go_enter Try.func25, Try.ntmps25
  go_wp2
  go_ret2
  exact ⟨rfl, rfl⟩
set_option maxHeartbeats 400000 in
theorem doctake_no {w : World} {bb : Nat} {L : List (List Int)} {F : Nat → Prop} (h : BagAt 36 w bb L F) (i : Int) (hi : ¬ (0 ≤ i ∧ i < L.length)) (s l : Bool) : Calls Try.prog 25 #[.pointer (some ⟨bb, 0, none⟩), .int .i64 i, .bool s, .bool l] w fun e w' => e = .returned (.tuple #[.slice none 0 0, .int .i64 6]) ∧ w = w' := by
  obtain ⟨ao, cap, ps, h1, _⟩ := h
  have c := row_cell h1 0
  simp at c
  clear h1
  by_cases h0 : i < 0
  · go_enter Try.func25, Try.ntmps25
    go_wp2
    go_ret2
    exact ⟨rfl, rfl⟩
  · have hn : ¬ i < (L.length : Int) := by omega
    clear hi
    go_enter Try.func25, Try.ntmps25
    go_wp2
    go_ret2
    exact ⟨rfl, rfl⟩
set_option maxHeartbeats 400000 in
theorem doctake_stay {w : World} {bb : Nat} {L : List (List Int)} {F : Nat → Prop} (h : BagAt 36 w bb L F) (i : Nat) (l : List Int) (hi : L[i]? = some l) (la : Bool) :
    Calls Try.prog 25 #[.pointer (some ⟨bb, 0, none⟩), .int .i64 i, .bool true, .bool la] w fun e w' => ∃ p, e = .returned (.tuple #[p, .int .i64 0]) ∧ Byt w' p l ∧ w = w' := by
  obtain ⟨ao, cap, ps, h1, h2, h3, h4, h5⟩ := h
  have hlt : i < L.length := (List.getElem?_eq_some_iff.1 hi).1
  have c := row_cell h1 0
  simp at c
  obtain ⟨g, cap', e0, hn1, hn2⟩ := h2.some_of_pos (by omega)
  simp only [Value.slice.injEq] at e0
  obtain ⟨rfl, _, rfl⟩ := e0
  have hps : i < ps.length := by rw [h3.1]; exact hlt
  obtain ⟨q1, q2, q3⟩ := h3.2 i ps[i] l (by simp [hps]) hi
  have c2 := h2.cells (g := g) rfl i hps
  obtain ⟨p, hp⟩ : ∃ p, ps[i] = p := ⟨_, rfl⟩
  rw [hp] at q1 q2 c2
  have hlt' : (i : Int) < (L.length : Int) := by omega
  have Q1 := hid q1.byt
  clear h1 h2 h3 h4 h5 hp q1 q2 q3 hi hn1
  unfold maxLen at hn2
  go_enter Try.func25, Try.ntmps25
  go_wp2
  go_ret2
  exact ⟨p, rfl, Q1.out, rfl⟩
end Go.Proofs.Ytoefffnodamocaa
