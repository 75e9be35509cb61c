/- The plate's refusals, and a nil plate. -/
import Derived.Test.YtnfdkpjklenllaaDl
namespace Go.Proofs.Ytnfdkpjklenllaa
open Go.RowKit
set_option maxHeartbeats 1000000 in
theorem check_nil {w : World}  : Calls Try.prog 25 #[.pointer none] w fun e w' => e = .returned (.int .i64 6) ∧ w = w' := by
  go_enter Try.func25, Try.ntmps25
  go_wp2
  go_ret
  exact ⟨rfl, rfl⟩
set_option maxHeartbeats 1000000 in
theorem on_nil {w : World}  : Calls Try.prog 18 #[.pointer none] w fun e w' => e = .returned (.bool false) ∧ w = w' := by
  go_enter Try.func18, Try.ntmps18
  go_wp2
  go_ret
  exact ⟨rfl, rfl⟩
set_option maxHeartbeats 1000000 in
theorem ops_nil {w : World}  : Calls Try.prog 20 #[.pointer none] w fun e w' => e = .returned (.int .i64 0) ∧ w = w' := by
  go_enter Try.func20, Try.ntmps20
  go_wp2
  go_ret
  exact ⟨rfl, rfl⟩
set_option maxHeartbeats 1000000 in
theorem len_nil {w : World}  : Calls Try.prog 28 #[.pointer none] w fun e w' => e = .returned (.int .i64 0) ∧ w = w' := by
  go_enter Try.func28, Try.ntmps28
  go_wp2
  go_ret
  exact ⟨rfl, rfl⟩
set_option maxHeartbeats 1000000 in
theorem write_arg {w : World} {p : Option Addr} (i : Int) (hi : i < 0) (v : Value) : Calls Try.prog 10 #[.pointer p, .int .i64 i, v] w fun e w' => e = .returned (.int .i64 1) ∧ w = w' := by
  go_enter Try.func10, Try.ntmps10
  go_wp2
  go_ret
  exact ⟨rfl, rfl⟩
set_option maxHeartbeats 1000000 in
theorem read_arg {w : World} {p : Option Addr} (i : Int) (hi : i < 0) : Calls Try.prog 24 #[.pointer p, .int .i64 i] w fun e w' => e = .returned (.tuple #[.slice none 0 0, .int .i64 1]) ∧ w = w' := by
  go_enter Try.func24, Try.ntmps24
  go_wp2
  go_ret2
  exact ⟨rfl, rfl⟩
set_option maxHeartbeats 1000000 in
theorem arm_neg {w : World} {p : Option Addr} (n : Int) (hn : n < 0) : Calls Try.prog 12 #[.pointer p, .int .i64 n] w fun e w' => e = .returned (.int .i64 1) ∧ w = w' := by
  go_enter Try.func12, Try.ntmps12
  go_wp2
  go_ret
  exact ⟨rfl, rfl⟩
set_option maxHeartbeats 1000000 in
theorem restart_nil {w : World} (v : Value) : Calls Try.prog 14 #[.pointer none, .agg #[v]] w fun e w' => e = .returned (.int .i64 6) ∧ Kept (fun _ => False) w w' := by
  go_enter Try.func14, Try.ntmps14
  go_wp2
  go_ret
  exact ⟨rfl, (Kept.refl _ _).alloc _⟩
set_option maxHeartbeats 1000000 in
theorem new_low {w : World} (n : Int) (hn : n < 1) : Calls Try.prog 19 #[.int .i64 n] w fun e w' => e = .returned (.tuple #[.pointer none, .int .i64 1]) ∧ w = w' := by
  go_enter Try.func19, Try.ntmps19
  go_wp2
  go_ret2
  exact ⟨rfl, rfl⟩
set_option maxHeartbeats 1000000 in
theorem new_high {w : World} (n : Int) (hn : 65536 < n) : Calls Try.prog 19 #[.int .i64 n] w fun e w' => e = .returned (.tuple #[.pointer none, .int .i64 1]) ∧ w = w' := by
  have h1 : ¬ n < 1 := by omega
  go_enter Try.func19, Try.ntmps19
  go_wp2
  go_ret2
  exact ⟨rfl, rfl⟩
set_option maxHeartbeats 1000000 in
theorem flush_nil {w : World}  : Calls Try.prog 13 #[.pointer none] w fun e w' => e = .returned (.int .i64 6) ∧ w = w' := by
  go_enter Try.func13, Try.ntmps13
  go_wp2_with fail
  refine check_nil.mono ?_
  rintro e w' ⟨rfl, rfl⟩
  go_wp2
  go_ret
  exact ⟨rfl, rfl⟩
set_option maxHeartbeats 1000000 in
theorem arm_nil {w : World} (n : Int) (hn : 0 ≤ n) : Calls Try.prog 12 #[.pointer none, .int .i64 n] w fun e w' => e = .returned (.int .i64 6) ∧ w = w' := by
  have hn1 : ¬ n < 0 := by omega
  go_enter Try.func12, Try.ntmps12
  go_wp2_with fail
  refine check_nil.mono ?_
  rintro e w' ⟨rfl, rfl⟩
  go_wp2
  go_ret
  exact ⟨rfl, rfl⟩
set_option maxHeartbeats 1000000 in
theorem read_nil {w : World} (i : Int) (hi : 0 ≤ i) : Calls Try.prog 24 #[.pointer none, .int .i64 i] w fun e w' => e = .returned (.tuple #[.slice none 0 0, .int .i64 6]) ∧ w = w' := by
  have hn1 : ¬ i < 0 := by omega
  go_enter Try.func24, Try.ntmps24
  go_wp2_with fail
  refine check_nil.mono ?_
  rintro e w' ⟨rfl, rfl⟩
  go_wp2
  go_ret2
  exact ⟨rfl, rfl⟩
set_option maxHeartbeats 1000000 in
theorem written_nil {w : World}  : Calls Try.prog 36 #[.pointer none] w fun e w' => e = .returned (.slice none 0 0) ∧ w = w' := by
  go_enter Try.func36, Try.ntmps36
  go_wp2_with fail
  refine check_nil.mono ?_
  rintro e w' ⟨rfl, rfl⟩
  go_wp2
  go_ret
  exact ⟨rfl, rfl⟩
set_option maxHeartbeats 1000000 in
theorem write_nil {w : World} (i : Int) (hi : 0 ≤ i) {a : Option Addr} {N c : Nat} (hN : N ≤ 64) : Calls Try.prog 10 #[.pointer none, .int .i64 i, .slice a N c] w fun e w' => e = .returned (.int .i64 6) ∧ w = w' := by
  have hn1 : ¬ i < 0 := by omega
  have hN2 : ¬ (64 : Int) < (N : Int) := by omega
  go_enter Try.func10, Try.ntmps10
  go_wp2_with fail
  refine check_nil.mono ?_
  rintro e w' ⟨rfl, rfl⟩
  go_wp2
  go_ret
  exact ⟨rfl, rfl⟩
set_option maxHeartbeats 1000000 in
theorem write_nil_long {w : World} (i : Int) (hi : 0 ≤ i) {a : Option Addr} {N c : Nat} (hN : 64 < N) : Calls Try.prog 10 #[.pointer none, .int .i64 i, .slice a N c] w fun e w' => e = .returned (.int .i64 2) ∧ w = w' := by
  have hn1 : ¬ i < 0 := by omega
  have hN2 : (64 : Int) < (N : Int) := by omega
  go_enter Try.func10, Try.ntmps10
  go_wp2
  go_ret
  exact ⟨rfl, rfl⟩
set_option maxHeartbeats 1000000 in
theorem write_big {F : Nat → Prop} {w : World} {b : Nat} {S : Plt} (h : PlAt F w b S) (i : Int) (hi : 0 ≤ i) (hn : S.n ≤ i) (v : Value) : Calls Try.prog 10 #[.pointer (some ⟨b, 0, none⟩), .int .i64 i, v] w fun e w' => e = .returned (.int .i64 1) ∧ w = w' := by
  obtain ⟨mb, ao, cap, h⟩ := h
  obtain ⟨c0, c1, c2, c3, c4, c5⟩ := cells6 h.r
  clear c1 c2 c3 c4 c5
  have hn1 : ¬ i < 0 := by omega
  clear h
  go_enter Try.func10, Try.ntmps10
  go_wp2
  go_ret
  exact ⟨rfl, rfl⟩
set_option maxHeartbeats 1000000 in
theorem write_long {F : Nat → Prop} {w : World} {b : Nat} {S : Plt} (h : PlAt F w b S) (i : Int) (hi : 0 ≤ i) (hn : i < S.n) {a : Option Addr} {N c : Nat} (hN : 64 < N) : Calls Try.prog 10 #[.pointer (some ⟨b, 0, none⟩), .int .i64 i, .slice a N c] w fun e w' => e = .returned (.int .i64 2) ∧ w = w' := by
  obtain ⟨mb, ao, cap, h⟩ := h
  obtain ⟨c0, c1, c2, c3, c4, c5⟩ := cells6 h.r
  clear c1 c2 c3 c4 c5
  have hn1 : ¬ i < 0 := by omega
  have hn2 : ¬ S.n ≤ i := by omega
  have hN2 : (64 : Int) < (N : Int) := by omega
  clear h
  go_enter Try.func10, Try.ntmps10
  go_wp2
  go_ret
  exact ⟨rfl, rfl⟩
set_option maxHeartbeats 1000000 in
theorem read_big {F : Nat → Prop} {w : World} {b : Nat} {S : Plt} (h : PlAt F w b S) (i : Int) (hi : 0 ≤ i) (hn : S.n ≤ i) : Calls Try.prog 24 #[.pointer (some ⟨b, 0, none⟩), .int .i64 i] w fun e w' => e = .returned (.tuple #[.slice none 0 0, .int .i64 1]) ∧ w = w' := by
  obtain ⟨mb, ao, cap, h⟩ := h
  obtain ⟨c0, c1, c2, c3, c4, c5⟩ := cells6 h.r
  clear c1 c2 c3 c4 c5
  have hn1 : ¬ i < 0 := by omega
  clear h
  go_enter Try.func24, Try.ntmps24
  go_wp2
  go_ret2
  exact ⟨rfl, rfl⟩
set_option maxHeartbeats 1000000 in
theorem restart_on {F : Nat → Prop} {w : World} {b : Nat} {S : Plt} (h : PlAt F w b S) (hoff : S.off = false) (v : Value) : Calls Try.prog 14 #[.pointer (some ⟨b, 0, none⟩), .agg #[v]] w fun e w' => e = .returned (.int .i64 9) ∧ Kept (fun _ => False) w w' := by
  obtain ⟨mb, ao, cap, h⟩ := h
  obtain ⟨c0, c1, c2, c3, c4, c5⟩ := cells6 h.r
  rw [hoff] at c3
  have lb := row_lt h.r
  clear c0 c1 c2 c4 c5 hoff
  clear h
  go_enter Try.func14, Try.ntmps14
  go_wp2
  go_ret
  exact ⟨rfl, (Kept.refl _ _).alloc _⟩
set_option maxHeartbeats 1000000 in
theorem write_off {F : Nat → Prop} {w : World} {b : Nat} {S : Plt} (h : PlAt F w b S) (hoff : S.off = true) (i : Int) (hi : 0 ≤ i) (hn : i < S.n) {a : Option Addr} {N c : Nat} (hN : N ≤ 64) : Calls Try.prog 10 #[.pointer (some ⟨b, 0, none⟩), .int .i64 i, .slice a N c] w fun e w' => e = .returned (.int .i64 11) ∧ Kept (fun _ => False) w w' := by
  have HA := hid h
  obtain ⟨mb, ao, cap, h⟩ := h
  obtain ⟨c0, c1, c2, c3, c4, c5⟩ := cells6 h.r
  clear h c1 c2 c3 c4 c5
  have hn1 : ¬ i < 0 := by omega
  have hn2 : ¬ S.n ≤ i := by omega
  have hN2 : ¬ (64 : Int) < (N : Int) := by omega
  have HO := hid hoff
  clear hoff
  go_enter Try.func10, Try.ntmps10
  go_wp2_with fail
  refine (check_any HA.out).mono ?_
  rintro e w1 ⟨rfl, hk1⟩
  have he : S.err = 11 := by simp [Plt.err, HO.out]
  rw [he]
  have K1 := hid hk1
  clear hk1 c0
  go_wp2
  go_ret
  exact ⟨rfl, K1.out⟩
set_option maxHeartbeats 1000000 in
theorem read_off {F : Nat → Prop} {w : World} {b : Nat} {S : Plt} (h : PlAt F w b S) (hoff : S.off = true) (i : Int) (hi : 0 ≤ i) (hn : i < S.n) : Calls Try.prog 24 #[.pointer (some ⟨b, 0, none⟩), .int .i64 i] w fun e w' => e = .returned (.tuple #[.slice none 0 0, .int .i64 11]) ∧ Kept (fun _ => False) w w' := by
  have HA := hid h
  obtain ⟨mb, ao, cap, h⟩ := h
  obtain ⟨c0, c1, c2, c3, c4, c5⟩ := cells6 h.r
  clear h c1 c2 c3 c4 c5
  have hn1 : ¬ i < 0 := by omega
  have hn2 : ¬ S.n ≤ i := by omega
  have HO := hid hoff
  clear hoff
  go_enter Try.func24, Try.ntmps24
  go_wp2_with fail
  refine (check_any HA.out).mono ?_
  rintro e w1 ⟨rfl, hk1⟩
  have he : S.err = 11 := by simp [Plt.err, HO.out]
  rw [he]
  have K1 := hid hk1
  clear hk1 c0
  go_wp2
  go_ret2
  exact ⟨rfl, K1.out⟩
end Go.Proofs.Ytnfdkpjklenllaa
