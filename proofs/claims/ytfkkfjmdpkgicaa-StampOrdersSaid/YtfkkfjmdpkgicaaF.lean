/- Order. -/
import Derived.Test.YtfkkfjmdpkgicaaE
import Derived.Test.YtfkkfjmdpkgicaaLies
import Derived.Deep.RegionHeld3
namespace Go.Proofs.Ytfkkfjmdpkgicaa
open Go.RowKit
def cmpI (x y : Int) : Int := if x < y then -1 else if y < x then 1 else 0
set_option maxHeartbeats 400000 in
theorem nanu64 (x : Int) (w : World) : Calls Try.prog 29 #[.int .u64 x] w fun e w' => e = .returned (.bool false) ∧ w = w' := by
  go_enter Try.func29, Try.ntmps29
  go_wp2
  go_ret
  exact ⟨ret_bool (by simp), rfl⟩
set_option maxHeartbeats 400000 in
theorem compareu64 (x y : Int) (w : World) : Calls Try.prog 23 #[.int .u64 x, .int .u64 y] w fun e w' => e = .returned (.int .i64 (cmpI x y)) ∧ w = w' := by
  go_enter Try.func23, Try.ntmps23
  go_wp2_with fail
  refine (nanu64 _ _).mono ?_; rintro e w' ⟨rfl, rfl⟩
  go_wp2_with fail
  refine (nanu64 _ _).mono ?_; rintro e w' ⟨rfl, rfl⟩
  rcases Int.lt_trichotomy x y with h | h | h
  · have hc : cmpI x y = -1 := by simp [cmpI, h]
    go_wp2
    go_ret
    exact ⟨ret_int hc.symm, rfl⟩
  · have hc : cmpI x y = 0 := by simp [cmpI, h]
    have h1 : ¬ x < y := by omega
    have h2 : ¬ y < x := by omega
    clear h
    go_wp2
    go_ret
    exact ⟨ret_int hc.symm, rfl⟩
  · have hc : cmpI x y = 1 := by simp [cmpI, h]; omega
    have h1 : ¬ x < y := by omega
    go_wp2
    go_ret
    exact ⟨ret_int hc.symm, rfl⟩
set_option maxHeartbeats 400000 in
theorem nanu8 (x : Int) (w : World) : Calls Try.prog 30 #[.int .u8 x] w fun e w' => e = .returned (.bool false) ∧ w = w' := by
  go_enter Try.func30, Try.ntmps30
  go_wp2
  go_ret
  exact ⟨ret_bool (by simp), rfl⟩
set_option maxHeartbeats 400000 in
theorem compareu8 (x y : Int) (w : World) : Calls Try.prog 24 #[.int .u8 x, .int .u8 y] w fun e w' => e = .returned (.int .i64 (cmpI x y)) ∧ w = w' := by
  go_enter Try.func24, Try.ntmps24
  go_wp2_with fail
  refine (nanu8 _ _).mono ?_; rintro e w' ⟨rfl, rfl⟩
  go_wp2_with fail
  refine (nanu8 _ _).mono ?_; rintro e w' ⟨rfl, rfl⟩
  rcases Int.lt_trichotomy x y with h | h | h
  · have hc : cmpI x y = -1 := by simp [cmpI, h]
    go_wp2
    go_ret
    exact ⟨ret_int hc.symm, rfl⟩
  · have hc : cmpI x y = 0 := by simp [cmpI, h]
    have h1 : ¬ x < y := by omega
    have h2 : ¬ y < x := by omega
    clear h
    go_wp2
    go_ret
    exact ⟨ret_int hc.symm, rfl⟩
  · have hc : cmpI x y = 1 := by simp [cmpI, h]; omega
    have h1 : ¬ x < y := by omega
    go_wp2
    go_ret
    exact ⟨ret_int hc.symm, rfl⟩
set_option maxHeartbeats 400000 in
theorem nanu32 (x : Int) (w : World) : Calls Try.prog 31 #[.int .u32 x] w fun e w' => e = .returned (.bool false) ∧ w = w' := by
  go_enter Try.func31, Try.ntmps31
  go_wp2
  go_ret
  exact ⟨ret_bool (by simp), rfl⟩
set_option maxHeartbeats 400000 in
theorem compareu32 (x y : Int) (w : World) : Calls Try.prog 25 #[.int .u32 x, .int .u32 y] w fun e w' => e = .returned (.int .i64 (cmpI x y)) ∧ w = w' := by
  go_enter Try.func25, Try.ntmps25
  go_wp2_with fail
  refine (nanu32 _ _).mono ?_; rintro e w' ⟨rfl, rfl⟩
  go_wp2_with fail
  refine (nanu32 _ _).mono ?_; rintro e w' ⟨rfl, rfl⟩
  rcases Int.lt_trichotomy x y with h | h | h
  · have hc : cmpI x y = -1 := by simp [cmpI, h]
    go_wp2
    go_ret
    exact ⟨ret_int hc.symm, rfl⟩
  · have hc : cmpI x y = 0 := by simp [cmpI, h]
    have h1 : ¬ x < y := by omega
    have h2 : ¬ y < x := by omega
    clear h
    go_wp2
    go_ret
    exact ⟨ret_int hc.symm, rfl⟩
  · have hc : cmpI x y = 1 := by simp [cmpI, h]; omega
    have h1 : ¬ x < y := by omega
    go_wp2
    go_ret
    exact ⟨ret_int hc.symm, rfl⟩
def orI (a b c d : Int) : Int := if a ≠ 0 then a else if b ≠ 0 then b else if c ≠ 0 then c else d
def nth4 (a b c d : Int) (k : Nat) : Int := if k = 0 then a else if k = 1 then b else if k = 2 then c else d
set_option maxRecDepth 100000 in
set_option maxHeartbeats 1000000 in
theorem or_any {w : World} {lb : Nat} {a b c d : Int} (h : w.heap[lb]? = some (.cells #[.int .i64 a, .int .i64 b, .int .i64 c, .int .i64 d] 3 (0, 0))) :
    Calls Try.prog 22 #[.slice (some ⟨lb, 0, none⟩) 4 4] w fun e w' => e = .returned (.int .i64 (orI a b c d)) ∧ w = w' := by
  have HC := hid (fun (k : Nat) (hk : k < 4) => show w.cell? ⟨lb, k, none⟩ = some (.int .i64 (nth4 a b c d k)) from by
    rw [row_cell h]
    match k, hk with
    | 0, _ => rfl
    | 1, _ => rfl
    | 2, _ => rfl
    | 3, _ => rfl)
  clear h
  go_enter Try.func22, Try.ntmps22
  go_wp2_with fail
  go_loopw [8] (fun i wr => ∃ k : Nat, k ≤ 4 ∧ i = .int .i64 k ∧ w = wr ∧ ∀ j, j < k → nth4 a b c d j = 0) (fun i _ => 4 - (RowKit.intOf i).toNat)
  case atStart => exact ⟨0, by omega, rfl, rfl, fun j h => absurd h (Nat.not_lt_zero _)⟩
  case round =>
    obtain ⟨k, hk, rfl, rfl, hz⟩ := hrel
    have HZ := hid hz
    clear hz
    by_cases hlt : k < 4
    · have hltI : (k : Int) < 4 := by omega
      have cc := HC.out k hlt
      obtain ⟨x, hx⟩ : ∃ x, nth4 a b c d k = x := ⟨_, rfl⟩
      rw [hx] at cc
      have HX := hid hx
      obtain ⟨bz, hbz⟩ : ∃ b, (x != 0) = b := ⟨_, rfl⟩
      clear hx
      cases bz with
      | true =>
        have hor : orI a b c d = x := by
          have h1 : x ≠ 0 := by simpa using hbz
          have h2 := HX.out
          match k, hlt with
          | 0, _ => simp [nth4] at h2; simp [orI, h2, h1]
          | 1, _ => have e0 := HZ.out 0 (by omega); simp [nth4] at h2 e0; simp [orI, e0, h2, h1]
          | 2, _ => have e0 := HZ.out 0 (by omega); have e1 := HZ.out 1 (by omega); simp [nth4] at h2 e0 e1; simp [orI, e0, e1, h2, h1]
          | 3, _ => have e0 := HZ.out 0 (by omega); have e1 := HZ.out 1 (by omega); have e2 := HZ.out 2 (by omega); simp [nth4] at h2 e0 e1 e2; simp [orI, e0, e1, e2, h2]
        have HOR := hid hor
        clear hor
        go_wp2
        go_ret
        exact ⟨ret_int HOR.out.symm, rfl⟩
      | false =>
        have hx0 : x = 0 := by simpa using hbz
        have HX0 := hid hx0
        clear hx0
        go_wp2
        go_roundw
        case rel => exact ⟨k + 1, by omega, by go_num, (by first | rfl | trivial), fun j hj => by
          rcases Nat.lt_succ_iff_lt_or_eq.1 hj with h1 | rfl
          · exact HZ.out j h1
          · rw [HX.out, HX0.out]⟩
        case measure => (simp only [RowKit.intOf]; omega)
    · obtain rfl : k = 4 := by omega
      have hor : orI a b c d = 0 := by
        have e0 := HZ.out 0 (by omega); have e1 := HZ.out 1 (by omega); have e2 := HZ.out 2 (by omega); have e3 := HZ.out 3 (by omega)
        simp [nth4] at e0 e1 e2 e3
        simp [orI, e0, e1, e2, e3]
      have HOR := hid hor
      clear hor
      go_wp2
      go_ret
      exact ⟨ret_int HOR.out.symm, rfl⟩
end Go.Proofs.Ytfkkfjmdpkgicaa
