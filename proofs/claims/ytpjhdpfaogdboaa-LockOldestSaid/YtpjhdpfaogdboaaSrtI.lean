/- slices.Sort of fewer than 50 numbers. -/
import Derived.Test.YtpjhdpfaogdboaaSrtH
namespace Go.Proofs.Ytpjhdpfaogdboaa
set_option linter.unusedSimpArgs false
set_option linter.unusedVariables false
open Go.RowKit
open Go.Sort (swp ltInt pdq)

/-- in order -/
def ordered (l : List Int) : List Int := l.mergeSort (fun x y => decide (x ≤ y))
theorem sort_val (l : List Int) : (pdq ltInt l.toArray 0 l.length (Go.Sort.bitsLen l.length) true true).toList = ordered l := by
  have := Go.Sort.sortInt l
  unfold Go.Sort.sort at this
  simpa [ordered] using this
set_option maxHeartbeats 1000000 in
theorem sort_any {w : World} {g : Nat} {l : List Int} {tl : List Value} (h : Srt w g l.toArray tl) (cap : Nat) (hd : l.length < 50) :
    Calls Try.prog 54 #[.slice (some ⟨g, 0, none⟩) l.length cap] w fun e w' => e = .returned (.tuple #[]) ∧ Srt w' g (ordered l).toArray tl ∧ Kept (fun k => k = g) w w' := by
  have H := hid h
  clear h
  have hb := (bitLen_small ⟨l.length, by omega⟩).2
  obtain ⟨n, hn⟩ : ∃ n, l.length = n := ⟨_, rfl⟩
  obtain ⟨k, hk⟩ : ∃ k, Go.Sort.bitsLen n = k := ⟨_, rfl⟩
  have HV := hid (sort_val l)
  simp only [hn, hk] at hb HV
  rw [hn] at hd ⊢
  have HN := hid hn; have HK := hid hk
  clear hn hk
  go_enter Try.func54, Try.ntmps54
  go_wp2_with fail
  refine (len_small n (by omega) _).mono ?_; rintro e w' ⟨rfl, rfl⟩
  rw [HK.out]
  go_wp2_with fail
  refine (pdq_any n H.out (N := n) (by simpa using HN.out) cap (a := 0) (b := n) (l := k) (by omega) (by omega) (by omega) (by omega) (by omega)).mono ?_
  rintro e w1 ⟨rfl, _, hs, hk⟩
  have HS := hid hs; have HKP := hid hk
  clear hs hk
  go_wp2
  go_end0
  refine ⟨rfl, ?_, HKP.out⟩
  rw [← HV.out]
  exact HS.out
set_option maxHeartbeats 1000000 in
theorem sort_nil (w : World) : Calls Try.prog 54 #[.slice none 0 0] w fun e w' => e = .returned (.tuple #[]) ∧ w = w' := by
  have hins : ∀ w, Calls Try.prog 76 #[.slice none 0 0, .int .i64 0, .int .i64 0] w fun e w' => e = .returned (.tuple #[]) ∧ w = w' := by
    intro w
    go_enter Try.func76, Try.ntmps76
    go_wp2_with fail
    refine wp_loop_rounds 1 ?_
    rw [rounds_succ]
    go_wp2
    go_end0
    exact ⟨rfl, rfl⟩
  have hpdq : ∀ w, Calls Try.prog 71 #[.slice none 0 0, .int .i64 0, .int .i64 0, .int .i64 0] w fun e w' => e = .returned (.tuple #[]) ∧ w = w' := by
    intro w
    go_enter Try.func71, Try.ntmps71
    go_wp2_with fail
    refine wp_loop_rounds 1 ?_
    rw [rounds_succ]
    go_wp2_with fail
    refine (hins _).mono ?_; rintro e w' ⟨rfl, rfl⟩
    clear hins
    go_wp2
    exact bodyPost_ret (results_none rfl _ _ _) rfl ⟨rfl, rfl⟩
  go_enter Try.func54, Try.ntmps54
  go_wp2_with fail
  refine (len_small 0 (by omega) _).mono ?_; rintro e w' ⟨rfl, rfl⟩
  go_wp2_with fail
  refine (hpdq _).mono ?_; rintro e w' ⟨rfl, rfl⟩
  go_wp2
  go_end0
  exact ⟨rfl, rfl⟩
end Go.Proofs.Ytpjhdpfaogdboaa
