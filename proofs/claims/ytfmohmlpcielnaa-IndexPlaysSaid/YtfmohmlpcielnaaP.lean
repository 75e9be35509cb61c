/- The index by its items; awake. -/
import Derived.Test.YtfmohmlpcielnaaO
namespace Go.Proofs.Ytfmohmlpcielnaa
open Go.RowKit

set_option maxRecDepth 100000 in
set_option maxHeartbeats 8000000 in
theorem awake_any (w : World) : Calls Try.prog 8 #[] w fun e w' => e = .returned (.bool true) ∧ Kept (fun _ => False) w w' := by
  go_enter Try.func8, Try.ntmps8
  go_wp2_with fail
  refine (new_any w).mono ?_
  rintro e w1 ⟨rfl, hi1, hk1⟩
  have I1 := hid hi1; have K1 := hid hk1
  have s1 := row_lt hi1.2.2.choose_spec.choose_spec.2.r
  clear hi1 hk1
  go_wp2_with fail
  refine (put_any (F := fun g => w.heap.size ≤ g) (I1.out.mono (fun g hg => by omega)) (fun g hg => by omega) 9 1).mono ?_
  rintro e w2 ⟨rfl, hi2, hk2⟩
  have I2 := hid hi2; have K2 := hid hk2; clear hi2 hk2
  rw [show putE [] 9 = 0 from rfl]
  have s2 := K2.out.size
  go_wp2_with fail
  refine (put_any (F := fun g => w.heap.size ≤ g) I2.out (fun g hg => by omega) 5 2).mono ?_
  rintro e w3 ⟨rfl, hi3, hk3⟩
  have I3 := hid hi3; have K3 := hid hk3; clear hi3 hk3
  rw [show putE (putQ [] 9 1) 5 = 0 from rfl]
  have s3 := K3.out.size
  go_wp2_with fail
  refine (put_any (F := fun g => w.heap.size ≤ g) I3.out (fun g hg => by omega) 7 3).mono ?_
  rintro e w4 ⟨rfl, hi4, hk4⟩
  have hP : putQ (putQ (putQ [] 9 1) 5 2) 7 3 = [[(5, 2), (7, 3), (9, 1)]] := by rfl
  rw [hP] at hi4
  have I4 := hid hi4; have K4 := hid hk4; clear hi4 hk4
  rw [show putE (putQ (putQ [] 9 1) 5 2) 7 = 0 from rfl]
  go_wp2_with fail
  refine (next_any I4.out 6).mono ?_
  rintro e w5 ⟨rfl, hk5⟩
  have K5 := hid hk5; clear hk5
  rw [show nextI ([[(5, 2), (7, 3), (9, 1)]] : List (List It)).flatten 6 = some (7, 3) from rfl]
  have I5 := hid (I4.out.same ((K5.out.alloc (.cells #[.int .u64 7, .int .u64 3] 33))))
  go_wp2_with fail
  refine (range_any I5.out 5 8).mono ?_
  rintro e w6 ⟨a6, c6, rfl, _, _, hk6⟩
  have hR : (rangeI ([[(5, 2), (7, 3), (9, 1)]] : List (List It)).flatten 5 8).length = 2 := by rfl
  rw [hR]
  have I6 := hid (I5.out.same hk6); have K6 := hid hk6; clear hk6
  go_wp2_with fail
  refine (pages_any I6.out).mono ?_
  rintro e w7 ⟨a7, c7, vs7, rfl, _, hk7⟩
  have K7 := hid hk7; clear hk7
  go_wp2
  go_ret
  refine ⟨rfl, ?_⟩
  have := (((((K1.out.trans' K2.out (fun g hg => .inr hg)).trans' K3.out (fun g hg => .inr hg)).trans' K4.out (fun g hg => .inr hg)).trans K5.out).alloc (.cells #[.int .u64 7, .int .u64 3] 33))
  exact (this.trans K6.out).trans K7.out
end Go.Proofs.Ytfmohmlpcielnaa
