/- Requests are checked: some answer, nothing turned. -/
import Derived.Test.YtnlbdlbinoebgaaLies
import Derived.Deep.RegionLaw
import Derived.Deep.RegionHeld3
import Derived.Laws.StructEq
namespace Go.Proofs.Ytnlbdlbinoebgaa
open Go.RowKit

/-- some bool, some number; what was there is as it was -/
def SomeB (w : World) (e : Ending) (w' : World) : Prop := ∃ b : Bool, e = .returned (.bool b) ∧ Kept (fun _ => False) w w'
def SomeI (w : World) (e : Ending) (w' : World) : Prop := ∃ i : Int, e = .returned (.int .i64 i) ∧ Kept (fun _ => False) w w'
def SameB (w : World) (e : Ending) (w' : World) : Prop := ∃ b : Bool, e = .returned (.bool b) ∧ w = w'
def Same4 (w : World) (e : Ending) (w' : World) : Prop := ∃ a b c d : Bool, e = .returned (.tuple #[.bool a, .bool b, .bool c, .bool d]) ∧ w = w'
theorem SomeB.mk {w w' : World} {b : Bool} (k : Kept (fun _ => False) w w') : SomeB w (.returned (.bool b)) w' := ⟨b, rfl, k⟩
theorem SomeI.mk {w w' : World} {i : Int} (k : Kept (fun _ => False) w w') : SomeI w (.returned (.int .i64 i)) w' := ⟨i, rfl, k⟩
theorem SameB.mk {w : World} {b : Bool} : SameB w (.returned (.bool b)) w := ⟨b, rfl, rfl⟩
theorem Same4.mk {w : World} {a b c d : Bool} : Same4 w (.returned (.tuple #[.bool a, .bool b, .bool c, .bool d])) w := ⟨a, b, c, d, rfl, rfl⟩

set_option maxHeartbeats 1000000 in
theorem number_some (v : Int) (w : World) : Calls Try.prog 32 #[.int .u32 v] w (SameB w) := by
  go_enter Try.func32, Try.ntmps32
  go_wp2
  all_goals
    go_ret
    exact SameB.mk
set_option maxHeartbeats 1000000 in
theorem uses_some (k : Int) (w : World) : Calls Try.prog 41 #[.int .u8 k] w (Same4 w) := by
  go_enter Try.func41, Try.ntmps41
  go_wp2
  all_goals
    go_returns
    exact Same4.mk
set_option maxHeartbeats 1000000 in
theorem letter_some (b : Int) (w : World) : Calls Try.prog 45 #[.int .u8 b] w (SameB w) := by
  go_enter Try.func45, Try.ntmps45
  go_wp2
  all_goals
    go_ret
    exact SameB.mk
set_option maxHeartbeats 1000000 in
theorem text_some (s : ByteArray) (hs : s.size ≤ 9223372036854775807) (w : World) : Calls Try.prog 44 #[.string s] w (SameB w) := by
  go_enter Try.func44, Try.ntmps44
  go_wp2
  go_loop [6] (fun i => ∃ k : Nat, k ≤ s.size ∧ i = .int .i64 k) (fun i => s.size - (intOf i).toNat)
  case atStart => exact ⟨0, Nat.zero_le _, rfl⟩
  case round =>
    obtain ⟨k, hk, rfl⟩ := hrel
    by_cases hlt : k < s.size
    · go_wp2_with fail
      refine (letter_some _ _).mono ?_
      rintro e w' ⟨b, rfl, rfl⟩
      cases b
      · go_wp2
        go_ret
        exact SameB.mk
      · go_wp2
        go_round
        case rel => exact ⟨k + 1, by omega, by go_num⟩
        case measure => simp [intOf]; omega
    · go_wp2
      go_ret
      exact SameB.mk
set_option maxRecDepth 100000 in
set_option maxHeartbeats 1000000 in
theorem vcheck_some (k n : Int) (s : ByteArray) (hs : s.size ≤ 9223372036854775807) (w : World) : Calls Try.prog 42 #[.agg #[.int .u8 k, .int .i64 n, .string s]] w (SomeI w) := by
  go_enter Try.func42, Try.ntmps42
  go_wp2_with (go_at_call 44; refine (text_some _ hs _).mono ?_; rintro e w' ⟨b, rfl, rfl⟩)
  all_goals
    go_ret
    exact SomeI.mk ((Kept.refl _ _).alloc _)

set_option maxRecDepth 100000 in
set_option maxHeartbeats 4000000 in
theorem formed_some (kd a b key k n : Int) (s : ByteArray) (hs : s.size ≤ 9223372036854775807) (w : World) : Calls Try.prog 38 #[.agg #[.int .u8 kd, .int .u32 a, .int .u32 b, .int .u8 key, .int .u8 k, .int .i64 n, .string s]] w (SomeB w) := by
  go_enter Try.func38, Try.ntmps38
  go_wp2_with fail
  refine (uses_some _ _).mono ?_
  rintro e w' ⟨x1, x2, x3, x4, rfl, rfl⟩
  cases x4
  · go_wp2
    go_ret
    exact SomeB.mk ((Kept.refl _ _).alloc _)
  · go_wp2_with fail
    refine (number_some _ _).mono ?_
    rintro e w' ⟨b1, rfl, rfl⟩
    cases b1
    · go_wp2
      go_ret
      exact SomeB.mk ((Kept.refl _ _).alloc _)
    · cases x1 <;> cases x2 <;> cases x3
      all_goals
        go_wp2_with (first | (go_at_call 32; refine (number_some _ _).mono ?_; rintro e w' ⟨b2, rfl, rfl⟩) | (go_at_call 42; refine (vcheck_some _ _ _ hs _).mono ?_; rintro e w8 ⟨i8, rfl, hk8⟩; have HK8 := hid hk8; clear hk8))
        all_goals
          go_ret
          first | exact SomeB.mk ((Kept.refl _ _).alloc _) | exact SomeB.mk (((Kept.refl _ _).alloc _).trans HK8.out)
end Go.Proofs.Ytnlbdlbinoebgaa
