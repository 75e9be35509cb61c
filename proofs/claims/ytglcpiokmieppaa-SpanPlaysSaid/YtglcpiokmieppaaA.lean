/- cmp.Compare; the search's closure; the search. -/
import Derived.Test.YtglcpiokmieppaaLies
import Derived.Deep.RegionHeld3
import Derived.Deep.RegionLaw
namespace Go.Proofs.Ytglcpiokmieppaa
open Go.RowKit

abbrev Sp := Int × Int
def scell (x : Sp) : List Value := [.int .u32 x.1, .int .u32 x.2]
def scells (l : List Sp) : List Value := l.flatMap scell
theorem scells_at : ∀ (l : List Sp) (i : Nat) (x : Sp), l[i]? = some x → (scells l)[i * 2]? = some (.int .u32 x.1) ∧ (scells l)[i * 2 + 1]? = some (.int .u32 x.2)
  | y :: l, 0, x, h => by simp at h; subst h; simp [scells, scell]
  | y :: l, i + 1, x, h => by
    have := scells_at l i x (by simpa using h)
    have e : ∀ k, (scells (y :: l))[k + 2]? = (scells l)[k]? := fun k => by simp [scells, scell, List.flatMap_cons]
    rw [show (i + 1) * 2 = i * 2 + 2 from by omega, show i * 2 + 2 + 1 = i * 2 + 1 + 2 from by omega, e, e]
    exact this
def cmpI (a b : Int) : Int := if a < b then -1 else if b < a then 1 else 0
set_option maxHeartbeats 400000 in
theorem nan_any (a : Int) (w : World) : Calls Try.prog 39 #[.int .u32 a] w fun e w' => e = .returned (.bool false) ∧ w = w' := by
  have h : (a != a) = false := by simp
  go_enter Try.func39, Try.ntmps39
  go_wp2
  go_ret
  exact ⟨rfl, rfl⟩
set_option maxHeartbeats 400000 in
theorem compare_any (a b : Int) (w : World) : Calls Try.prog 37 #[.int .u32 a, .int .u32 b] w fun e w' => e = .returned (.int .i64 (cmpI a b)) ∧ w = w' := by
  by_cases h : a < b
  · go_enter Try.func37, Try.ntmps37
    go_wp2_with fail
    refine (nan_any _ _).mono ?_; rintro e w' ⟨rfl, rfl⟩
    go_wp2_with fail
    refine (nan_any _ _).mono ?_; rintro e w' ⟨rfl, rfl⟩
    go_wp2
    go_ret
    exact ⟨ret_int (by simp [cmpI]; omega), rfl⟩
  · by_cases h2 : b < a
    · go_enter Try.func37, Try.ntmps37
      go_wp2_with fail
      refine (nan_any _ _).mono ?_; rintro e w' ⟨rfl, rfl⟩
      go_wp2_with fail
      refine (nan_any _ _).mono ?_; rintro e w' ⟨rfl, rfl⟩
      go_wp2
      go_ret
      exact ⟨ret_int (by simp [cmpI]; omega), rfl⟩
    · go_enter Try.func37, Try.ntmps37
      go_wp2_with fail
      refine (nan_any _ _).mono ?_; rintro e w' ⟨rfl, rfl⟩
      go_wp2_with fail
      refine (nan_any _ _).mono ?_; rintro e w' ⟨rfl, rfl⟩
      go_wp2
      go_ret
      exact ⟨ret_int (by simp [cmpI]; omega), rfl⟩
set_option maxHeartbeats 400000 in
theorem closure_any (a b n : Int) (w : World) : Calls Try.prog 36 #[.agg #[.int .u32 a, .int .u32 b], .int .u32 n] w fun e w' => e = .returned (.int .i64 (cmpI b n)) ∧ Kept (fun _ => False) w w' := by
  go_enter Try.func36, Try.ntmps36
  go_wp2_with fail
  refine (compare_any _ _ _).mono ?_; rintro e w' ⟨rfl, rfl⟩
  go_wp2
  go_ret
  exact ⟨rfl, (Kept.refl _ _).alloc _⟩
end Go.Proofs.Ytglcpiokmieppaa
