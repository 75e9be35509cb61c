/- The document's calls that only read; nil directories. -/
import Derived.Test.YtekapdankpamiaaK
namespace Go.Proofs.Ytekapdankpamiaa
open Go.RowKit
def nilc (v : Int) : Int := if num v = true then 6 else 1
theorem RD.cell0 {w : World} {yb : Nat} {n : Int} {g : Int → Option (Int × Int)} (h : RD w yb n g) : w.cell? ⟨yb, 0, none⟩ = some (.int .i64 n) := by
  obtain ⟨vs, hy, _⟩ := h
  rw [row_cell hy]; rfl
set_option maxHeartbeats 400000 in
theorem rthere_any {w : World} {yb : Nat} {n : Int} {g : Int → Option (Int × Int)} (h : RD w yb n g) (v k : Int) (hv : 0 ≤ v ∧ v ≤ 4294967295) (hn : 0 < n ∧ n ≤ 4) (hk : 0 ≤ k ∧ k ≤ 255) :
    Calls Try.prog 23 #[.pointer (some ⟨yb, 0, none⟩), .int .u32 v, .int .u8 k] w fun e w' => e = .returned (.int .i64 (thr n v k)) ∧ w = w' := by
  have c0 := h.cell0
  clear h
  by_cases h1 : v < 1
  · have HT := hid (show thr n v k = 1 by unfold thr num; simp; omega)
    go_enter Try.func23, Try.ntmps23
    go_wp2
    go_ret
    exact ⟨ret_int HT.out.symm, rfl⟩
  by_cases h2 : 40 < v
  · have HT := hid (show thr n v k = 1 by unfold thr num; simp; omega)
    go_enter Try.func23, Try.ntmps23
    go_wp2
    go_ret
    exact ⟨ret_int HT.out.symm, rfl⟩
  by_cases h3 : n ≤ k
  · have HT := hid (show thr n v k = 1 by unfold thr num; simp; omega)
    go_enter Try.func23, Try.ntmps23
    go_wp2
    go_ret
    exact ⟨ret_int HT.out.symm, rfl⟩
  · have HT := hid (show thr n v k = 0 by unfold thr num; simp; omega)
    go_enter Try.func23, Try.ntmps23
    go_wp2
    go_ret
    exact ⟨ret_int HT.out.symm, rfl⟩
set_option maxHeartbeats 400000 in
theorem rthere_nil (v k : Int) (w : World) (hv : 0 ≤ v ∧ v ≤ 4294967295) (hk : 0 ≤ k ∧ k ≤ 255) :
    Calls Try.prog 23 #[.pointer none, .int .u32 v, .int .u8 k] w fun e w' => e = .returned (.int .i64 (nilc v)) ∧ w = w' := by
  by_cases h1 : v < 1
  · have HT := hid (show nilc v = 1 by unfold nilc num; simp; omega)
    go_enter Try.func23, Try.ntmps23
    go_wp2
    go_ret
    exact ⟨ret_int HT.out.symm, rfl⟩
  by_cases h2 : 40 < v
  · have HT := hid (show nilc v = 1 by unfold nilc num; simp; omega)
    go_enter Try.func23, Try.ntmps23
    go_wp2
    go_ret
    exact ⟨ret_int HT.out.symm, rfl⟩
  · have HT := hid (show nilc v = 6 by unfold nilc num; simp; omega)
    go_enter Try.func23, Try.ntmps23
    go_wp2
    go_ret
    exact ⟨ret_int HT.out.symm, rfl⟩
set_option maxHeartbeats 400000 in
theorem there_nil (v k : Int) (w : World) :
    Calls Try.prog 16 #[.pointer none, .int .u32 v, .int .u8 k] w fun e w' => e = .returned (.int .i64 (nilc v)) ∧ w = w' := by
  go_enter Try.func16, Try.ntmps16
  go_wp2_with fail
  refine (number_any _ _).mono ?_; rintro e w' ⟨rfl, rfl⟩
  cases hv : num v with
  | true =>
    have HT := hid (show nilc v = 6 by unfold nilc; simp [hv])
    go_wp2
    go_ret
    exact ⟨ret_int HT.out.symm, rfl⟩
  | false =>
    have HT := hid (show nilc v = 1 by unfold nilc; simp [hv])
    go_wp2
    go_ret
    exact ⟨ret_int HT.out.symm, rfl⟩
theorem nilc_ne (v : Int) : (nilc v != 0) = true := by unfold nilc; split <;> rfl
set_option maxHeartbeats 400000 in
theorem move_nil (v k ep : Int) (w : World) :
    Calls Try.prog 9 #[.pointer none, .int .u32 v, .int .u8 k, .int .u32 ep] w fun e w' => e = .returned (.int .i64 (nilc v)) ∧ w = w' := by
  have hne := nilc_ne v
  go_enter Try.func9, Try.ntmps9
  go_wp2_with fail
  refine (there_nil _ _ _).mono ?_; rintro e w' ⟨rfl, rfl⟩
  go_wp2
  go_ret
  exact ⟨rfl, rfl⟩
set_option maxHeartbeats 400000 in
theorem check_nil (v k ep : Int) (w : World) :
    Calls Try.prog 11 #[.pointer none, .int .u32 v, .int .u8 k, .int .u32 ep] w fun e w' => e = .returned (.int .i64 (nilc v)) ∧ w = w' := by
  have hne := nilc_ne v
  go_enter Try.func11, Try.ntmps11
  go_wp2_with fail
  refine (there_nil _ _ _).mono ?_; rintro e w' ⟨rfl, rfl⟩
  go_wp2
  go_ret
  exact ⟨rfl, rfl⟩
set_option maxHeartbeats 400000 in
theorem owner_nil (v : Int) (w : World) :
    Calls Try.prog 10 #[.pointer none, .int .u32 v] w fun e w' => e = .returned (.tuple #[ent 0 (0, 0), .int .i64 (nilc v)]) ∧ Kept (fun _ => False) w w' := by
  go_enter Try.func10, Try.ntmps10
  go_wp2_with fail
  refine (number_any _ _).mono ?_; rintro e w' ⟨rfl, rfl⟩
  cases hv : num v with
  | true =>
    have HT := hid (show nilc v = 6 by unfold nilc; simp [hv])
    go_wp2
    go_returns
    exact ⟨by simp [HT.out, ent], Kept.of_below (by go_grown) _⟩
  | false =>
    have HT := hid (show nilc v = 1 by unfold nilc; simp [hv])
    go_wp2
    go_returns
    exact ⟨by simp [HT.out, ent], Kept.of_below (by go_grown) _⟩
set_option maxHeartbeats 400000 in
theorem list_nil (w : World) :
    Calls Try.prog 14 #[.pointer none] w fun e w' => e = .returned (.slice none 0 0) ∧ w = w' := by
  go_enter Try.func14, Try.ntmps14
  go_wp2
  go_ret
  exact ⟨rfl, rfl⟩
set_option maxHeartbeats 400000 in
theorem doccheck_nil (v k ep : Int) (w : World) (hv : 0 ≤ v ∧ v ≤ 4294967295) (hk : 0 ≤ k ∧ k ≤ 255) :
    Calls Try.prog 19 #[.pointer none, .int .u32 v, .int .u8 k, .int .u32 ep] w fun e w' => e = .returned (.int .i64 (nilc v)) ∧ w = w' := by
  have hne := nilc_ne v
  go_enter Try.func19, Try.ntmps19
  go_wp2_with fail
  refine (rthere_nil _ _ _ hv hk).mono ?_; rintro e w' ⟨rfl, rfl⟩
  go_wp2
  go_ret
  exact ⟨rfl, rfl⟩
set_option maxHeartbeats 400000 in
theorem docmove_nil (v k ep : Int) (w : World) (hv : 0 ≤ v ∧ v ≤ 4294967295) (hk : 0 ≤ k ∧ k ≤ 255) :
    Calls Try.prog 18 #[.pointer none, .int .u32 v, .int .u8 k, .int .u32 ep] w fun e w' => e = .returned (.int .i64 (nilc v)) ∧ w = w' := by
  have hne := nilc_ne v
  go_enter Try.func18, Try.ntmps18
  go_wp2_with fail
  refine (rthere_nil _ _ _ hv hk).mono ?_; rintro e w' ⟨rfl, rfl⟩
  go_wp2
  go_ret
  exact ⟨rfl, rfl⟩
set_option maxHeartbeats 400000 in
theorem docowner_nil (v : Int) (w : World) (hv : 0 ≤ v ∧ v ≤ 4294967295) :
    Calls Try.prog 20 #[.pointer none, .int .u32 v] w fun e w' => e = .returned (.tuple #[ent 0 (0, 0), .int .i64 (nilc v)]) ∧ Kept (fun _ => False) w w' := by
  by_cases h1 : v < 1
  · have HT := hid (show nilc v = 1 by unfold nilc num; simp; omega)
    go_enter Try.func20, Try.ntmps20
    go_wp2
    go_returns
    exact ⟨by simp [HT.out, ent], Kept.of_below (by go_grown) _⟩
  by_cases h2 : 40 < v
  · have HT := hid (show nilc v = 1 by unfold nilc num; simp; omega)
    go_enter Try.func20, Try.ntmps20
    go_wp2
    go_returns
    exact ⟨by simp [HT.out, ent], Kept.of_below (by go_grown) _⟩
  · have HT := hid (show nilc v = 6 by unfold nilc num; simp; omega)
    go_enter Try.func20, Try.ntmps20
    go_wp2
    go_returns
    exact ⟨by simp [HT.out, ent], Kept.of_below (by go_grown) _⟩
end Go.Proofs.Ytekapdankpamiaa
