/- Texts of this claim, merged: SrtA. -/
import Derived.BigQuiet
import Derived.BigRegion
import Derived.Deep.QuietTactic
import Derived.Sort.AssemblyPlain
import Derived.Test.YtpjhdpfaogdboaaPm1
import Derived.Test.YtpjhdpfaogdboaaPm3
import Derived.Test.YtpjhdpfaogdboaaPm5
import Derived.Test.YtpjhdpfaogdboaaPm6
/- A row of numbers that is sorted in place: the row in memory; less, order2, median, choosePivot, reverseRange. -/
namespace Go.Proofs.Ytpjhdpfaogdboaa
set_option linter.unusedSimpArgs false
set_option linter.unusedVariables false
open Go.RowKit
open Go.Sort (swp ltInt)

def us (d : Array Int) : List Value := d.toList.map (Value.int .u32)
/-- block g: the numbers d, and tl behind them -/
def Srt (w : World) (g : Nat) (d : Array Int) (tl : List Value) : Prop := w.heap[g]? = some (.cells (us d ++ tl).toArray 26 (0, 0))
/-- the i-th number -/
@[irreducible] def nt (d : Array Int) (i : Nat) : Int := d[i]!
theorem nt_eq (d : Array Int) (i : Nat) : d[i]! = nt d i := by unfold nt; rfl
theorem us_len (d : Array Int) : (us d).length = d.size := by simp [us]
theorem us_at {d : Array Int} {i : Nat} (h : i < d.size) : (us d)[i]? = some (.int .u32 (nt d i)) := by
  rw [← nt_eq]
  simp [us, h, getElem!_pos]
section
variable {w w' : World} {g : Nat} {d : Array Int} {tl : List Value}
theorem Srt.cell (h : Srt w g d tl) {i : Nat} (hi : i < d.size) : w.cell? ⟨g, i, none⟩ = some (.int .u32 (nt d i)) := by
  rw [row_cell h]
  have := us_at hi
  rw [List.getElem?_toArray, List.getElem?_append_left (by rw [us_len]; exact hi)]
  exact this
theorem Srt.free (h : Srt w g d tl) (i : Nat) : w.frozen? ⟨g, i, none⟩ = false := row_free h i
theorem Srt.lt (h : Srt w g d tl) : g < w.heap.size := row_lt h
theorem Srt.kept {F : Nat → Prop} (h : Srt w g d tl) (k : Kept F w w') (hF : ¬ F g) : Srt w' g d tl := (k.block g h.lt hF).trans h
theorem us_set (d : Array Int) (i : Nat) (x : Int) : (us d).set i (.int .u32 x) = us (d.setIfInBounds i x) := by
  simp [us, List.map_set]
theorem Srt.put (h : Srt w g d tl) (i : Nat) (x : Int) (hi : i < d.size) : Srt (w.setCell ⟨g, i, none⟩ (.int .u32 x)) g (d.setIfInBounds i x) tl := by
  have := row_set h i (.int .u32 x)
  unfold Srt
  rw [this]
  congr 2
  rw [← us_set]
  simp [List.setIfInBounds_toArray, List.set_append, us_len, hi]
theorem Srt.swap (h : Srt w g d tl) {i j : Nat} (hi : i < d.size) (hj : j < d.size) : Srt ((w.setCell ⟨g, i, none⟩ (.int .u32 (nt d j))).setCell ⟨g, j, none⟩ (.int .u32 (nt d i))) g (swp d i j) tl := by
  rw [← nt_eq, ← nt_eq]
  exact (h.put i _ hi).put j _ (by simpa using hj)
theorem kept_swap {g i j : Nat} {u v : Value} (w : World) : Kept (fun k => k = g) w ((w.setCell ⟨g, i, none⟩ u).setCell ⟨g, j, none⟩ v) :=
  ((Kept.refl (fun k => k = g) w).setCell (p := ⟨g, i, none⟩) (.inl rfl) u).setCell (p := ⟨g, j, none⟩) (.inl rfl) v
theorem kept_drewN {F : Nat → Prop} (w : World) (n : Nat) : Kept F w (w.drewN n) := ⟨rfl, rfl, rfl, Nat.le_refl _, fun _ _ _ => rfl⟩
end
theorem size_swp (d : Array Int) (i j : Nat) : (swp d i j).size = d.size := by simp [swp]
/-- less, the numbers unread -/
@[irreducible] def ls (d : Array Int) (i j : Nat) : Bool := ltInt (nt d i) (nt d j)
theorem ls_eq (d : Array Int) (i j : Nat) : ltInt d[i]! d[j]! = ls d i j := by rw [nt_eq, nt_eq]; unfold ls; rfl

theorem nan_no (x : Int) (w : World) : Calls Try.prog 65 #[.int .u32 x] w fun e w' => e = .returned (.bool false) ∧ w = w' := by
  go_enter Try.func65, Try.ntmps65
  go_wp2
  go_ret
  exact ⟨ret_bool (by simp), rfl⟩
theorem less_any (d : Array Int) (i j : Nat) (w : World) : Calls Try.prog 82 #[.int .u32 (nt d i), .int .u32 (nt d j)] w fun e w' => e = .returned (.bool (ls d i j)) ∧ w' = w := by
  obtain ⟨x, hx⟩ : ∃ x, nt d i = x := ⟨_, rfl⟩
  obtain ⟨y, hy⟩ : ∃ y, nt d j = y := ⟨_, rfl⟩
  have e : ls d i j = ltInt x y := by unfold ls; rw [hx, hy]
  rw [hx, hy, e]
  clear e hx hy
  go_enter Try.func82, Try.ntmps82
  go_wp2_with fail
  refine (nan_no _ _).mono ?_; rintro e w' ⟨rfl, rfl⟩
  go_wp2
  go_ret
  exact ⟨ret_bool (by simp [ltInt]), rfl⟩
end Go.Proofs.Ytpjhdpfaogdboaa
