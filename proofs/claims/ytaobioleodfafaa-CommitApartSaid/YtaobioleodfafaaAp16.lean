/- Texts of this claim, merged: X. -/
import Derived.Sort.Grow
import Derived.Test.YtaobioleodfafaaAp1
import Derived.Test.YtaobioleodfafaaAp2
import Derived.Test.YtaobioleodfafaaAp3
import Derived.Test.YtaobioleodfafaaAp4
import Derived.Test.YtaobioleodfafaaAp5
import Derived.Test.YtaobioleodfafaaAp6
import Derived.Test.YtaobioleodfafaaAp7
import Derived.Test.YtaobioleodfafaaAp8
import Derived.Test.YtaobioleodfafaaAp9
import Derived.Test.YtaobioleodfafaaAp10
import Derived.Test.YtaobioleodfafaaAp11
import Derived.Test.YtaobioleodfafaaAp12
import Derived.Test.YtaobioleodfafaaAp13
import Derived.Test.YtaobioleodfafaaAp14
import Derived.Test.YtaobioleodfafaaAp15
/- The order of TxIDs: Doubt$1. -/
namespace Go.Proofs.Ytaobioleodfafaa
open Go.RowKit
def ordT (x y : Tx) : Int := orI (cmpI x.1 y.1) (cmpI x.2.1 y.2.1) (cmpI x.2.2 y.2.2)
set_option maxRecDepth 100000 in
set_option maxHeartbeats 1000000 in
theorem order_grow (x y : Tx) (W : World) : Calls Try.prog 46 #[txv x, txv y] W fun e w' => e = .returned (.int .i64 (ordT x y)) ∧ ∃ q os', w' = Go.Sort.grow (W.drewN q) os' := by
  obtain ⟨x1, x2, x3⟩ := x
  obtain ⟨y1, y2, y3⟩ := y
  unfold txv
  obtain ⟨a1, h1⟩ : ∃ c, cmpI x1 y1 = c := ⟨_, rfl⟩
  obtain ⟨a2, h2⟩ : ∃ c, cmpI x2 y2 = c := ⟨_, rfl⟩
  obtain ⟨a3, h3⟩ : ∃ c, cmpI x3 y3 = c := ⟨_, rfl⟩
  have HO := hid (show ordT (x1, x2, x3) (y1, y2, y3) = orI a1 a2 a3 by simp only [ordT]; rw [h1, h2, h3])
  have H1 := hid h1; have H2 := hid h2; have H3 := hid h3
  clear h1 h2 h3
  have htw := two_new W (.cells #[.int .u8 x1, .int .u32 x2, .int .u32 x3] 28) (.cells #[.int .u8 y1, .int .u32 y2, .int .u32 y3] 28)
  obtain ⟨w1, hw1⟩ : ∃ w1, (W.alloc (.cells #[.int .u8 x1, .int .u32 x2, .int .u32 x3] 28)).alloc (.cells #[.int .u8 y1, .int .u32 y2, .int .u32 y3] 28) = w1 := ⟨_, rfl⟩
  obtain ⟨xb, hxb⟩ : ∃ b, W.heap.size = b := ⟨_, rfl⟩
  rw [hw1] at htw
  rw [hxb] at htw
  obtain ⟨c0, c1, c2⟩ := cells3 htw.1
  obtain ⟨d0, d1, d2⟩ := cells3 htw.2
  have HW1 := hid hw1
  go_enter Try.func46, Try.ntmps46
  go_wp2_with fail
  clear hw1 hxb htw
  have s0 : w1.cell? ⟨xb, 0, none⟩ = some (.int .u8 x1) ∧ w1.cell? ⟨xb, 1, none⟩ = some (.int .u32 x2) ∧ w1.cell? ⟨xb, 2, none⟩ = some (.int .u32 x3) ∧ w1.cell? ⟨xb + 1, 0, none⟩ = some (.int .u8 y1) ∧ w1.cell? ⟨xb + 1, 1, none⟩ = some (.int .u32 y2) ∧ w1.cell? ⟨xb + 1, 2, none⟩ = some (.int .u32 y3) := ⟨c0, c1, c2, d0, d1, d2⟩
  have s1 : w1.drew.cell? ⟨xb, 0, none⟩ = some (.int .u8 x1) ∧ w1.drew.cell? ⟨xb, 1, none⟩ = some (.int .u32 x2) ∧ w1.drew.cell? ⟨xb, 2, none⟩ = some (.int .u32 x3) ∧ w1.drew.cell? ⟨xb + 1, 0, none⟩ = some (.int .u8 y1) ∧ w1.drew.cell? ⟨xb + 1, 1, none⟩ = some (.int .u32 y2) ∧ w1.drew.cell? ⟨xb + 1, 2, none⟩ = some (.int .u32 y3) := s0
  have s2 : ∀ o, (w1.drew.alloc o).cell? ⟨xb, 0, none⟩ = some (.int .u8 x1) ∧ (w1.drew.alloc o).cell? ⟨xb, 1, none⟩ = some (.int .u32 x2) ∧ (w1.drew.alloc o).cell? ⟨xb, 2, none⟩ = some (.int .u32 x3) ∧ (w1.drew.alloc o).cell? ⟨xb + 1, 0, none⟩ = some (.int .u8 y1) ∧ (w1.drew.alloc o).cell? ⟨xb + 1, 1, none⟩ = some (.int .u32 y2) ∧ (w1.drew.alloc o).cell? ⟨xb + 1, 2, none⟩ = some (.int .u32 y3) := fun o => by
    have k := (Kept.refl (fun _ => False) w1.drew).alloc o
    obtain ⟨e0, e1, e2, e3, e4, e5⟩ := s1
    exact ⟨k.cell e0 id, k.cell e1 id, k.cell e2 id, k.cell e3 id, k.cell e4 id, k.cell e5 id⟩
  clear c0 c1 c2 d0 d1 d2
  go_region_held3 (fun w' => w'.cell? ⟨xb, 0, none⟩ = some (.int .u8 x1) ∧ w'.cell? ⟨xb, 1, none⟩ = some (.int .u32 x2) ∧ w'.cell? ⟨xb, 2, none⟩ = some (.int .u32 x3) ∧ w'.cell? ⟨xb + 1, 0, none⟩ = some (.int .u8 y1) ∧ w'.cell? ⟨xb + 1, 1, none⟩ = some (.int .u32 y2) ∧ w'.cell? ⟨xb + 1, 2, none⟩ = some (.int .u32 y3)) (first | exact s1 | exact s0 | exact s2 _)
    (first
      | (go_at_call 48; refine (compareu8 _ _ _).mono ?_; rintro e w' ⟨he, rfl⟩; rw [H1.out] at he; subst he)
      | (go_at_call 49; refine (compareu32 _ _ _).mono ?_; rintro e w' ⟨he, rfl⟩; (first | rw [H2.out] at he | rw [H3.out] at he); subst he)
      | (go_at_call 47; refine (or_any (by exact row_new _ _)).mono ?_; rintro e w' ⟨rfl, rfl⟩))
  go_wp2
  go_ret
  refine ⟨ret_int HO.out.symm, 1, #[.cells #[.int .u8 x1, .int .u32 x2, .int .u32 x3] 28, .cells #[.int .u8 y1, .int .u32 y2, .int .u32 y3] 28, .cells #[.int .i64 a1, .int .i64 a2, .int .i64 a3] 3], ?_⟩
  rw [← HW1.out, Go.Sort.alloc_eq_grow, Go.Sort.alloc_eq_grow, Go.Sort.alloc_eq_grow, Go.Sort.grow_grow, Go.Sort.grow_grow]
  rfl
/-- the order of TxIDs -/
def ltT (x y : Tx) : Prop := x.1 < y.1 ∨ x.1 = y.1 ∧ (x.2.1 < y.2.1 ∨ x.2.1 = y.2.1 ∧ x.2.2 < y.2.2)
instance (x y : Tx) : Decidable (ltT x y) := by unfold ltT; infer_instance
theorem cmpI_neg {x y : Int} : cmpI x y < 0 ↔ x < y := by unfold cmpI; split <;> (try split) <;> omega
theorem cmpI_zero {x y : Int} : cmpI x y = 0 ↔ x = y := by unfold cmpI; split <;> (try split) <;> omega
theorem ordT_neg {x y : Tx} : ordT x y < 0 ↔ ltT x y := by
  unfold ordT orI ltT
  have a1 := cmpI_zero (x := x.1) (y := y.1); have a2 := cmpI_neg (x := x.1) (y := y.1)
  have b1 := cmpI_zero (x := x.2.1) (y := y.2.1); have b2 := cmpI_neg (x := x.2.1) (y := y.2.1)
  have d2 := cmpI_neg (x := x.2.2) (y := y.2.2)
  split
  · omega
  · split <;> omega
theorem ltT_trans {x y z : Tx} (h1 : ltT x y) (h2 : ltT y z) : ltT x z := by
  obtain ⟨x1, x2, x3⟩ := x
  obtain ⟨y1, y2, y3⟩ := y
  obtain ⟨z1, z2, z3⟩ := z
  simp only [ltT] at h1 h2 ⊢
  omega
theorem ltT_total {x y : Tx} (h1 : ¬ ltT x y) (h2 : ¬ ltT y x) : x = y := by
  obtain ⟨x1, x2, x3⟩ := x
  obtain ⟨y1, y2, y3⟩ := y
  simp only [ltT] at h1 h2
  simp only [Prod.mk.injEq]
  omega
theorem ltT_ntrans {x y z : Tx} (h1 : ¬ ltT x y) (h2 : ¬ ltT y z) : ¬ ltT x z := by
  obtain ⟨x1, x2, x3⟩ := x
  obtain ⟨y1, y2, y3⟩ := y
  obtain ⟨z1, z2, z3⟩ := z
  simp only [ltT] at h1 h2 ⊢
  omega
theorem ltT_irrefl (x : Tx) : ¬ ltT x x := by simp [ltT]
end Go.Proofs.Ytaobioleodfafaa
