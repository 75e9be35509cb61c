/- Order. -/
import Derived.Test.YtfkkfjmdpkgicaaF
namespace Go.Proofs.Ytfkkfjmdpkgicaa
open Go.RowKit
abbrev Sp := Int × Int × Int × Int
def sv (x : Sp) : Value := .agg #[.int .u64 x.1, .int .u8 x.2.1, .int .u32 x.2.2.1, .int .u32 x.2.2.2]
def ordS (x y : Sp) : Int := orI (cmpI x.1 y.1) (cmpI x.2.1 y.2.1) (cmpI x.2.2.1 y.2.2.1) (cmpI x.2.2.2 y.2.2.2)
theorem cells4' {w : World} {b T : Nat} {x y z u : Value} (h : w.heap[b]? = some (.cells #[x, y, z, u] T (0, 0))) : w.cell? ⟨b, 0, none⟩ = some x ∧ w.cell? ⟨b, 1, none⟩ = some y ∧ w.cell? ⟨b, 2, none⟩ = some z ∧ w.cell? ⟨b, 3, none⟩ = some u :=
  ⟨by rw [row_cell h]; rfl, by rw [row_cell h]; rfl, by rw [row_cell h]; rfl, by rw [row_cell h]; rfl⟩
set_option maxRecDepth 100000 in
set_option maxHeartbeats 1000000 in
theorem order_grow (x y : Sp) (W : World) : Calls Try.prog 14 #[sv x, sv y] W fun e w' => e = .returned (.int .i64 (ordS x y)) ∧ ∃ q os', w' = Go.Sort.grow (W.drewN q) os' := by
  obtain ⟨x1, x2, x3, x4⟩ := x
  obtain ⟨y1, y2, y3, y4⟩ := y
  unfold sv
  obtain ⟨a1, h1⟩ : ∃ c, cmpI x1 y1 = c := ⟨_, rfl⟩
  obtain ⟨a2, h2⟩ : ∃ c, cmpI x2 y2 = c := ⟨_, rfl⟩
  obtain ⟨a3, h3⟩ : ∃ c, cmpI x3 y3 = c := ⟨_, rfl⟩
  obtain ⟨a4, h4⟩ : ∃ c, cmpI x4 y4 = c := ⟨_, rfl⟩
  have HO := hid (show ordS (x1, x2, x3, x4) (y1, y2, y3, y4) = orI a1 a2 a3 a4 by simp only [ordS]; rw [h1, h2, h3, h4])
  have H1 := hid h1; have H2 := hid h2; have H3 := hid h3; have H4 := hid h4
  clear h1 h2 h3 h4
  have htw := two_new W (.cells #[.int .u64 x1, .int .u8 x2, .int .u32 x3, .int .u32 x4] 48) (.cells #[.int .u64 y1, .int .u8 y2, .int .u32 y3, .int .u32 y4] 48)
  obtain ⟨w1, hw1⟩ : ∃ w1, (W.alloc (.cells #[.int .u64 x1, .int .u8 x2, .int .u32 x3, .int .u32 x4] 48)).alloc (.cells #[.int .u64 y1, .int .u8 y2, .int .u32 y3, .int .u32 y4] 48) = w1 := ⟨_, rfl⟩
  obtain ⟨xb, hxb⟩ : ∃ b, W.heap.size = b := ⟨_, rfl⟩
  rw [hw1] at htw
  rw [hxb] at htw
  obtain ⟨c0, c1, c2, c3⟩ := cells4' htw.1
  obtain ⟨d0, d1, d2, d3⟩ := cells4' htw.2
  have HW1 := hid hw1
  go_enter Try.func14, Try.ntmps14
  go_wp2_with fail
  clear hw1 hxb htw
  have s0 : w1.cell? ⟨xb, 0, none⟩ = some (.int .u64 x1) ∧ w1.cell? ⟨xb, 1, none⟩ = some (.int .u8 x2) ∧ w1.cell? ⟨xb, 2, none⟩ = some (.int .u32 x3) ∧ w1.cell? ⟨xb, 3, none⟩ = some (.int .u32 x4) ∧ w1.cell? ⟨xb + 1, 0, none⟩ = some (.int .u64 y1) ∧ w1.cell? ⟨xb + 1, 1, none⟩ = some (.int .u8 y2) ∧ w1.cell? ⟨xb + 1, 2, none⟩ = some (.int .u32 y3) ∧ w1.cell? ⟨xb + 1, 3, none⟩ = some (.int .u32 y4) := ⟨c0, c1, c2, c3, d0, d1, d2, d3⟩
  have s1 : w1.drew.cell? ⟨xb, 0, none⟩ = some (.int .u64 x1) ∧ w1.drew.cell? ⟨xb, 1, none⟩ = some (.int .u8 x2) ∧ w1.drew.cell? ⟨xb, 2, none⟩ = some (.int .u32 x3) ∧ w1.drew.cell? ⟨xb, 3, none⟩ = some (.int .u32 x4) ∧ w1.drew.cell? ⟨xb + 1, 0, none⟩ = some (.int .u64 y1) ∧ w1.drew.cell? ⟨xb + 1, 1, none⟩ = some (.int .u8 y2) ∧ w1.drew.cell? ⟨xb + 1, 2, none⟩ = some (.int .u32 y3) ∧ w1.drew.cell? ⟨xb + 1, 3, none⟩ = some (.int .u32 y4) := s0
  have s2 : ∀ o, (w1.drew.alloc o).cell? ⟨xb, 0, none⟩ = some (.int .u64 x1) ∧ (w1.drew.alloc o).cell? ⟨xb, 1, none⟩ = some (.int .u8 x2) ∧ (w1.drew.alloc o).cell? ⟨xb, 2, none⟩ = some (.int .u32 x3) ∧ (w1.drew.alloc o).cell? ⟨xb, 3, none⟩ = some (.int .u32 x4) ∧ (w1.drew.alloc o).cell? ⟨xb + 1, 0, none⟩ = some (.int .u64 y1) ∧ (w1.drew.alloc o).cell? ⟨xb + 1, 1, none⟩ = some (.int .u8 y2) ∧ (w1.drew.alloc o).cell? ⟨xb + 1, 2, none⟩ = some (.int .u32 y3) ∧ (w1.drew.alloc o).cell? ⟨xb + 1, 3, none⟩ = some (.int .u32 y4) := fun o => by
    have k := (Kept.refl (fun _ => False) w1.drew).alloc o
    obtain ⟨e0, e1, e2, e3, e4, e5, e6, e7⟩ := s1
    exact ⟨k.cell e0 id, k.cell e1 id, k.cell e2 id, k.cell e3 id, k.cell e4 id, k.cell e5 id, k.cell e6 id, k.cell e7 id⟩
  clear c0 c1 c2 c3 d0 d1 d2 d3
  go_region_held3 (fun w' => w'.cell? ⟨xb, 0, none⟩ = some (.int .u64 x1) ∧ w'.cell? ⟨xb, 1, none⟩ = some (.int .u8 x2) ∧ w'.cell? ⟨xb, 2, none⟩ = some (.int .u32 x3) ∧ w'.cell? ⟨xb, 3, none⟩ = some (.int .u32 x4) ∧ w'.cell? ⟨xb + 1, 0, none⟩ = some (.int .u64 y1) ∧ w'.cell? ⟨xb + 1, 1, none⟩ = some (.int .u8 y2) ∧ w'.cell? ⟨xb + 1, 2, none⟩ = some (.int .u32 y3) ∧ w'.cell? ⟨xb + 1, 3, none⟩ = some (.int .u32 y4)) (first | exact s1 | exact s0 | exact s2 _)
    (first
      | (go_at_call 23; refine (compareu64 _ _ _).mono ?_; rintro e w' ⟨he, rfl⟩; rw [H1.out] at he; subst he)
      | (go_at_call 24; refine (compareu8 _ _ _).mono ?_; rintro e w' ⟨he, rfl⟩; rw [H2.out] at he; subst he)
      | (go_at_call 25; refine (compareu32 _ _ _).mono ?_; rintro e w' ⟨he, rfl⟩; (first | rw [H3.out] at he | rw [H4.out] at he); subst he)
      | (go_at_call 22; refine (or_any (by exact row_new _ _)).mono ?_; rintro e w' ⟨rfl, rfl⟩))
  go_wp2
  go_ret
  refine ⟨ret_int HO.out.symm, 1, #[.cells #[.int .u64 x1, .int .u8 x2, .int .u32 x3, .int .u32 x4] 48, .cells #[.int .u64 y1, .int .u8 y2, .int .u32 y3, .int .u32 y4] 48, .cells #[.int .i64 a1, .int .i64 a2, .int .i64 a3, .int .i64 a4] 3], ?_⟩
  rw [← HW1.out, Go.Sort.alloc_eq_grow, Go.Sort.alloc_eq_grow, Go.Sort.alloc_eq_grow, Go.Sort.grow_grow, Go.Sort.grow_grow]
  rfl
/-- the order of stamps -/
def eldS (x y : Sp) : Prop := x.1 < y.1 ∨ x.1 = y.1 ∧ (x.2.1 < y.2.1 ∨ x.2.1 = y.2.1 ∧ (x.2.2.1 < y.2.2.1 ∨ x.2.2.1 = y.2.2.1 ∧ x.2.2.2 < y.2.2.2))
instance (x y : Sp) : Decidable (eldS x y) := by unfold eldS; infer_instance
theorem cmpI_neg {x y : Int} : cmpI x y < 0 ↔ x < y := by unfold cmpI; split <;> (try split) <;> omega
theorem cmpI_zero {x y : Int} : cmpI x y = 0 ↔ x = y := by unfold cmpI; split <;> (try split) <;> omega
theorem ordS_neg {x y : Sp} : ordS x y < 0 ↔ eldS x y := by
  unfold ordS orI eldS
  have a1 := cmpI_zero (x := x.1) (y := y.1); have a2 := cmpI_neg (x := x.1) (y := y.1)
  have b1 := cmpI_zero (x := x.2.1) (y := y.2.1); have b2 := cmpI_neg (x := x.2.1) (y := y.2.1)
  have c1 := cmpI_zero (x := x.2.2.1) (y := y.2.2.1); have c2 := cmpI_neg (x := x.2.2.1) (y := y.2.2.1)
  have d2 := cmpI_neg (x := x.2.2.2) (y := y.2.2.2)
  split
  · omega
  · split
    · omega
    · split <;> omega
theorem ltOf_ordS (x y : Sp) : ltOf ordS x y = decide (eldS x y) := by
  unfold ltOf
  by_cases h : eldS x y
  · have := ordS_neg.2 h; simp [h, this]
  · have : ¬ ordS x y < 0 := fun h1 => h (ordS_neg.1 h1)
    simp [h]; omega
theorem eld_trans {x y z : Sp} (h1 : eldS x y) (h2 : eldS y z) : eldS x z := by
  obtain ⟨x1, x2, x3, x4⟩ := x
  obtain ⟨y1, y2, y3, y4⟩ := y
  obtain ⟨z1, z2, z3, z4⟩ := z
  simp only [eldS] at h1 h2 ⊢
  omega
theorem eld_total {x y : Sp} (h1 : ¬ eldS x y) (h2 : ¬ eldS y x) : x = y := by
  obtain ⟨x1, x2, x3, x4⟩ := x
  obtain ⟨y1, y2, y3, y4⟩ := y
  simp only [eldS] at h1 h2
  simp only [Prod.mk.injEq]
  omega
theorem eld_ntrans {x y z : Sp} (h1 : ¬ eldS x y) (h2 : ¬ eldS y z) : ¬ eldS x z := by
  obtain ⟨x1, x2, x3, x4⟩ := x
  obtain ⟨y1, y2, y3, y4⟩ := y
  obtain ⟨z1, z2, z3, z4⟩ := z
  simp only [eldS] at h1 h2 ⊢
  omega
theorem eld_irrefl (x : Sp) : ¬ eldS x x := by simp [eldS]
theorem swoS : Go.Sort.SWO (ltOf ordS) where
  irrefl x := by rw [ltOf_ordS]; simpa using eld_irrefl x
  trans x y z h1 h2 := by rw [ltOf_ordS, decide_eq_true_eq] at *; exact eld_trans h1 h2
  ntrans x y z h1 h2 := by rw [ltOf_ordS, decide_eq_false_iff_not] at *; exact eld_ntrans h1 h2
def encS (x : Sp) : List Value := [.int .u64 x.1, .int .u8 x.2.1, .int .u32 x.2.2.1, .int .u32 x.2.2.2]
theorem cmpLaysS (blk off size : Nat) (w : World) : Go.Proofs.CmpLays Try.prog 14 #[] encS 4 ordS blk off size w :=
  fun _ _ _ _ x y => order_grow x y _
set_option maxHeartbeats 1000000 in
theorem sortfunc_any (blk off cap : Nat) (d : Array Sp) (w : World) (hH : Go.Sort.HoldsK encS 4 w blk off d) (hblk : blk < w.heap.size) (hsz : d.size < 4611686018427387904) :
    Calls Try.prog 33 #[.slice (some ⟨blk, off, none⟩) d.size cap, .func (.func 14) #[] #[]] w fun e w' => e = .returned (.tuple #[]) ∧ ∃ d' n os, Go.Sort.PermIn 0 d.size d d' ∧ Go.Sort.SortedIn (ltOf ordS) 0 d.size d' ∧ w' = sortWorldK encS 4 w blk off n d' os := by
  have eg : ∀ args w, (callFunc 14 args).run Try.prog w = .ok (.enter 14 args) w := enters_of Try.func14 (by kernel_rfl) rfl
  exact AnyQ.slices_SortFunc Try.sortL 4 Try.isAgg48 Try.sizeOf48 encS (fun _ => rfl) (fun x v hv => by simp [encS] at hv; rcases hv with rfl | rfl | rfl | rfl <;> rfl) ordS swoS 14 #[] blk off cap d w eg (cmpLaysS blk off d.size w) hH hblk hsz
end Go.Proofs.Ytfkkfjmdpkgicaa
