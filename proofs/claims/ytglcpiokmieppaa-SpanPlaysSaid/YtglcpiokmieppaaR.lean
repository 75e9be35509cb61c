/- awake. -/
import Derived.Test.YtglcpiokmieppaaQ
namespace Go.Proofs.Ytglcpiokmieppaa
open Go.RowKit

theorem aw1 : addS [] 1 3 = [(1, 3)] := by rfl
theorem aw2 : addS [(1, 3)] 5 7 = [(1, 3), (5, 7)] := by rfl
theorem aw3 : addS [(1, 3), (5, 7)] 4 4 = [(1, 7)] := by rfl
theorem aw4 : dropS [(1, 7)] 2 3 = [(1, 1), (4, 7)] := by rfl
theorem aw5 : freeV [(1, 1), (4, 7)] 4 = (8, true) := by rfl
set_option maxRecDepth 100000 in
set_option maxHeartbeats 2000000 in
theorem awake_any (w : World) : Calls Try.prog 8 #[] w fun e w' => e = .returned (.bool true) ∧ Kept (fun _ => False) w w' := by
  have k1 : chk 1 3 = 0 := rfl
  have k2 : chk 5 7 = 0 := rfl
  have k3 : chk 4 4 = 0 := rfl
  have k4 : chk 2 3 = 0 := rfl
  go_enter Try.func8, Try.ntmps8
  go_wp2_with fail
  refine (new_any _).mono ?_
  rintro e w1 ⟨rfl, hs, hk⟩
  have H1 := hid (show S1 w.heap.size w1 w.heap.size [] from ⟨_, st_new hs⟩)
  have B1 := hid (hk.below (B := w.heap.size) (Nat.le_refl _) (fun _ h => h.elim))
  clear hs hk
  go_wp2_with fail
  refine (H1.out.add 1 3 (by decide) (by decide)).mono ?_
  rintro e w2 ⟨rfl, hs, hb⟩
  rw [aw1] at hs
  rw [k1]
  have H2 := hid hs; have B2 := hid (B1.out.trans hb)
  clear hs hb H1 B1
  go_wp2_with fail
  refine (H2.out.add 5 7 (by decide) (by decide)).mono ?_
  rintro e w3 ⟨rfl, hs, hb⟩
  rw [aw2] at hs
  rw [k2]
  have H3 := hid hs; have B3 := hid (B2.out.trans hb)
  clear hs hb H2 B2
  go_wp2_with fail
  refine (H3.out.spans).mono ?_
  rintro e w4 ⟨ao, c, rfl, _, hk⟩
  have H4 := hid (H3.out.same hk); have B4 := hid (B3.out.trans (hk.below (B := w.heap.size) H3.out.B (fun _ h => h.elim)))
  clear hk H3 B3
  go_wp2_with fail
  refine (H4.out.add 4 4 (by decide) (by decide)).mono ?_
  rintro e w5 ⟨rfl, hs, hb⟩
  rw [aw3] at hs
  rw [k3]
  have H5 := hid hs; have B5 := hid (B4.out.trans hb)
  clear hs hb H4 B4
  go_wp2_with fail
  refine (H5.out.drop 2 3 (by decide) (by decide)).mono ?_
  rintro e w6 ⟨rfl, hs, hb⟩
  rw [aw4] at hs
  rw [k4]
  have H6 := hid hs; have B6 := hid (B5.out.trans hb)
  clear hs hb H5 B5
  go_wp2_with fail
  refine (H6.out.free 4).mono ?_
  rintro e w7 ⟨rfl, hk⟩
  rw [aw5]
  have H7 := hid (H6.out.same hk); have B7 := hid (B6.out.trans (hk.below (B := w.heap.size) H6.out.B (fun _ h => h.elim)))
  clear hk H6 B6
  go_wp2_with fail
  refine (H7.out.count).mono ?_
  rintro e w8 ⟨rfl, hk⟩
  rw [show cntS [(1, 1), (4, 7)] = 5 from rfl]
  have H8 := hid (H7.out.same hk); have B8 := hid (B7.out.trans (hk.below (B := w.heap.size) H7.out.B (fun _ h => h.elim)))
  clear hk H7 B7
  go_wp2_with fail
  refine (H8.out.spans).mono ?_
  rintro e w9 ⟨ao', c', rfl, hf, hk⟩
  have HF9 := hid hf
  have H9 := hid (H8.out.same hk); have B9 := hid (B8.out.trans (hk.below (B := w.heap.size) H8.out.B (fun _ h => h.elim)))
  clear hk H8 B8 hf
  go_wp2_with fail
  refine (conv_any HF9.out.lies (by decide)).mono ?_
  rintro e w10 ⟨v, rfl, hf, hk⟩
  have HF10 := hid hf
  have H10 := hid (H9.out.same hk); have B10 := hid (B9.out.trans (hk.below (B := w.heap.size) H9.out.B (fun _ h => h.elim)))
  clear hk H9 B9 hf HF9
  go_wp2_with fail
  refine (same_any (F := fun _ => False) (G := fun _ => False) (l := [(1, 1), (4, 7)]) ((HF10.out.lies.kept (((Kept.refl (fun _ => False) w10).alloc _)) (fun _ _ h => h.elim)).mono (fun _ _ h => h.elim)) (lies_lit (row_new _ _) rfl (by decide) (by decide))).mono ?_
  rintro e w11 ⟨rfl, hk⟩
  have B11 := hid ((B10.out.alloc H10.out.B _).trans (hk.below (B := w.heap.size) (by have := H10.out.B; simp; omega) (fun _ h => h.elim)))
  clear hk
  go_wp2
  go_ret
  exact ⟨rfl, Kept.of_below B11.out _⟩
end Go.Proofs.Ytglcpiokmieppaa
