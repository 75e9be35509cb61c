/- The law StampClocks. -/
import Derived.Test.YtfkkfjmdpkgicaaA
namespace Go.Proofs.Ytfkkfjmdpkgicaa
open Go.RowKit

set_option maxRecDepth 100000 in
set_option maxHeartbeats 1000000 in
theorem awake_any (w : World) :
    Calls Try.prog 7 #[] w fun e w' => e = .returned (.bool true) ∧ Below w.heap.size w w' := by
  have e1 : nxt 0 0 = 1 := by decide
  have e2 : nxt 1 5 = 6 := by decide
  have e3 : nxt 6 2 = 7 := by decide
  have e4 : ord ⟨5,1,0,0⟩ ⟨5,0,0,0⟩ = 1 := by decide
  go_enter Try.func7, Try.ntmps7
  go_wp2_with fail
  refine (new_any _).mono ?_; rintro e w' ⟨rfl, rfl⟩
  go_wp2_with fail
  refine (tick_any _ 0 _ ⟨by omega, by omega⟩ (by go_cell) (by go_cell)).mono ?_; rintro e w' ⟨rfl, rfl⟩
  go_wp2_with fail
  refine (see_any _ 1 5 _ ⟨by omega, by omega⟩ ⟨by omega, by omega⟩ (by go_cell) (by go_cell)).mono ?_; rintro e w' ⟨rfl, rfl⟩
  go_wp2_with fail
  refine (see_any _ 6 2 _ ⟨by omega, by omega⟩ ⟨by omega, by omega⟩ (by go_cell) (by go_cell)).mono ?_; rintro e w' ⟨rfl, rfl⟩
  go_wp2_with fail
  refine (now_any _ 7 _ (by go_cell)).mono ?_; rintro e w' ⟨rfl, rfl⟩
  go_wp2_with fail
  refine (order_any ⟨5,1,0,0⟩ ⟨5,0,0,0⟩ _).mono ?_; rintro e w' ⟨rfl, hb⟩
  go_wp2
  go_ret
  exact ⟨rfl, (by go_grown : Below w.heap.size w _).trans (hb.mono (by simp))⟩

theorem cells27 : Try.prog.cellsOf 27 = 1 := by kernel_rfl
theorem cells4b : Try.prog.cellsOf 4 = 1 := by kernel_rfl

set_option maxRecDepth 100000 in
set_option maxHeartbeats 1000000 in
theorem clocks_walk (W : World) (args : Array Value) (h : RdAll Try.prog W Try.f3.params.toList args.toList) :
    Calls Try.prog 3 args W fun e W' => e = .returned (.bool true) ∧ Below W.heap.size W W' := by
  rw [Try.params3] at h
  obtain ⟨v0, v1, rfl⟩ : ∃ v0 v1, args = #[v0, v1] := by
    rcases args with ⟨_ | ⟨v0, _ | ⟨v1, _ | ⟨v2, l⟩⟩⟩⟩ <;> simp [RdAll] at h
    exact ⟨v0, v1, rfl⟩
  obtain ⟨r0, r1, _⟩ := h
  obtain ⟨a0, len0, cap0, rfl, h0⟩ := r0.slice Try.underlying22
  obtain ⟨a1, len1, cap1, rfl, h1⟩ := r1.slice Try.underlying23
  obtain ⟨l0, m0, z0, _, c0⟩ := h0.row1 Try.underlying22 cells27
  obtain ⟨l1, m1, z1, _, c1⟩ := h1.row1 Try.underlying23 cells4b
  unfold maxLen at m0 m1
  have C0 := hid c0; clear c0
  have C1 := hid c1; clear c1 h0 h1 r0 r1 z0 z1
  go_enter Try.func3, Try.ntmps3
  go_wp2_with fail
  refine (awake_any _).mono ?_; rintro e w1 ⟨rfl, hb1⟩
  go_wp2_with fail
  refine (new_any _).mono ?_; rintro e w' ⟨rfl, rfl⟩
  go_wp2_with fail
  have hb2 : Below W.heap.size W (w1.alloc (.cells #[.int .u64 0] 60)) := hb1.alloc hb1.size _
  have hcb : W.heap.size ≤ w1.heap.size := hb1.size
  go_loopw [7, 17] (fun n i wr => ∃ (k : Nat) (c : Int), k ≤ len0 ∧ i = .int .i64 k ∧ n = .int .u64 c ∧ U64 c ∧ wr.cell? ⟨w1.heap.size, 0, none⟩ = some (.int .u64 c) ∧ wr.frozen? ⟨w1.heap.size, 0, none⟩ = false ∧ Below W.heap.size W wr)
    (fun _ i _ => len0 - (intOf i).toNat)
  case atStart => exact ⟨0, 0, Nat.zero_le _, rfl, rfl, ⟨by omega, by omega⟩, by go_cell, by go_cell, hb2⟩
  case round =>
    obtain ⟨k, c, hk, rfl, rfl, hc, hcell, hfr, hbel⟩ := hrel
    have HC := hid hc; clear hc
    have HB := hid hbel; clear hbel
    by_cases hlt : k < len0
    · obtain ⟨b, off, v, rfl, hbl, hv, hr⟩ := C0.out k (by omega)
      obtain ⟨z, hz, hwf⟩ := hr.int Try.underlying27
      simp only [List.cons.injEq, and_true] at hz
      subst hz
      have hcv : wr.cell? ⟨b, off + k, none⟩ = some (.int .u64 z) := (HB.out.cell (p := ⟨b, off + k, none⟩) hbl).trans hv
      clear hr hv
      have hz := u64_of_wf hwf
      have HZ := hid hz; clear hz hwf
      by_cases h200 : (200 : Int) ≤ (k : Int)
      · go_wp2_with fail
        go_ret
        exact ⟨rfl, HB.out⟩
      · have hcase : (∃ b' off', k < len1 ∧ a1 = some ⟨b', off', none⟩ ∧ wr.cell? ⟨b', off' + k, none⟩ = some (.bool true)) ∨ ¬ k < len1 ∨ (∃ b' off', k < len1 ∧ a1 = some ⟨b', off', none⟩ ∧ wr.cell? ⟨b', off' + k, none⟩ = some (.bool false)) := by
          by_cases hl : k < len1
          · obtain ⟨b', off', v, e1, hbl', hv, hr⟩ := C1.out k (by omega)
            obtain ⟨t, ht⟩ := hr.bool Try.underlying4
            simp only [List.cons.injEq, and_true] at ht
            subst ht
            have := (HB.out.cell (p := ⟨b', off' + k, none⟩) hbl').trans hv
            cases t
            · exact .inr (.inr ⟨b', off', hl, e1, this⟩)
            · exact .inl ⟨b', off', hl, e1, this⟩
          · exact .inr (.inl hl)
        have g0 := nxt_ge c 0 HC.out
        have g1 := nxt_ge c z HC.out
        have u0 := hid (nxt_u c 0 HC.out ⟨by omega, by omega⟩)
        have u1 := hid (nxt_u c z HC.out HZ.out)
        rcases hcase with ⟨b', off', hl, rfl, hcb'⟩ | hl | ⟨b', off', hl, rfl, hcb'⟩
        · go_wp2_with fail
          refine (next_any _ _ _ HC.out ⟨by omega, by omega⟩).mono ?_; rintro e w' ⟨rfl, rfl⟩
          go_wp2_with fail
          refine (tick_any _ c _ HC.out hcell hfr).mono ?_; rintro e w' ⟨rfl, rfl⟩
          have k1 := World.cell?_setCell_same wr ⟨w1.heap.size, 0, none⟩ (.int .u64 (nxt c 0)) hcell
          go_wp2_with fail
          refine (now_any _ (nxt c 0) _ k1).mono ?_; rintro e w' ⟨rfl, rfl⟩
          go_wp2_with fail
          refine (see_nil _ _).mono ?_; rintro e w' ⟨rfl, rfl⟩
          go_wp2_with fail
          refine (tick_nil _).mono ?_; rintro e w' ⟨rfl, rfl⟩
          go_wp2_with fail
          refine (now_nil _).mono ?_; rintro e w' ⟨rfl, rfl⟩
          go_wp2
          go_roundw
          case rel => exact ⟨k + 1, _, by omega, by go_num, rfl, u0.out, k1, by go_cell, HB.out.setCell hcb _⟩
          case measure => simp [intOf]; omega
        all_goals
          go_wp2_with fail
          refine (next_any _ _ _ HC.out HZ.out).mono ?_; rintro e w' ⟨rfl, rfl⟩
          go_wp2_with fail
          refine (see_any _ c _ _ HC.out HZ.out hcell hfr).mono ?_; rintro e w' ⟨rfl, rfl⟩
          have k1 := World.cell?_setCell_same wr ⟨w1.heap.size, 0, none⟩ (.int .u64 (nxt c z)) hcell
          have k2 : (wr.setCell ⟨w1.heap.size, 0, none⟩ (.int .u64 (nxt c z))).frozen? ⟨w1.heap.size, 0, none⟩ = false := by rw [World.frozen?_setCell]; exact hfr
          go_wp2_with fail
          refine (now_any _ (nxt c z) _ k1).mono ?_; rintro e w' ⟨rfl, rfl⟩
          go_wp2_with fail
          refine (see_nil _ _).mono ?_; rintro e w' ⟨rfl, rfl⟩
          go_wp2_with fail
          refine (tick_nil _).mono ?_; rintro e w' ⟨rfl, rfl⟩
          go_wp2_with fail
          refine (now_nil _).mono ?_; rintro e w' ⟨rfl, rfl⟩
          go_wp2
          go_roundw
          case rel => exact ⟨k + 1, _, by omega, by go_num, rfl, u1.out, k1, k2, HB.out.setCell hcb _⟩
          case measure => simp [intOf]; omega
    · go_wp2
      go_ret
      exact ⟨rfl, HB.out⟩
end Go.Proofs.Ytfkkfjmdpkgicaa
