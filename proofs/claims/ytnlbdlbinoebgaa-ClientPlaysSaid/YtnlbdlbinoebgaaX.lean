/- Requests in form, exactly: the document's check. -/
import Derived.Test.YtnlbdlbinoebgaaW
namespace Go.Proofs.Ytnlbdlbinoebgaa
open Go.RowKit
set_option linter.unusedSimpArgs false in
set_option maxRecDepth 100000 in
set_option maxHeartbeats 4000000 in
theorem dcheck_is {F : Nat → Prop} {w : World} {v : Value} {R : Rq} (h : ReqIn F w v R) : Calls Try.prog 34 #[.agg #[.int .u8 R.kd, v, .int .u32 R.v, .int .i64 R.k, .int .i64 R.t]] w (ChkP (chk R) w) := by
  have H := hid h
  obtain ⟨ao, c, rfl, m1, m2, _⟩ := h.l
  unfold maxLen at m2
  clear h
  obtain ⟨kd, ops, vv, k, t⟩ := R
  simp only at m1 m2 ⊢
  by_cases hk1 : kd = 1
  · subst hk1
    by_cases hz : 0 < ops.length
    · by_cases h6 : 6 < ops.length
      · have z1 : ¬ (ops.length : Int) < 1 := by omega
        have z2 : (6 : Int) < (ops.length : Int) := by omega
        go_enter Try.func34, Try.ntmps34
        go_wp2_with (first | (go_at_call 40; refine (number3_b _ _).mono ?_; rintro e w' ⟨⟨rfl, h2⟩ | ⟨rfl, h2⟩, rfl⟩ <;> (have HNB := hid h2; clear h2)))
        all_goals
          go_ret
          exact ChkP.mk (by first | exact (Kept.refl _ _).alloc _ | exact HK8.out) (by
  (try have f2 := HF.out)
  (try have f3 := HNB.out)
  (try have f4 := HZZ.out)
  (try simp only [bne_eq_false_iff_eq, bne_iff_ne, ne_eq, beq_iff_eq, beq_eq_false_iff_ne, decide_eq_true_eq, decide_eq_false_iff_not] at *)
  unfold chk chkI
  dsimp only
  (repeat' split) <;> omega)
      · have z1 : ¬ (ops.length : Int) < 1 := by omega
        have z2 : ¬ (6 : Int) < (ops.length : Int) := by omega
        have HZZ := hid (show 0 < ops.length ∧ ops.length ≤ 6 by omega)
        clear h6
        go_enter Try.func34, Try.ntmps34
        go_wp2_with fail
        go_loopw [67] (fun i wr => ∃ j : Nat, j ≤ ops.length ∧ i = .int .i64 j ∧ Kept (fun _ => False) (w.alloc (.cells #[.int .u8 1, .slice ao ops.length c, .int .u32 vv, .int .i64 k, .int .i64 t] 31)) wr ∧ ∀ (i : Nat) x, ops[i]? = some x → i < j → OpF x) (fun i _ => ops.length - (intOf i).toNat)
        case atStart => exact ⟨0, Nat.zero_le _, rfl, Kept.refl _ _, fun j _ _ h => absurd h (Nat.not_lt_zero _)⟩
        case round =>
          obtain ⟨j, hj, rfl, hkp, hall⟩ := hrel
          have HK := hid hkp; clear hkp
          have HA := hid hall; clear hall
          by_cases hlt : j < ops.length
          · obtain ⟨g1, o1, q1, e1, _, _, _, _, z1⟩ := (H.out.same ((Kept.refl (fun _ => False) w).alloc (.cells #[.int .u8 1, .slice ao ops.length c, .int .u32 vv, .int .i64 k, .int .i64 t] 31))).l.cell (by omega)
            simp only [Value.slice.injEq] at e1
            obtain ⟨rfl, _, rfl⟩ := e1
            have HLT := hid hlt
            obtain ⟨x, hxx⟩ : ∃ x, ops[j]? = some x := ⟨_, List.getElem?_eq_getElem hlt⟩
            have hx := fun r hr => flat_at ocell 7 (fun _ => rfl) ops j x r hxx hr
            have hs := H.out.s x (List.mem_of_getElem? hxx)
            have HX := hid hxx; clear hxx
            obtain ⟨a, b, cc, d, e, f, s⟩ := x
            have y0 := HK.out.cell (z1 (j * 7 + 0) _ (hx 0 (by decide))) id
            have y1 := HK.out.cell (z1 (j * 7 + 1) _ (hx 1 (by decide))) id
            have y2 := HK.out.cell (z1 (j * 7 + 2) _ (hx 2 (by decide))) id
            have y3 := HK.out.cell (z1 (j * 7 + 3) _ (hx 3 (by decide))) id
            have y4 := HK.out.cell (z1 (j * 7 + 4) _ (hx 4 (by decide))) id
            have y5 := HK.out.cell (z1 (j * 7 + 5) _ (hx 5 (by decide))) id
            have y6 := HK.out.cell (z1 (j * 7 + 6) _ (hx 6 (by decide))) id
            simp only [← Nat.add_assoc, Nat.add_zero] at y0 y1 y2 y3 y4 y5 y6
            clear hx z1
            have HS := hid hs; clear hs
            go_wp2_with fail
            refine (dop_is ⟨_, _, _, _, _, _, _⟩ HS.out _).mono ?_
            rintro e w8 ⟨b8, rfl, hb8, hk8⟩
            have hle := HK.out.size
            have HK8 := hid ((HK.out.alloc _).trans hk8)
            have HB := hid hb8
            clear hk8 hb8 y0 y1 y2 y3 y4 y5 y6 HK hle
            cases b8
            · go_wp2
              go_ret
              exact ChkP.mk (((Kept.refl (fun _ => False) w).alloc _).trans HK8.out) (by
                have f2 := allI_zero HX.out (fun h => nomatch HB.out.2 h)
                have f4 := HZZ.out
                unfold chk chkI
                dsimp only
                (repeat' split) <;> omega)
            · go_wp2
              go_roundw
              case rel =>
                refine ⟨j + 1, by have := HLT.out; omega, by go_num, HK8.out, fun i x hi h => ?_⟩
                by_cases e : i = j
                · subst e
                  have e2 := HX.out
                  rw [hi] at e2
                  cases e2
                  exact HB.out.1 (by first | rfl | trivial)
                · exact HA.out i x hi (by omega)
              case measure => (have := HLT.out; simp [intOf]; omega)
          · obtain rfl : j = ops.length := by omega
            have HF := hid (allI_one (l := ops) fun j x hj => HA.out j x hj (List.getElem?_eq_some_iff.1 hj).1)
            obtain ⟨b0, b1, b2, b3, b4, b5⟩ := cells5 ((HK.out.block _ (by simp) (fun h => h)).trans (row_new w (.cells #[.int .u8 1, .slice ao ops.length c, .int .u32 vv, .int .i64 k, .int .i64 t] 31)))
            have HK8 := hid (((Kept.refl (fun _ => False) w).alloc _).trans HK.out)
            go_wp2
            all_goals
              go_ret
              exact ChkP.mk HK8.out (by
  (try have f2 := HF.out)
  (try have f3 := HNB.out)
  (try have f4 := HZZ.out)
  (try simp only [bne_eq_false_iff_eq, bne_iff_ne, ne_eq, beq_iff_eq, beq_eq_false_iff_ne, decide_eq_true_eq, decide_eq_false_iff_not] at *)
  unfold chk chkI
  dsimp only
  (repeat' split) <;> omega)
    · have z1 : (ops.length : Int) < 1 := by omega
      go_enter Try.func34, Try.ntmps34
      go_wp2_with (first | (go_at_call 40; refine (number3_b _ _).mono ?_; rintro e w' ⟨⟨rfl, h2⟩ | ⟨rfl, h2⟩, rfl⟩ <;> (have HNB := hid h2; clear h2)))
      all_goals
        go_ret
        exact ChkP.mk (by first | exact (Kept.refl _ _).alloc _ | exact HK8.out) (by
  (try have f2 := HF.out)
  (try have f3 := HNB.out)
  (try have f4 := HZZ.out)
  (try simp only [bne_eq_false_iff_eq, bne_iff_ne, ne_eq, beq_iff_eq, beq_eq_false_iff_ne, decide_eq_true_eq, decide_eq_false_iff_not] at *)
  unfold chk chkI
  dsimp only
  (repeat' split) <;> omega)
  · have n1 : (kd == 1) = false := beq_eq_false_iff_ne.2 hk1
    have HZZ := hid hk1
    clear hk1
    by_cases hz : 0 < ops.length
    · have z1 : (0 : Int) < (ops.length : Int) := by omega
      go_enter Try.func34, Try.ntmps34
      go_wp2_with (first | (go_at_call 40; refine (number3_b _ _).mono ?_; rintro e w' ⟨⟨rfl, h2⟩ | ⟨rfl, h2⟩, rfl⟩ <;> (have HNB := hid h2; clear h2)))
      all_goals
        go_ret
        exact ChkP.mk (by first | exact (Kept.refl _ _).alloc _ | exact HK8.out) (by
  (try have f2 := HF.out)
  (try have f3 := HNB.out)
  (try have f4 := HZZ.out)
  (try simp only [bne_eq_false_iff_eq, bne_iff_ne, ne_eq, beq_iff_eq, beq_eq_false_iff_ne, decide_eq_true_eq, decide_eq_false_iff_not] at *)
  unfold chk chkI
  dsimp only
  (repeat' split) <;> omega)
    · have z1 : ¬ (0 : Int) < (ops.length : Int) := by omega
      go_enter Try.func34, Try.ntmps34
      go_wp2_with (first | (go_at_call 40; refine (number3_b _ _).mono ?_; rintro e w' ⟨⟨rfl, h2⟩ | ⟨rfl, h2⟩, rfl⟩ <;> (have HNB := hid h2; clear h2)))
      all_goals
        go_ret
        exact ChkP.mk (by first | exact (Kept.refl _ _).alloc _ | exact HK8.out) (by
  (try have f2 := HF.out)
  (try have f3 := HNB.out)
  (try have f4 := HZZ.out)
  (try simp only [bne_eq_false_iff_eq, bne_iff_ne, ne_eq, beq_iff_eq, beq_eq_false_iff_ne, decide_eq_true_eq, decide_eq_false_iff_not] at *)
  unfold chk chkI
  dsimp only
  (repeat' split) <;> omega)
end Go.Proofs.Ytnlbdlbinoebgaa
