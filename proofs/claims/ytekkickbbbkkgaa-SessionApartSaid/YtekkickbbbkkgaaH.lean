/- The walk of SessionOnce. -/
import Derived.Test.YtekkickbbbkkgaaG
namespace Go.Proofs.Ytekkickbbbkkgaa
open Go.RowKit

/-- the client's last one and its answer stay -/
def Stays (f : Nat → Cl) (c : Nat) (s : Int) (A : Ans) : Prop := (f c).last = s ∧ (f c).a = A
theorem stays_upd {f : Nat → Cl} {c d : Nat} {s : Int} {A : Ans} {x : Cl} (h : Stays f c s A) (hx : d = c → x.last = (f c).last ∧ x.a = (f c).a) : Stays (upd f d x) c s A := by
  unfold Stays upd at *
  by_cases hd : c = d
  · rw [if_pos hd]; rw [(hx hd.symm).1, (hx hd.symm).2]; exact h
  · rw [if_neg hd]; exact h
theorem stays_start {f : Nat → Cl} {c : Nat} {s : Int} {A : Ans} (h : Stays f c s A) (d q : Int) : Stays (sAll f d q) c s A := by
  unfold sAll
  split
  · refine stays_upd h fun e => ?_
    rw [e]
    unfold startR
    repeat' split
    all_goals exact ⟨rfl, rfl⟩
  · exact h
theorem stays_fail {f : Nat → Cl} {c : Nat} {s : Int} {A : Ans} (h : Stays f c s A) (d q : Int) : Stays (fAll f d q) c s A := by
  unfold fAll
  split
  · refine stays_upd h fun e => ?_
    rw [e]
    unfold failR
    split
    all_goals exact ⟨rfl, rfl⟩
  · exact h
theorem stays_finish {f : Nat → Cl} {c : Nat} {s : Int} {A : Ans} (h : Stays f c s A) (d q : Int) (hd : 0 ≤ d) (B : Ans) (hq : d ≠ c ∨ q ≤ s) : Stays (nAll f d q B) c s A := by
  unfold nAll
  split
  · refine stays_upd h fun e => ?_
    have : q ≤ s := by omega
    rw [e]
    unfold finishR
    rw [if_pos (by rw [h.1]; exact this)]
    exact ⟨rfl, rfl⟩
  · exact h

theorem cells7 {w : World} {b : Nat} {x0 x1 x2 x3 x4 x5 x6 : Value} {T : TypeId} (h : w.heap[b]? = some (.cells #[x0, x1, x2, x3, x4, x5, x6] T (0, 0))) :
    w.cell? ⟨b, 0, none⟩ = some x0 ∧ w.cell? ⟨b, 1, none⟩ = some x1 ∧ w.cell? ⟨b, 2, none⟩ = some x2 ∧ w.cell? ⟨b, 3, none⟩ = some x3 ∧ w.cell? ⟨b, 4, none⟩ = some x4 ∧ w.cell? ⟨b, 5, none⟩ = some x5 ∧ w.cell? ⟨b, 6, none⟩ = some x6 :=
  ⟨row_cell h 0, row_cell h 1, row_cell h 2, row_cell h 3, row_cell h 4, row_cell h 5, row_cell h 6⟩
theorem stays_ask {f : Nat → Cl} {c : Nat} {s : Int} {A : Ans} (h : Stays f c s A) : askR (f c) s = (2, A, 0) := by
  unfold askR
  rw [h.1, h.2]
  have : farB s s = false := by simp [farB]; omega
  simp [this]
theorem stays_again {f : Nat → Cl} {c : Nat} {s : Int} {A : Ans} (h : Stays f c s A) : startR (f c) s = (9, f c) := by
  unfold startR
  rw [h.1]
  have : farB s s = false := by simp [farB]; omega
  simp [this]
/-- how things stand in the loop -/
structure St (W wr : World) (tb c : Nat) (s : Int) (A : Ans) (box : Obj) : Prop where
  t : ∃ f, TabAt (fun g => g = tb) wr tb f ∧ Stays f c s A
  k : Kept (fun _ => False) W wr
  x : wr.heap[W.heap.size]? = some box
  l : W.heap.size < tb
theorem St.same {W wr w' : World} {tb c : Nat} {s : Int} {A : Ans} {box : Obj} (h : St W wr tb c s A box) (k : Kept (fun _ => False) wr w') : St W w' tb c s A box := by
  obtain ⟨f, h1, h2⟩ := h.t
  exact ⟨⟨f, h1.same k, h2⟩, h.k.trans k, (k.block _ (row_lt h.x) id).trans h.x, h.l⟩
theorem St.step {W wr w' : World} {tb c : Nat} {s : Int} {A : Ans} {box : Obj} {f : Nat → Cl} (h : St W wr tb c s A box) (k : Kept (fun g => g = tb) wr w') (ht : TabAt (fun g => g = tb) w' tb f) (hs : Stays f c s A) : St W w' tb c s A box :=
  ⟨⟨f, ht, hs⟩, h.k.trans' k (fun g hg => .inr (by have := h.l; omega)), (k.block _ (row_lt h.x) (by have := h.l; omega)).trans h.x, h.l⟩


set_option maxRecDepth 100000 in
set_option maxHeartbeats 40000000 in
theorem once_walk (W : World) (args : Array Value) (h : RdAll Try.prog W Try.f3.params.toList args.toList) :
    Calls Try.prog 3 args W fun e W' => e = .returned (.bool true) ∧ Below W.heap.size W W' := by
  rw [Try.params3] at h
  obtain ⟨v0, v1, v2, v3, rfl⟩ : ∃ v0 v1 v2 v3, args = #[v0, v1, v2, v3] := by
    rcases args with ⟨_ | ⟨v0, _ | ⟨v1, _ | ⟨v2, _ | ⟨v3, _ | ⟨v4, l⟩⟩⟩⟩⟩⟩ <;> simp [RdAll] at h
    exact ⟨v0, v1, v2, v3, rfl⟩
  obtain ⟨r0, r1, r2, r3, _⟩ := h
  obtain ⟨a0, len0, cap0, rfl, h0⟩ := r0.slice Try.underlying22
  obtain ⟨l0, m0, z0, _, c0⟩ := h0.row Try.underlying22 cellsO (by decide)
  obtain ⟨cl, rfl, wc⟩ := r1.int Try.underlying5
  obtain ⟨sq, rfl, ws⟩ := r2.int Try.underlying23
  obtain ⟨cs3, rfl, h3⟩ := r3.struct Try.underlying28
  obtain ⟨A, v, l, e3, hA⟩ := ans_read (by rw [(h3.struct Try.underlying28).1]; exact cellsA) h3
  obtain rfl : cs3 = #[.int .i64 A.e, .int .i64 A.p, v, l] := by apply Array.toList_inj.1; exact e3
  clear e3 h3
  have wc := wf8 wc
  have ws := wf32 ws
  unfold maxLen at m0
  obtain ⟨c, hc, hcm⟩ : ∃ c : Nat, c < 4 ∧ cl.tmod 4 = c := ⟨(cl % 4).toNat, by omega, by rw [Int.tmod_eq_emod_of_nonneg (by omega)]; omega⟩
  obtain ⟨p1, q1, p2, q2, rfl, rfl⟩ := hA.shape
  have HA := hid hA
  have C0 := hid c0
  clear c0 h0 r0 r1 r2 r3 z0 hA
  go_enter Try.func3, Try.ntmps3
  go_wp2_with fail
  refine (awake_any _).mono ?_; rintro e w1 ⟨rfl, hk1⟩
  have K1 := hid (((Kept.refl (fun _ => False) W).alloc (.cells #[.int .i64 A.e, .int .i64 A.p, .slice p1 A.vals.length q1, .slice p2 A.list.length q2] 28)).trans hk1)
  have hbx := (hk1.block _ (row_lt (row_new W (.cells #[.int .i64 A.e, .int .i64 A.p, .slice p1 A.vals.length q1, .slice p2 A.list.length q2] 28))) id).trans (row_new W _)
  have BX1 := hid hbx
  clear hk1 hbx
  go_wp2_with fail
  refine (new_any _).mono ?_; rintro e w2 ⟨rfl, ht2, hk2, _⟩
  have T2 := hid ht2; have K2 := hid (K1.out.trans hk2); have BX2 := hid ((hk2.block _ (row_lt BX1.out) id).trans BX1.out)
  clear ht2 hk2 K1 
  go_wp2_with fail
  obtain ⟨s, hs⟩ : ∃ s, 1 + sq % 4 = s := ⟨_, rfl⟩
  have s1 : 1 ≤ s := by omega
  have s4 : s ≤ 4 := by omega
  rw [hs]
  clear hs hcm wc ws
  have e1 : startR zcl s = (0, ⟨0, s, zans⟩) := by
    have : farB 0 s = false := by simp [farB]; omega
    have h2 : ¬ s ≤ 0 := by omega
    simp [startR, zcl, this, h2]
  have e2 : startR (upd (fun _ => zcl) c ⟨0, s, zans⟩ c) s = (14, ⟨0, s, zans⟩) := by
    have : farB 0 s = false := by simp [farB]; omega
    have h2 : ¬ s ≤ 0 := by omega
    have h3 : s ≠ 0 := by omega
    rw [upd_at]
    simp [startR, this, h2, h3]
  have e3 : ∀ A, finishR (upd (upd (fun _ => zcl) c ⟨0, s, zans⟩) c ⟨0, s, zans⟩ c) s A = (0, ⟨s, 0, A⟩) := fun A => by
    have h2 : ¬ s ≤ 0 := by omega
    rw [upd_at]
    simp [finishR, h2]
  have E1 := hid e1; have E2 := hid e2; have E3 := hid e3; clear e1 e2 e3
  refine (start_is T2.out c s 0 ⟨0, s, zans⟩ E1.out hc (by omega) (by omega) (by omega)).mono ?_; rintro e w3 ⟨rfl, ht3, hk3⟩
  have T3 := hid ht3; have K3 := hid (K2.out.trans' hk3 (fun g hg => .inr (by have := BX1.out; have := row_lt this; omega))); have BX3 := hid ((hk3.block _ (row_lt BX2.out) (by have := row_lt BX1.out; omega)).trans BX2.out)
  clear ht3 hk3
  go_wp2_with fail
  refine (start_is T3.out c s 14 ⟨0, s, zans⟩ E2.out hc (by omega) (by omega) (by omega)).mono ?_; rintro e w4 ⟨rfl, ht4, hk4⟩
  have T4 := hid ht4; have K4 := hid (K3.out.trans' hk4 (fun g hg => .inr (by have := BX1.out; have := row_lt this; omega))); have BX4 := hid ((hk4.block _ (row_lt BX3.out) (by have := row_lt BX1.out; omega)).trans BX3.out)
  clear ht4 hk4
  obtain ⟨b0, b1, b2, b3, b4⟩ := cells4 BX4.out
  go_wp2_with fail
  refine (twin_any (A := A) (by exact HA.out.same K4.out)).mono ?_; rintro e w5 ⟨a1, c1, a2, c2, rfl, ha5, hk5⟩
  have T5 := hid (T4.out.same hk5); have K5 := hid (K4.out.trans hk5); have BX5 := hid ((hk5.block _ (row_lt BX4.out) id).trans BX4.out)
  have HA5 := hid ha5
  clear ha5 hk5 b0 b1 b2 b3 b4
  go_wp2_with fail
  refine (finish_is T5.out c s 0 ⟨s, 0, A⟩ HA5.out (E3.out A) hc (by omega) (by omega) (by omega)).mono ?_; rintro e w6 ⟨rfl, ht6, hk6⟩
  have K6 := hid (K5.out.trans' hk6 (fun g hg => .inr (by have := BX1.out; have := row_lt this; omega))); have BX6 := hid ((hk6.block _ (row_lt BX5.out) (by have := row_lt BX1.out; omega)).trans BX5.out)
  have S6 : Hid (St W w6 w1.heap.size c s A (.cells #[.int .i64 A.e, .int .i64 A.p, .slice p1 A.vals.length q1, .slice p2 A.list.length q2] 28)) :=
    hid ⟨⟨_, ht6, by rw [upd_at], by rw [upd_at]⟩, K6.out, BX6.out, by have := row_lt BX1.out; omega⟩
  clear ht6 hk6 T2 T3 T4 T5 BX1 BX2 BX3 BX4 BX5 BX6 K2 K3 K4 K5 K6 E1 E2 E3
  go_wp2_with fail
  go_loopw [46] (fun i wr => ∃ k : Nat, k ≤ len0 ∧ i = .int .i64 k ∧ St W wr w1.heap.size c s A (.cells #[.int .i64 A.e, .int .i64 A.p, .slice p1 A.vals.length q1, .slice p2 A.list.length q2] 28)) (fun i _ => len0 - (intOf i).toNat)
  case atStart => exact ⟨0, Nat.zero_le _, rfl, S6.out⟩
  case round =>
    clear S6
    obtain ⟨k, hk, rfl, hst⟩ := hrel
    have S0 := hid hst; clear hst
    by_cases hlt : k < len0
    · obtain ⟨b, off, es, rfl, hbl, hes, hcv, hr⟩ := C0.out k (by omega)
      obtain ⟨kd, oc, os, B, v, l, rfl, hB, oc0, os0, os1⟩ := op_read hes hr
      obtain ⟨p3, q3, p4, q4, rfl, rfl⟩ := hB.shape
      have HB := hid hB
      have k0 := S0.out.k.cell (hcv 0 (by omega)) id
      have k1 := S0.out.k.cell (hcv 1 (by omega)) id
      have k2 := S0.out.k.cell (hcv 2 (by omega)) id
      have k3 := S0.out.k.cell (hcv 3 (by omega)) id
      have k4 := S0.out.k.cell (hcv 4 (by omega)) id
      have k5 := S0.out.k.cell (hcv 5 (by omega)) id
      have k6 := S0.out.k.cell (hcv 6 (by omega)) id
      simp only [Nat.add_zero] at k0 k1 k2 k3 k4 k5 k6
      clear hcv hr hes hB
      by_cases h60 : (60 : Int) ≤ (k : Int)
      · go_wp2
        go_ret
        exact ⟨rfl, (S0.out.k.alloc _).below (Nat.le_refl _) (fun _ h => h.elim)⟩
      · have S1 := hid (S0.out.same ((Kept.refl _ _).alloc (.cells #[.int .u8 kd, .int .u8 oc, .int .u32 os, .int .i64 B.e, .int .i64 B.p, .slice p3 B.vals.length q3, .slice p4 B.list.length q4] 36)))
        obtain ⟨f0, ht0, hs0⟩ := S1.out.t
        have TT0 := hid ht0; have SS0 := hid hs0; clear ht0 hs0
        by_cases d0 : kd = 0
        · subst d0
          go_wp2_with fail
          refine (ask_all TT0.out oc os oc0 os0 os1).mono ?_; rintro e w7 ⟨y1, z1, y2, z2, rfl, _, hk7⟩
          have S1 := hid (S1.out.same hk7); clear hk7 TT0 SS0 S0
          obtain ⟨f1, ht1, hs1⟩ := S1.out.t
          have TT := hid ht1; have SS := hid hs1; clear ht1 hs1
          go_wp2_with fail
          refine (ask_is TT.out c s 2 0 A (stays_ask SS.out) hc (by omega) (by omega) (by omega)).mono ?_; rintro e w8 ⟨y1, z1, y2, z2, rfl, ha8, hk8⟩
          have S8 := hid (S1.out.same (hk8.alloc (.cells #[.int .i64 A.e, .int .i64 A.p, .slice y1 A.vals.length z1, .slice y2 A.list.length z2] 28)))
          have A8 := hid (ha8.same ((Kept.refl _ _).alloc (.cells #[.int .i64 A.e, .int .i64 A.p, .slice y1 A.vals.length z1, .slice y2 A.list.length z2] 28)))
          have hx8 := S8.out.x
          obtain ⟨b0, b1, b2, b3, b4⟩ := cells4 hx8
          obtain ⟨d0, d1, d2, d3, d4⟩ := cells4 (row_new w8 (.cells #[.int .i64 A.e, .int .i64 A.p, .slice y1 A.vals.length z1, .slice y2 A.list.length z2] 28))
          clear hx8 ha8 hk8 TT SS S1
          go_wp2_with fail
          refine (same_answer (A := A) (by exact A8.out) (by exact HA.out.same S8.out.k)).mono ?_; rintro e w9 ⟨rfl, hk9⟩
          have S9 := hid (S8.out.same hk9); clear hk9 S8 A8 b0 b1 b2 b3 b4 d0 d1 d2 d3 d4
          obtain ⟨f2, ht2, hs2⟩ := S9.out.t
          have TT := hid ht2; have SS := hid hs2; clear ht2 hs2
          go_wp2_with fail
          refine (start_is TT.out c s 9 (f2 c) (stays_again SS.out) hc (by omega) (by omega) (by omega)).mono ?_; rintro e w10 ⟨rfl, ht10, hk10⟩
          rw [upd_same] at ht10
          have S10 := hid (S9.out.step hk10 ht10 SS.out); clear hk10 ht10 TT SS S9
          go_wp2
          go_roundw
          case rel => exact ⟨k + 1, by omega, by go_num, S10.out⟩
          case measure => simp [intOf]; omega
        · by_cases d1 : kd = 1
          · subst d1
            go_wp2_with fail
            refine (start_all TT0.out oc os oc0 os0 os1).mono ?_; rintro e w7 ⟨r, rfl, ht7, hk7⟩
            have S1 := hid (S1.out.step hk7 ht7 (stays_start SS0.out oc os)); clear ht7 hk7 TT0 SS0 S0
            obtain ⟨f1, ht1, hs1⟩ := S1.out.t
            have TT := hid ht1; have SS := hid hs1; clear ht1 hs1
            go_wp2_with fail
            refine (ask_is TT.out c s 2 0 A (stays_ask SS.out) hc (by omega) (by omega) (by omega)).mono ?_; rintro e w8 ⟨y1, z1, y2, z2, rfl, ha8, hk8⟩
            have S8 := hid (S1.out.same (hk8.alloc (.cells #[.int .i64 A.e, .int .i64 A.p, .slice y1 A.vals.length z1, .slice y2 A.list.length z2] 28)))
            have A8 := hid (ha8.same ((Kept.refl _ _).alloc (.cells #[.int .i64 A.e, .int .i64 A.p, .slice y1 A.vals.length z1, .slice y2 A.list.length z2] 28)))
            have hx8 := S8.out.x
            obtain ⟨b0, b1, b2, b3, b4⟩ := cells4 hx8
            obtain ⟨d0, d1, d2, d3, d4⟩ := cells4 (row_new w8 (.cells #[.int .i64 A.e, .int .i64 A.p, .slice y1 A.vals.length z1, .slice y2 A.list.length z2] 28))
            clear hx8 ha8 hk8 TT SS S1
            go_wp2_with fail
            refine (same_answer (A := A) (by exact A8.out) (by exact HA.out.same S8.out.k)).mono ?_; rintro e w9 ⟨rfl, hk9⟩
            have S9 := hid (S8.out.same hk9); clear hk9 S8 A8 b0 b1 b2 b3 b4 d0 d1 d2 d3 d4
            obtain ⟨f2, ht2, hs2⟩ := S9.out.t
            have TT := hid ht2; have SS := hid hs2; clear ht2 hs2
            go_wp2_with fail
            refine (start_is TT.out c s 9 (f2 c) (stays_again SS.out) hc (by omega) (by omega) (by omega)).mono ?_; rintro e w10 ⟨rfl, ht10, hk10⟩
            rw [upd_same] at ht10
            have S10 := hid (S9.out.step hk10 ht10 SS.out); clear hk10 ht10 TT SS S9
            go_wp2
            go_roundw
            case rel => exact ⟨k + 1, by omega, by go_num, S10.out⟩
            case measure => simp [intOf]; omega
          · by_cases d2 : kd = 2
            · subst d2
              clear TT0 SS0
              by_cases hoc : oc = (c : Int)
              · have hoc' : (oc != (c : Int)) = false := by simp [hoc]
                by_cases hos : os ≤ s
                · have HQ := hid (show oc ≠ (c : Int) ∨ os ≤ s from .inr hos)
                  clear hoc
                  obtain ⟨o0, o1, o2, o3, o4, o5, o6⟩ := cells7 (row_new wr (.cells #[.int .u8 2, .int .u8 oc, .int .u32 os, .int .i64 B.e, .int .i64 B.p, .slice p3 B.vals.length q3, .slice p4 B.list.length q4] 36))
                  have HNE := hid (show ¬ wr.heap.size = w1.heap.size by obtain ⟨f0, ht0, _⟩ := S0.out.t; have := ht0.lt _ rfl; omega)
                  go_wp2_with fail
                  go_region_held3 (fun w' => w'.cell? ⟨wr.heap.size, 1, none⟩ = some (.int .u8 oc) ∧ w'.cell? ⟨wr.heap.size, 2, none⟩ = some (.int .u32 os) ∧ w'.cell? ⟨wr.heap.size, 3, none⟩ = some (.int .i64 B.e) ∧ w'.cell? ⟨wr.heap.size, 4, none⟩ = some (.int .i64 B.p) ∧ w'.cell? ⟨wr.heap.size, 5, none⟩ = some (.slice p3 B.vals.length q3) ∧ w'.cell? ⟨wr.heap.size, 6, none⟩ = some (.slice p4 B.list.length q4))
                    (first | exact ⟨o1, o2, o3, o4, o5, o6⟩ | exact ⟨i1, i2, i3, i4, i5, i6⟩ | exact ⟨n1, n2, n3, n4, n5, n6⟩)
                    (first
                    | (go_at_call 9; refine (twin_any (A := B) (by exact HB.out.same (S1.out.k.drew))).mono ?_; rintro e w6a ⟨y1, z1, y2, z2, rfl, ha6, hk6⟩; have HA6 := hid ha6; have hk6 := hk6.of_drew; have i1 := hk6.cell o1 id; have i2 := hk6.cell o2 id; have i3 := hk6.cell o3 id; have i4 := hk6.cell o4 id; have i5 := hk6.cell o5 id; have i6 := hk6.cell o6 id; have S2 := hid (S1.out.same hk6); clear ha6 hk6)
                    | (go_at_call 8; obtain ⟨f0, ht0, hs0⟩ := S2.out.t; have TT0 := hid ht0; have SS0 := hid hs0; clear ht0 hs0; refine (finish_all TT0.out oc os oc0 os0 os1 (A := B) HA6.out).mono ?_; rintro e w7 ⟨r, rfl, ht7, hk7⟩; have hl7 := S2.out.l; have S3 := hid (S2.out.step hk7 ht7 (stays_finish SS0.out oc os oc0 B HQ.out)); have n1 := hk7.cell i1 HNE.out; have n2 := hk7.cell i2 HNE.out; have n3 := hk7.cell i3 HNE.out; have n4 := hk7.cell i4 HNE.out; have n5 := hk7.cell i5 HNE.out; have n6 := hk7.cell i6 HNE.out; clear ht7 hk7 hl7))
                  all_goals
                    have S1 := S3
                    clear S2 S3 o0 o1 o2 o3 o4 o5 o6 i1 i2 i3 i4 i5 i6 n1 n2 n3 n4 n5 n6
                    obtain ⟨f1, ht1, hs1⟩ := S1.out.t
                    have TT := hid ht1; have SS := hid hs1; clear ht1 hs1
                    go_wp2_with fail
                    refine (ask_is TT.out c s 2 0 A (stays_ask SS.out) hc (by omega) (by omega) (by omega)).mono ?_; rintro e w8 ⟨y1, z1, y2, z2, rfl, ha8, hk8⟩
                    have S8 := hid (S1.out.same (hk8.alloc (.cells #[.int .i64 A.e, .int .i64 A.p, .slice y1 A.vals.length z1, .slice y2 A.list.length z2] 28)))
                    have A8 := hid (ha8.same ((Kept.refl _ _).alloc (.cells #[.int .i64 A.e, .int .i64 A.p, .slice y1 A.vals.length z1, .slice y2 A.list.length z2] 28)))
                    have hx8 := S8.out.x
                    obtain ⟨b0, b1, b2, b3, b4⟩ := cells4 hx8
                    obtain ⟨d0, d1, d2, d3, d4⟩ := cells4 (row_new w8 (.cells #[.int .i64 A.e, .int .i64 A.p, .slice y1 A.vals.length z1, .slice y2 A.list.length z2] 28))
                    clear hx8 ha8 hk8 TT SS S1
                    go_wp2_with fail
                    refine (same_answer (A := A) (by exact A8.out) (by exact HA.out.same S8.out.k)).mono ?_; rintro e w9 ⟨rfl, hk9⟩
                    have S9 := hid (S8.out.same hk9); clear hk9 S8 A8 b0 b1 b2 b3 b4 d0 d1 d2 d3 d4
                    obtain ⟨f2, ht2, hs2⟩ := S9.out.t
                    have TT := hid ht2; have SS := hid hs2; clear ht2 hs2
                    go_wp2_with fail
                    refine (start_is TT.out c s 9 (f2 c) (stays_again SS.out) hc (by omega) (by omega) (by omega)).mono ?_; rintro e w10 ⟨rfl, ht10, hk10⟩
                    rw [upd_same] at ht10
                    have S10 := hid (S9.out.step hk10 ht10 SS.out); clear hk10 ht10 TT SS S9
                    go_wp2
                    go_roundw
                    case rel => exact ⟨k + 1, by omega, by go_num, S10.out⟩
                    case measure => simp [intOf]; omega
                · clear hoc
                  obtain ⟨f1, ht1, hs1⟩ := S1.out.t
                  have TT := hid ht1; have SS := hid hs1; clear ht1 hs1
                  go_wp2_with fail
                  refine (ask_is TT.out c s 2 0 A (stays_ask SS.out) hc (by omega) (by omega) (by omega)).mono ?_; rintro e w8 ⟨y1, z1, y2, z2, rfl, ha8, hk8⟩
                  have S8 := hid (S1.out.same (hk8.alloc (.cells #[.int .i64 A.e, .int .i64 A.p, .slice y1 A.vals.length z1, .slice y2 A.list.length z2] 28)))
                  have A8 := hid (ha8.same ((Kept.refl _ _).alloc (.cells #[.int .i64 A.e, .int .i64 A.p, .slice y1 A.vals.length z1, .slice y2 A.list.length z2] 28)))
                  have hx8 := S8.out.x
                  obtain ⟨b0, b1, b2, b3, b4⟩ := cells4 hx8
                  obtain ⟨d0, d1, d2, d3, d4⟩ := cells4 (row_new w8 (.cells #[.int .i64 A.e, .int .i64 A.p, .slice y1 A.vals.length z1, .slice y2 A.list.length z2] 28))
                  clear hx8 ha8 hk8 TT SS S1
                  go_wp2_with fail
                  refine (same_answer (A := A) (by exact A8.out) (by exact HA.out.same S8.out.k)).mono ?_; rintro e w9 ⟨rfl, hk9⟩
                  have S9 := hid (S8.out.same hk9); clear hk9 S8 A8 b0 b1 b2 b3 b4 d0 d1 d2 d3 d4
                  obtain ⟨f2, ht2, hs2⟩ := S9.out.t
                  have TT := hid ht2; have SS := hid hs2; clear ht2 hs2
                  go_wp2_with fail
                  refine (start_is TT.out c s 9 (f2 c) (stays_again SS.out) hc (by omega) (by omega) (by omega)).mono ?_; rintro e w10 ⟨rfl, ht10, hk10⟩
                  rw [upd_same] at ht10
                  have S10 := hid (S9.out.step hk10 ht10 SS.out); clear hk10 ht10 TT SS S9
                  go_wp2
                  go_roundw
                  case rel => exact ⟨k + 1, by omega, by go_num, S10.out⟩
                  case measure => simp [intOf]; omega
              · have hoc' : (oc != (c : Int)) = true := by simpa using hoc
                have HQ := hid (show oc ≠ (c : Int) ∨ os ≤ s from .inl hoc)
                clear hoc
                obtain ⟨o0, o1, o2, o3, o4, o5, o6⟩ := cells7 (row_new wr (.cells #[.int .u8 2, .int .u8 oc, .int .u32 os, .int .i64 B.e, .int .i64 B.p, .slice p3 B.vals.length q3, .slice p4 B.list.length q4] 36))
                have HNE := hid (show ¬ wr.heap.size = w1.heap.size by obtain ⟨f0, ht0, _⟩ := S0.out.t; have := ht0.lt _ rfl; omega)
                go_wp2_with fail
                go_region_held3 (fun w' => w'.cell? ⟨wr.heap.size, 1, none⟩ = some (.int .u8 oc) ∧ w'.cell? ⟨wr.heap.size, 2, none⟩ = some (.int .u32 os) ∧ w'.cell? ⟨wr.heap.size, 3, none⟩ = some (.int .i64 B.e) ∧ w'.cell? ⟨wr.heap.size, 4, none⟩ = some (.int .i64 B.p) ∧ w'.cell? ⟨wr.heap.size, 5, none⟩ = some (.slice p3 B.vals.length q3) ∧ w'.cell? ⟨wr.heap.size, 6, none⟩ = some (.slice p4 B.list.length q4))
                  (first | exact ⟨o1, o2, o3, o4, o5, o6⟩ | exact ⟨i1, i2, i3, i4, i5, i6⟩ | exact ⟨n1, n2, n3, n4, n5, n6⟩)
                  (first
                  | (go_at_call 9; refine (twin_any (A := B) (by exact HB.out.same (S1.out.k.drew))).mono ?_; rintro e w6a ⟨y1, z1, y2, z2, rfl, ha6, hk6⟩; have HA6 := hid ha6; have hk6 := hk6.of_drew; have i1 := hk6.cell o1 id; have i2 := hk6.cell o2 id; have i3 := hk6.cell o3 id; have i4 := hk6.cell o4 id; have i5 := hk6.cell o5 id; have i6 := hk6.cell o6 id; have S2 := hid (S1.out.same hk6); clear ha6 hk6)
                  | (go_at_call 8; obtain ⟨f0, ht0, hs0⟩ := S2.out.t; have TT0 := hid ht0; have SS0 := hid hs0; clear ht0 hs0; refine (finish_all TT0.out oc os oc0 os0 os1 (A := B) HA6.out).mono ?_; rintro e w7 ⟨r, rfl, ht7, hk7⟩; have hl7 := S2.out.l; have S3 := hid (S2.out.step hk7 ht7 (stays_finish SS0.out oc os oc0 B HQ.out)); have n1 := hk7.cell i1 HNE.out; have n2 := hk7.cell i2 HNE.out; have n3 := hk7.cell i3 HNE.out; have n4 := hk7.cell i4 HNE.out; have n5 := hk7.cell i5 HNE.out; have n6 := hk7.cell i6 HNE.out; clear ht7 hk7 hl7))
                all_goals
                  have S1 := S3
                  clear S2 S3 o0 o1 o2 o3 o4 o5 o6 i1 i2 i3 i4 i5 i6 n1 n2 n3 n4 n5 n6
                  obtain ⟨f1, ht1, hs1⟩ := S1.out.t
                  have TT := hid ht1; have SS := hid hs1; clear ht1 hs1
                  go_wp2_with fail
                  refine (ask_is TT.out c s 2 0 A (stays_ask SS.out) hc (by omega) (by omega) (by omega)).mono ?_; rintro e w8 ⟨y1, z1, y2, z2, rfl, ha8, hk8⟩
                  have S8 := hid (S1.out.same (hk8.alloc (.cells #[.int .i64 A.e, .int .i64 A.p, .slice y1 A.vals.length z1, .slice y2 A.list.length z2] 28)))
                  have A8 := hid (ha8.same ((Kept.refl _ _).alloc (.cells #[.int .i64 A.e, .int .i64 A.p, .slice y1 A.vals.length z1, .slice y2 A.list.length z2] 28)))
                  have hx8 := S8.out.x
                  obtain ⟨b0, b1, b2, b3, b4⟩ := cells4 hx8
                  obtain ⟨d0, d1, d2, d3, d4⟩ := cells4 (row_new w8 (.cells #[.int .i64 A.e, .int .i64 A.p, .slice y1 A.vals.length z1, .slice y2 A.list.length z2] 28))
                  clear hx8 ha8 hk8 TT SS S1
                  go_wp2_with fail
                  refine (same_answer (A := A) (by exact A8.out) (by exact HA.out.same S8.out.k)).mono ?_; rintro e w9 ⟨rfl, hk9⟩
                  have S9 := hid (S8.out.same hk9); clear hk9 S8 A8 b0 b1 b2 b3 b4 d0 d1 d2 d3 d4
                  obtain ⟨f2, ht2, hs2⟩ := S9.out.t
                  have TT := hid ht2; have SS := hid hs2; clear ht2 hs2
                  go_wp2_with fail
                  refine (start_is TT.out c s 9 (f2 c) (stays_again SS.out) hc (by omega) (by omega) (by omega)).mono ?_; rintro e w10 ⟨rfl, ht10, hk10⟩
                  rw [upd_same] at ht10
                  have S10 := hid (S9.out.step hk10 ht10 SS.out); clear hk10 ht10 TT SS S9
                  go_wp2
                  go_roundw
                  case rel => exact ⟨k + 1, by omega, by go_num, S10.out⟩
                  case measure => simp [intOf]; omega
            · by_cases d3 : kd = 3
              · subst d3
                go_wp2_with fail
                refine (fail_all TT0.out oc os oc0).mono ?_; rintro e w7 ⟨r, rfl, ht7, hk7⟩
                have S1 := hid (S1.out.step hk7 ht7 (stays_fail SS0.out oc os)); clear ht7 hk7 TT0 SS0 S0
                obtain ⟨f1, ht1, hs1⟩ := S1.out.t
                have TT := hid ht1; have SS := hid hs1; clear ht1 hs1
                go_wp2_with fail
                refine (ask_is TT.out c s 2 0 A (stays_ask SS.out) hc (by omega) (by omega) (by omega)).mono ?_; rintro e w8 ⟨y1, z1, y2, z2, rfl, ha8, hk8⟩
                have S8 := hid (S1.out.same (hk8.alloc (.cells #[.int .i64 A.e, .int .i64 A.p, .slice y1 A.vals.length z1, .slice y2 A.list.length z2] 28)))
                have A8 := hid (ha8.same ((Kept.refl _ _).alloc (.cells #[.int .i64 A.e, .int .i64 A.p, .slice y1 A.vals.length z1, .slice y2 A.list.length z2] 28)))
                have hx8 := S8.out.x
                obtain ⟨b0, b1, b2, b3, b4⟩ := cells4 hx8
                obtain ⟨d0, d1, d2, d3, d4⟩ := cells4 (row_new w8 (.cells #[.int .i64 A.e, .int .i64 A.p, .slice y1 A.vals.length z1, .slice y2 A.list.length z2] 28))
                clear hx8 ha8 hk8 TT SS S1
                go_wp2_with fail
                refine (same_answer (A := A) (by exact A8.out) (by exact HA.out.same S8.out.k)).mono ?_; rintro e w9 ⟨rfl, hk9⟩
                have S9 := hid (S8.out.same hk9); clear hk9 S8 A8 b0 b1 b2 b3 b4 d0 d1 d2 d3 d4
                obtain ⟨f2, ht2, hs2⟩ := S9.out.t
                have TT := hid ht2; have SS := hid hs2; clear ht2 hs2
                go_wp2_with fail
                refine (start_is TT.out c s 9 (f2 c) (stays_again SS.out) hc (by omega) (by omega) (by omega)).mono ?_; rintro e w10 ⟨rfl, ht10, hk10⟩
                rw [upd_same] at ht10
                have S10 := hid (S9.out.step hk10 ht10 SS.out); clear hk10 ht10 TT SS S9
                go_wp2
                go_roundw
                case rel => exact ⟨k + 1, by omega, by go_num, S10.out⟩
                case measure => simp [intOf]; omega
              · clear TT0 SS0 S0
                obtain ⟨f1, ht1, hs1⟩ := S1.out.t
                have TT := hid ht1; have SS := hid hs1; clear ht1 hs1
                go_wp2_with fail
                refine (ask_is TT.out c s 2 0 A (stays_ask SS.out) hc (by omega) (by omega) (by omega)).mono ?_; rintro e w8 ⟨y1, z1, y2, z2, rfl, ha8, hk8⟩
                have S8 := hid (S1.out.same (hk8.alloc (.cells #[.int .i64 A.e, .int .i64 A.p, .slice y1 A.vals.length z1, .slice y2 A.list.length z2] 28)))
                have A8 := hid (ha8.same ((Kept.refl _ _).alloc (.cells #[.int .i64 A.e, .int .i64 A.p, .slice y1 A.vals.length z1, .slice y2 A.list.length z2] 28)))
                have hx8 := S8.out.x
                obtain ⟨b0, b1, b2, b3, b4⟩ := cells4 hx8
                obtain ⟨d0, d1, d2, d3, d4⟩ := cells4 (row_new w8 (.cells #[.int .i64 A.e, .int .i64 A.p, .slice y1 A.vals.length z1, .slice y2 A.list.length z2] 28))
                clear hx8 ha8 hk8 TT SS S1
                go_wp2_with fail
                refine (same_answer (A := A) (by exact A8.out) (by exact HA.out.same S8.out.k)).mono ?_; rintro e w9 ⟨rfl, hk9⟩
                have S9 := hid (S8.out.same hk9); clear hk9 S8 A8 b0 b1 b2 b3 b4 d0 d1 d2 d3 d4
                obtain ⟨f2, ht2, hs2⟩ := S9.out.t
                have TT := hid ht2; have SS := hid hs2; clear ht2 hs2
                go_wp2_with fail
                refine (start_is TT.out c s 9 (f2 c) (stays_again SS.out) hc (by omega) (by omega) (by omega)).mono ?_; rintro e w10 ⟨rfl, ht10, hk10⟩
                rw [upd_same] at ht10
                have S10 := hid (S9.out.step hk10 ht10 SS.out); clear hk10 ht10 TT SS S9
                go_wp2
                go_roundw
                case rel => exact ⟨k + 1, by omega, by go_num, S10.out⟩
                case measure => simp [intOf]; omega
    · go_wp2
      go_ret
      exact ⟨rfl, S0.out.k.below (Nat.le_refl _) (fun _ h => h.elim)⟩
end Go.Proofs.Ytekkickbbbkkgaa
