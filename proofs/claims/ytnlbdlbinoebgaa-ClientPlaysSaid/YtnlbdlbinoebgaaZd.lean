/- The document's client: Again, DocReceive. -/
import Derived.Test.YtnlbdlbinoebgaaZc
namespace Go.Proofs.Ytnlbdlbinoebgaa
open Go.RowKit
set_option maxRecDepth 100000 in
set_option maxHeartbeats 4000000 in
theorem dagain_none {w : World} {xb : Nat} {id n seq : Int} {R : Rq} {v : Value} (hc : w.heap[xb]? = some (docRow id n seq false R v)) :
    Calls Try.prog 24 #[.pointer (some ⟨xb, 0, none⟩)] w fun e w' => e = .returned (.tuple #[.agg msgZero.toArray, .bool false]) ∧ Kept (fun _ => False) w w' := by
  have lc := row_lt hc
  obtain ⟨c0, c1, c2, c3, c4, c5, c6, c7, c8, cf⟩ := cells9 (row_old hc (.cells msgZero.toArray 44))
  have N0 := hid (row_new w (.cells msgZero.toArray 44))
  have K0 := hid ((Kept.refl (fun _ => False) w).alloc (.cells msgZero.toArray 44))
  clear c0 c1 c2 c4 c5 c6 c7 c8 cf hc
  unfold msgZero at c3
  go_enter Try.func24, Try.ntmps24
  go_wp2_with (refine wpList_store_row rfl 44 (.tmp 2) (.tmp 13) rfl msgZero.toArray msgZero.toArray (by rfl) (by rfl) (by exact N0.out) rfl infoM (by simp [msgZero, Value.oneCell']) ?_; intro w6 hb6 hk6; have HB6 := hid hb6; have K6 := hid hk6; clear hb6 hk6)
  refine bodyPost_ret (results_row_tmp (fn := Try.f24) rfl (by rfl) rfl HB6.out Try.underlying44 rfl (by exact infoM)) rfl ⟨rfl, K0.out.trans' K6.out (fun i e => .inr (by rw [e]; exact Nat.le_refl _))⟩
set_option maxRecDepth 100000 in
set_option maxHeartbeats 4000000 in
theorem dagain_nil {w : World} :
    Calls Try.prog 24 #[.pointer none] w fun e w' => e = .returned (.tuple #[.agg msgZero.toArray, .bool false]) ∧ Kept (fun _ => False) w w' := by
  have N0 := hid (row_new w (.cells msgZero.toArray 44))
  have K0 := hid ((Kept.refl (fun _ => False) w).alloc (.cells msgZero.toArray 44))
  go_enter Try.func24, Try.ntmps24
  go_wp2_with (refine wpList_store_row rfl 44 (.tmp 2) (.tmp 13) rfl msgZero.toArray msgZero.toArray (by rfl) (by rfl) (by exact N0.out) rfl infoM (by simp [msgZero, Value.oneCell']) ?_; intro w6 hb6 hk6; have HB6 := hid hb6; have K6 := hid hk6; clear hb6 hk6)
  refine bodyPost_ret (results_row_tmp (fn := Try.f24) rfl (by rfl) rfl HB6.out Try.underlying44 rfl (by exact infoM)) rfl ⟨rfl, K0.out.trans' K6.out (fun i e => .inr (by rw [e]; exact Nat.le_refl _))⟩
set_option maxRecDepth 100000 in
set_option maxHeartbeats 4000000 in
theorem dagain_some {w : World} {xb : Nat} {id n seq : Int} {R : Rq} {ao : Option Addr} {N c : Nat} (hc : w.heap[xb]? = some (docRow id n seq true R (.slice ao N c)))
    (h0 : 0 ≤ id) (h1 : id ≤ 3) (n1 : 1 ≤ n) (n4 : n ≤ 4) :
    Calls Try.prog 24 #[.pointer (some ⟨xb, 0, none⟩)] w fun e w' => e = .returned (.tuple #[.agg (msgCells id (id % n) seq R (.slice ao N c)).toArray, .bool true]) ∧ Kept (fun _ => False) w w' := by
  have lc := row_lt hc
  obtain ⟨c0, c1, c2, c3, c4, c5, c6, c7, c8, cf⟩ := cells9 (row_old hc (.cells msgZero.toArray 44))
  have N0 := hid (row_new w (.cells msgZero.toArray 44))
  have K0 := hid ((Kept.refl (fun _ => False) w).alloc (.cells msgZero.toArray 44))
  have C0 := hid (row_old hc (.cells msgZero.toArray 44))
  clear c0 c1 c2 c4 c5 c6 c7 c8 cf hc
  unfold msgZero at c3
  go_enter Try.func24, Try.ntmps24
  go_wp2_with fail
  refine (docmsg_any (id := id) (n := n) (seq := seq) (R := R) (by exact C0.out) h0 h1 n1 n4).mono ?_
  rintro e w2 ⟨rfl, hk2⟩
  have K2 := hid (show Kept (fun _ => False) (w.alloc (.cells msgZero.toArray 44)) w2 from hk2)
  have N2 := hid ((K2.out.block _ (row_lt N0.out) (fun h => h)).trans N0.out)
  clear hk2 c3
  go_wp2_with (refine wpList_store_row rfl 44 (.tmp 2) (.tmp 15) rfl (msgCells id (id % n) seq R (.slice ao N c)).toArray msgZero.toArray (by rfl) (by rfl) (by exact N2.out) rfl infoM (by simp [msgCells, Value.oneCell']) ?_; intro w6 hb6 hk6; have HB6 := hid hb6; have K6 := hid hk6; clear hb6 hk6)
  exact bodyPost_ret (results_row_tmp (fn := Try.f24) rfl (by rfl) rfl HB6.out Try.underlying44 rfl (by exact infoM)) rfl ⟨rfl, (K0.out.trans K2.out).trans' K6.out (fun i e => .inr (by rw [e]; exact Nat.le_refl _))⟩
set_option maxRecDepth 100000 in
set_option maxHeartbeats 4000000 in
theorem drecv_nil {w : World} {m0 m1 m2 m3 m4 m5 m6 m7 m8 m9 rk rv rn rt ae ap m23 m24 m25 : Int} {vo vw vx vd vz : Value} {va la : Option Addr} {vn vq ln lq : Nat} :
    Calls Try.prog 25 #[.pointer none, .agg #[.int .u8 m0, .int .u8 m1, .int .u8 m2, .int .u8 m3, .int .u32 m4, .int .u32 m5, .int .u64 m6, .int .u32 m7, .int .u8 m8, .int .u32 m9, .int .u8 rk, vo, .int .u32 rv, .int .i64 rn, .int .i64 rt, .int .i64 ae, .int .i64 ap, .slice va vn vq, .slice la ln lq, vw, vx, vd, vz, .int .u64 m23, .int .u64 m24, .int .i64 m25]] w fun e w' => e = .returned (.tuple #[.agg ansZero, .bool false]) ∧ Kept (fun _ => False) w w' := by
  have htw := two_new w (.cells #[.int .u8 m0, .int .u8 m1, .int .u8 m2, .int .u8 m3, .int .u32 m4, .int .u32 m5, .int .u64 m6, .int .u32 m7, .int .u8 m8, .int .u32 m9, .int .u8 rk, vo, .int .u32 rv, .int .i64 rn, .int .i64 rt, .int .i64 ae, .int .i64 ap, .slice va vn vq, .slice la ln lq, vw, vx, vd, vz, .int .u64 m23, .int .u64 m24, .int .i64 m25] 44) (.cells #[.int .i64 0, .int .i64 0, .slice none 0 0, .slice none 0 0] 38)
  have hk1 := ((Kept.refl (fun _ => False) w).alloc (.cells #[.int .u8 m0, .int .u8 m1, .int .u8 m2, .int .u8 m3, .int .u32 m4, .int .u32 m5, .int .u64 m6, .int .u32 m7, .int .u8 m8, .int .u32 m9, .int .u8 rk, vo, .int .u32 rv, .int .i64 rn, .int .i64 rt, .int .i64 ae, .int .i64 ap, .slice va vn vq, .slice la ln lq, vw, vx, vd, vz, .int .u64 m23, .int .u64 m24, .int .i64 m25] 44)).alloc (.cells #[.int .i64 0, .int .i64 0, .slice none 0 0, .slice none 0 0] 38)
  go_enter Try.func25, Try.ntmps25
  go_wp2_with fail
  obtain ⟨w1, hw1⟩ : ∃ w1, (w.alloc (.cells #[.int .u8 m0, .int .u8 m1, .int .u8 m2, .int .u8 m3, .int .u32 m4, .int .u32 m5, .int .u64 m6, .int .u32 m7, .int .u8 m8, .int .u32 m9, .int .u8 rk, vo, .int .u32 rv, .int .i64 rn, .int .i64 rt, .int .i64 ae, .int .i64 ap, .slice va vn vq, .slice la ln lq, vw, vx, vd, vz, .int .u64 m23, .int .u64 m24, .int .i64 m25] 44)).alloc (.cells #[.int .i64 0, .int .i64 0, .slice none 0 0, .slice none 0 0] 38) = w1 := ⟨_, rfl⟩
  obtain ⟨b, hb⟩ : ∃ b, w.heap.size = b := ⟨_, rfl⟩
  rw [hw1] at htw hk1
  rw [hb] at htw
  try rw [hw1]
  try rw [hb]
  have HB := hid hb
  have R0 := hid htw.1; have R1 := hid htw.2; have K1 := hid hk1
  have d0 : w1.cell? ⟨b, 0, none⟩ = some (.int .u8 m0) := by rw [row_cell R0.out]; rfl
  have d8 : w1.cell? ⟨b, 8, none⟩ = some (.int .u8 m8) := by rw [row_cell R0.out]; rfl
  have d9 : w1.cell? ⟨b, 9, none⟩ = some (.int .u32 m9) := by rw [row_cell R0.out]; rfl
  clear htw hk1 hw1 hb
  go_quiet (fail)
  have RQ := hid (show (w1.drewN nq).heap[b + 1]? = _ from R1.out)
  have KQ := hid (K1.out.trans (show Kept (fun _ => False) w1 (w1.drewN nq) from ⟨rfl, rfl, rfl, Nat.le_refl _, fun _ _ _ => rfl⟩))
  go_wp2_with (refine wpList_store_row rfl 38 (.tmp 4) (.tmp 38) rfl #[.int .i64 0, .int .i64 0, .slice none 0 0, .slice none 0 0] #[.int .i64 0, .int .i64 0, .slice none 0 0, .slice none 0 0] (by rfl) (by rfl) (by exact RQ.out) rfl infoAn (by simp [Value.oneCell']) ?_; intro w6 hb6 hk6; have HB6 := hid hb6; have K6 := hid hk6; clear hb6 hk6)
  exact bodyPost_ret (results_row_tmp (fn := Try.f25) rfl (by rfl) rfl HB6.out Try.underlying38 rfl (by exact infoAn)) rfl ⟨rfl, KQ.out.trans' K6.out (fun i e => .inr (by have := HB.out; omega))⟩
set_option maxRecDepth 100000 in
set_option maxHeartbeats 4000000 in
theorem drecv_no {w : World} {xb : Nat} {id n seq : Int} {op : Bool} {R : Rq} {v : Value} {m0 m1 m2 m3 m4 m5 m6 m7 m8 m9 rk rv rn rt ae ap m23 m24 m25 : Int} {vo vw vx vd vz : Value} {va la : Option Addr} {vn vq ln lq : Nat} (hc : w.heap[xb]? = some (docRow id n seq op R v)) (hno : op = false ∨ m0 ≠ 2 ∨ m8 ≠ id ∨ m9 ≠ seq) :
    Calls Try.prog 25 #[.pointer (some ⟨xb, 0, none⟩), .agg #[.int .u8 m0, .int .u8 m1, .int .u8 m2, .int .u8 m3, .int .u32 m4, .int .u32 m5, .int .u64 m6, .int .u32 m7, .int .u8 m8, .int .u32 m9, .int .u8 rk, vo, .int .u32 rv, .int .i64 rn, .int .i64 rt, .int .i64 ae, .int .i64 ap, .slice va vn vq, .slice la ln lq, vw, vx, vd, vz, .int .u64 m23, .int .u64 m24, .int .i64 m25]] w fun e w' => e = .returned (.tuple #[.agg ansZero, .bool false]) ∧ Kept (fun _ => False) w w' := by
  have lc := row_lt hc
  have HC := hid hc
  have HNO := hid hno
  clear hc hno
  cases op with
  | false =>
    have htw := two_new w (.cells #[.int .u8 m0, .int .u8 m1, .int .u8 m2, .int .u8 m3, .int .u32 m4, .int .u32 m5, .int .u64 m6, .int .u32 m7, .int .u8 m8, .int .u32 m9, .int .u8 rk, vo, .int .u32 rv, .int .i64 rn, .int .i64 rt, .int .i64 ae, .int .i64 ap, .slice va vn vq, .slice la ln lq, vw, vx, vd, vz, .int .u64 m23, .int .u64 m24, .int .i64 m25] 44) (.cells #[.int .i64 0, .int .i64 0, .slice none 0 0, .slice none 0 0] 38)
    have hk1 := ((Kept.refl (fun _ => False) w).alloc (.cells #[.int .u8 m0, .int .u8 m1, .int .u8 m2, .int .u8 m3, .int .u32 m4, .int .u32 m5, .int .u64 m6, .int .u32 m7, .int .u8 m8, .int .u32 m9, .int .u8 rk, vo, .int .u32 rv, .int .i64 rn, .int .i64 rt, .int .i64 ae, .int .i64 ap, .slice va vn vq, .slice la ln lq, vw, vx, vd, vz, .int .u64 m23, .int .u64 m24, .int .i64 m25] 44)).alloc (.cells #[.int .i64 0, .int .i64 0, .slice none 0 0, .slice none 0 0] 38)
    go_enter Try.func25, Try.ntmps25
    go_wp2_with fail
    obtain ⟨w1, hw1⟩ : ∃ w1, (w.alloc (.cells #[.int .u8 m0, .int .u8 m1, .int .u8 m2, .int .u8 m3, .int .u32 m4, .int .u32 m5, .int .u64 m6, .int .u32 m7, .int .u8 m8, .int .u32 m9, .int .u8 rk, vo, .int .u32 rv, .int .i64 rn, .int .i64 rt, .int .i64 ae, .int .i64 ap, .slice va vn vq, .slice la ln lq, vw, vx, vd, vz, .int .u64 m23, .int .u64 m24, .int .i64 m25] 44)).alloc (.cells #[.int .i64 0, .int .i64 0, .slice none 0 0, .slice none 0 0] 38) = w1 := ⟨_, rfl⟩
    obtain ⟨b, hb⟩ : ∃ b, w.heap.size = b := ⟨_, rfl⟩
    rw [hw1] at htw hk1
    rw [hb] at htw
    try rw [hw1]
    try rw [hb]
    have HB := hid hb
    have R0 := hid htw.1; have R1 := hid htw.2; have K1 := hid hk1
    have d0 : w1.cell? ⟨b, 0, none⟩ = some (.int .u8 m0) := by rw [row_cell R0.out]; rfl
    have d8 : w1.cell? ⟨b, 8, none⟩ = some (.int .u8 m8) := by rw [row_cell R0.out]; rfl
    have d9 : w1.cell? ⟨b, 9, none⟩ = some (.int .u32 m9) := by rw [row_cell R0.out]; rfl
    clear htw hk1 hw1 hb
    have C1 := hid ((K1.out.block xb lc (fun h => h)).trans HC.out)
    obtain ⟨c0, c1, c2, c3, c4, c5, c6, c7, c8, cf⟩ := cells9 C1.out
    clear c1 c4 c5 c6 c7 c8 cf
    go_quiet (fail)
    have RQ := hid (show (w1.drewN nq).heap[b + 1]? = _ from R1.out)
    have KQ := hid (K1.out.trans (show Kept (fun _ => False) w1 (w1.drewN nq) from ⟨rfl, rfl, rfl, Nat.le_refl _, fun _ _ _ => rfl⟩))
    go_wp2_with (refine wpList_store_row rfl 38 (.tmp 4) (.tmp 38) rfl #[.int .i64 0, .int .i64 0, .slice none 0 0, .slice none 0 0] #[.int .i64 0, .int .i64 0, .slice none 0 0, .slice none 0 0] (by rfl) (by rfl) (by exact RQ.out) rfl infoAn (by simp [Value.oneCell']) ?_; intro w6 hb6 hk6; have HB6 := hid hb6; have K6 := hid hk6; clear hb6 hk6)
    exact bodyPost_ret (results_row_tmp (fn := Try.f25) rfl (by rfl) rfl HB6.out Try.underlying38 rfl (by exact infoAn)) rfl ⟨rfl, KQ.out.trans' K6.out (fun i e => .inr (by have := HB.out; omega))⟩
  | true =>
    by_cases q0 : m0 = 2
    · have q0' : (m0 != 2) = false := by simpa using q0
      by_cases q8 : m8 = id
      · have q9 : m9 ≠ seq := by
          have h := HNO.out
          simp only [reduceCtorEq, false_or] at h
          rcases h with h | h | h
          · exact absurd q0 h
          · exact absurd q8 h
          · exact h
        have q9' : (m9 != seq) = true := by simpa using q9
        clear q0 q9
        subst q8
        have htw := two_new w (.cells #[.int .u8 m0, .int .u8 m1, .int .u8 m2, .int .u8 m3, .int .u32 m4, .int .u32 m5, .int .u64 m6, .int .u32 m7, .int .u8 m8, .int .u32 m9, .int .u8 rk, vo, .int .u32 rv, .int .i64 rn, .int .i64 rt, .int .i64 ae, .int .i64 ap, .slice va vn vq, .slice la ln lq, vw, vx, vd, vz, .int .u64 m23, .int .u64 m24, .int .i64 m25] 44) (.cells #[.int .i64 0, .int .i64 0, .slice none 0 0, .slice none 0 0] 38)
        have hk1 := ((Kept.refl (fun _ => False) w).alloc (.cells #[.int .u8 m0, .int .u8 m1, .int .u8 m2, .int .u8 m3, .int .u32 m4, .int .u32 m5, .int .u64 m6, .int .u32 m7, .int .u8 m8, .int .u32 m9, .int .u8 rk, vo, .int .u32 rv, .int .i64 rn, .int .i64 rt, .int .i64 ae, .int .i64 ap, .slice va vn vq, .slice la ln lq, vw, vx, vd, vz, .int .u64 m23, .int .u64 m24, .int .i64 m25] 44)).alloc (.cells #[.int .i64 0, .int .i64 0, .slice none 0 0, .slice none 0 0] 38)
        go_enter Try.func25, Try.ntmps25
        go_wp2_with fail
        obtain ⟨w1, hw1⟩ : ∃ w1, (w.alloc (.cells #[.int .u8 m0, .int .u8 m1, .int .u8 m2, .int .u8 m3, .int .u32 m4, .int .u32 m5, .int .u64 m6, .int .u32 m7, .int .u8 m8, .int .u32 m9, .int .u8 rk, vo, .int .u32 rv, .int .i64 rn, .int .i64 rt, .int .i64 ae, .int .i64 ap, .slice va vn vq, .slice la ln lq, vw, vx, vd, vz, .int .u64 m23, .int .u64 m24, .int .i64 m25] 44)).alloc (.cells #[.int .i64 0, .int .i64 0, .slice none 0 0, .slice none 0 0] 38) = w1 := ⟨_, rfl⟩
        obtain ⟨b, hb⟩ : ∃ b, w.heap.size = b := ⟨_, rfl⟩
        rw [hw1] at htw hk1
        rw [hb] at htw
        try rw [hw1]
        try rw [hb]
        have HB := hid hb
        have R0 := hid htw.1; have R1 := hid htw.2; have K1 := hid hk1
        have d0 : w1.cell? ⟨b, 0, none⟩ = some (.int .u8 m0) := by rw [row_cell R0.out]; rfl
        have d8 : w1.cell? ⟨b, 8, none⟩ = some (.int .u8 m8) := by rw [row_cell R0.out]; rfl
        have d9 : w1.cell? ⟨b, 9, none⟩ = some (.int .u32 m9) := by rw [row_cell R0.out]; rfl
        clear htw hk1 hw1 hb
        have C1 := hid ((K1.out.block xb lc (fun h => h)).trans HC.out)
        obtain ⟨c0, c1, c2, c3, c4, c5, c6, c7, c8, cf⟩ := cells9 C1.out
        clear c1 c4 c5 c6 c7 c8 cf
        go_quiet (fail)
        have RQ := hid (show (w1.drewN nq).heap[b + 1]? = _ from R1.out)
        have KQ := hid (K1.out.trans (show Kept (fun _ => False) w1 (w1.drewN nq) from ⟨rfl, rfl, rfl, Nat.le_refl _, fun _ _ _ => rfl⟩))
        go_wp2_with (refine wpList_store_row rfl 38 (.tmp 4) (.tmp 38) rfl #[.int .i64 0, .int .i64 0, .slice none 0 0, .slice none 0 0] #[.int .i64 0, .int .i64 0, .slice none 0 0, .slice none 0 0] (by rfl) (by rfl) (by exact RQ.out) rfl infoAn (by simp [Value.oneCell']) ?_; intro w6 hb6 hk6; have HB6 := hid hb6; have K6 := hid hk6; clear hb6 hk6)
        exact bodyPost_ret (results_row_tmp (fn := Try.f25) rfl (by rfl) rfl HB6.out Try.underlying38 rfl (by exact infoAn)) rfl ⟨rfl, KQ.out.trans' K6.out (fun i e => .inr (by have := HB.out; omega))⟩
      · have q8' : (m8 != id) = true := by simpa using q8
        clear q0 q8
        have htw := two_new w (.cells #[.int .u8 m0, .int .u8 m1, .int .u8 m2, .int .u8 m3, .int .u32 m4, .int .u32 m5, .int .u64 m6, .int .u32 m7, .int .u8 m8, .int .u32 m9, .int .u8 rk, vo, .int .u32 rv, .int .i64 rn, .int .i64 rt, .int .i64 ae, .int .i64 ap, .slice va vn vq, .slice la ln lq, vw, vx, vd, vz, .int .u64 m23, .int .u64 m24, .int .i64 m25] 44) (.cells #[.int .i64 0, .int .i64 0, .slice none 0 0, .slice none 0 0] 38)
        have hk1 := ((Kept.refl (fun _ => False) w).alloc (.cells #[.int .u8 m0, .int .u8 m1, .int .u8 m2, .int .u8 m3, .int .u32 m4, .int .u32 m5, .int .u64 m6, .int .u32 m7, .int .u8 m8, .int .u32 m9, .int .u8 rk, vo, .int .u32 rv, .int .i64 rn, .int .i64 rt, .int .i64 ae, .int .i64 ap, .slice va vn vq, .slice la ln lq, vw, vx, vd, vz, .int .u64 m23, .int .u64 m24, .int .i64 m25] 44)).alloc (.cells #[.int .i64 0, .int .i64 0, .slice none 0 0, .slice none 0 0] 38)
        go_enter Try.func25, Try.ntmps25
        go_wp2_with fail
        obtain ⟨w1, hw1⟩ : ∃ w1, (w.alloc (.cells #[.int .u8 m0, .int .u8 m1, .int .u8 m2, .int .u8 m3, .int .u32 m4, .int .u32 m5, .int .u64 m6, .int .u32 m7, .int .u8 m8, .int .u32 m9, .int .u8 rk, vo, .int .u32 rv, .int .i64 rn, .int .i64 rt, .int .i64 ae, .int .i64 ap, .slice va vn vq, .slice la ln lq, vw, vx, vd, vz, .int .u64 m23, .int .u64 m24, .int .i64 m25] 44)).alloc (.cells #[.int .i64 0, .int .i64 0, .slice none 0 0, .slice none 0 0] 38) = w1 := ⟨_, rfl⟩
        obtain ⟨b, hb⟩ : ∃ b, w.heap.size = b := ⟨_, rfl⟩
        rw [hw1] at htw hk1
        rw [hb] at htw
        try rw [hw1]
        try rw [hb]
        have HB := hid hb
        have R0 := hid htw.1; have R1 := hid htw.2; have K1 := hid hk1
        have d0 : w1.cell? ⟨b, 0, none⟩ = some (.int .u8 m0) := by rw [row_cell R0.out]; rfl
        have d8 : w1.cell? ⟨b, 8, none⟩ = some (.int .u8 m8) := by rw [row_cell R0.out]; rfl
        have d9 : w1.cell? ⟨b, 9, none⟩ = some (.int .u32 m9) := by rw [row_cell R0.out]; rfl
        clear htw hk1 hw1 hb
        have C1 := hid ((K1.out.block xb lc (fun h => h)).trans HC.out)
        obtain ⟨c0, c1, c2, c3, c4, c5, c6, c7, c8, cf⟩ := cells9 C1.out
        clear c1 c4 c5 c6 c7 c8 cf
        go_quiet (fail)
        have RQ := hid (show (w1.drewN nq).heap[b + 1]? = _ from R1.out)
        have KQ := hid (K1.out.trans (show Kept (fun _ => False) w1 (w1.drewN nq) from ⟨rfl, rfl, rfl, Nat.le_refl _, fun _ _ _ => rfl⟩))
        go_wp2_with (refine wpList_store_row rfl 38 (.tmp 4) (.tmp 38) rfl #[.int .i64 0, .int .i64 0, .slice none 0 0, .slice none 0 0] #[.int .i64 0, .int .i64 0, .slice none 0 0, .slice none 0 0] (by rfl) (by rfl) (by exact RQ.out) rfl infoAn (by simp [Value.oneCell']) ?_; intro w6 hb6 hk6; have HB6 := hid hb6; have K6 := hid hk6; clear hb6 hk6)
        exact bodyPost_ret (results_row_tmp (fn := Try.f25) rfl (by rfl) rfl HB6.out Try.underlying38 rfl (by exact infoAn)) rfl ⟨rfl, KQ.out.trans' K6.out (fun i e => .inr (by have := HB.out; omega))⟩
    · have q0' : (m0 != 2) = true := by simpa using q0
      clear q0
      have htw := two_new w (.cells #[.int .u8 m0, .int .u8 m1, .int .u8 m2, .int .u8 m3, .int .u32 m4, .int .u32 m5, .int .u64 m6, .int .u32 m7, .int .u8 m8, .int .u32 m9, .int .u8 rk, vo, .int .u32 rv, .int .i64 rn, .int .i64 rt, .int .i64 ae, .int .i64 ap, .slice va vn vq, .slice la ln lq, vw, vx, vd, vz, .int .u64 m23, .int .u64 m24, .int .i64 m25] 44) (.cells #[.int .i64 0, .int .i64 0, .slice none 0 0, .slice none 0 0] 38)
      have hk1 := ((Kept.refl (fun _ => False) w).alloc (.cells #[.int .u8 m0, .int .u8 m1, .int .u8 m2, .int .u8 m3, .int .u32 m4, .int .u32 m5, .int .u64 m6, .int .u32 m7, .int .u8 m8, .int .u32 m9, .int .u8 rk, vo, .int .u32 rv, .int .i64 rn, .int .i64 rt, .int .i64 ae, .int .i64 ap, .slice va vn vq, .slice la ln lq, vw, vx, vd, vz, .int .u64 m23, .int .u64 m24, .int .i64 m25] 44)).alloc (.cells #[.int .i64 0, .int .i64 0, .slice none 0 0, .slice none 0 0] 38)
      go_enter Try.func25, Try.ntmps25
      go_wp2_with fail
      obtain ⟨w1, hw1⟩ : ∃ w1, (w.alloc (.cells #[.int .u8 m0, .int .u8 m1, .int .u8 m2, .int .u8 m3, .int .u32 m4, .int .u32 m5, .int .u64 m6, .int .u32 m7, .int .u8 m8, .int .u32 m9, .int .u8 rk, vo, .int .u32 rv, .int .i64 rn, .int .i64 rt, .int .i64 ae, .int .i64 ap, .slice va vn vq, .slice la ln lq, vw, vx, vd, vz, .int .u64 m23, .int .u64 m24, .int .i64 m25] 44)).alloc (.cells #[.int .i64 0, .int .i64 0, .slice none 0 0, .slice none 0 0] 38) = w1 := ⟨_, rfl⟩
      obtain ⟨b, hb⟩ : ∃ b, w.heap.size = b := ⟨_, rfl⟩
      rw [hw1] at htw hk1
      rw [hb] at htw
      try rw [hw1]
      try rw [hb]
      have HB := hid hb
      have R0 := hid htw.1; have R1 := hid htw.2; have K1 := hid hk1
      have d0 : w1.cell? ⟨b, 0, none⟩ = some (.int .u8 m0) := by rw [row_cell R0.out]; rfl
      have d8 : w1.cell? ⟨b, 8, none⟩ = some (.int .u8 m8) := by rw [row_cell R0.out]; rfl
      have d9 : w1.cell? ⟨b, 9, none⟩ = some (.int .u32 m9) := by rw [row_cell R0.out]; rfl
      clear htw hk1 hw1 hb
      have C1 := hid ((K1.out.block xb lc (fun h => h)).trans HC.out)
      obtain ⟨c0, c1, c2, c3, c4, c5, c6, c7, c8, cf⟩ := cells9 C1.out
      clear c1 c4 c5 c6 c7 c8 cf
      go_quiet (fail)
      have RQ := hid (show (w1.drewN nq).heap[b + 1]? = _ from R1.out)
      have KQ := hid (K1.out.trans (show Kept (fun _ => False) w1 (w1.drewN nq) from ⟨rfl, rfl, rfl, Nat.le_refl _, fun _ _ _ => rfl⟩))
      go_wp2_with (refine wpList_store_row rfl 38 (.tmp 4) (.tmp 38) rfl #[.int .i64 0, .int .i64 0, .slice none 0 0, .slice none 0 0] #[.int .i64 0, .int .i64 0, .slice none 0 0, .slice none 0 0] (by rfl) (by rfl) (by exact RQ.out) rfl infoAn (by simp [Value.oneCell']) ?_; intro w6 hb6 hk6; have HB6 := hid hb6; have K6 := hid hk6; clear hb6 hk6)
      exact bodyPost_ret (results_row_tmp (fn := Try.f25) rfl (by rfl) rfl HB6.out Try.underlying38 rfl (by exact infoAn)) rfl ⟨rfl, KQ.out.trans' K6.out (fun i e => .inr (by have := HB.out; omega))⟩
set_option maxRecDepth 100000 in
set_option maxHeartbeats 4000000 in
theorem drecv_yes {w : World} {xb : Nat} {id n seq : Int} {R : Rq} {v : Value} {m0 m1 m2 m3 m4 m5 m6 m7 m8 m9 rk rv rn rt ae ap m23 m24 m25 : Int} {vo vw vx vd vz : Value} {va la : Option Addr} {vn vq ln lq : Nat} (hc : w.heap[xb]? = some (docRow id n seq true R v)) (e0 : m0 = 2) (e8 : m8 = id) (e9 : m9 = seq) :
    Calls Try.prog 25 #[.pointer (some ⟨xb, 0, none⟩), .agg #[.int .u8 m0, .int .u8 m1, .int .u8 m2, .int .u8 m3, .int .u32 m4, .int .u32 m5, .int .u64 m6, .int .u32 m7, .int .u8 m8, .int .u32 m9, .int .u8 rk, vo, .int .u32 rv, .int .i64 rn, .int .i64 rt, .int .i64 ae, .int .i64 ap, .slice va vn vq, .slice la ln lq, vw, vx, vd, vz, .int .u64 m23, .int .u64 m24, .int .i64 m25]] w fun e w' => e = .returned (.tuple #[.agg #[.int .i64 ae, .int .i64 ap, .slice va vn vq, .slice la ln lq], .bool true]) ∧ w'.heap[xb]? = some (docRow id n seq false R v) ∧ Kept (fun g => g = xb) w w' := by
  have lc := row_lt hc
  have HC := hid hc
  clear hc
  have q0 : (m0 != 2) = false := by simpa using e0
  have q8 : (m8 != id) = false := by simpa using e8
  have q9 : (m9 != seq) = false := by simpa using e9
  clear e0 e8 e9
  have htw := two_new w (.cells #[.int .u8 m0, .int .u8 m1, .int .u8 m2, .int .u8 m3, .int .u32 m4, .int .u32 m5, .int .u64 m6, .int .u32 m7, .int .u8 m8, .int .u32 m9, .int .u8 rk, vo, .int .u32 rv, .int .i64 rn, .int .i64 rt, .int .i64 ae, .int .i64 ap, .slice va vn vq, .slice la ln lq, vw, vx, vd, vz, .int .u64 m23, .int .u64 m24, .int .i64 m25] 44) (.cells #[.int .i64 0, .int .i64 0, .slice none 0 0, .slice none 0 0] 38)
  have hk1 := ((Kept.refl (fun _ => False) w).alloc (.cells #[.int .u8 m0, .int .u8 m1, .int .u8 m2, .int .u8 m3, .int .u32 m4, .int .u32 m5, .int .u64 m6, .int .u32 m7, .int .u8 m8, .int .u32 m9, .int .u8 rk, vo, .int .u32 rv, .int .i64 rn, .int .i64 rt, .int .i64 ae, .int .i64 ap, .slice va vn vq, .slice la ln lq, vw, vx, vd, vz, .int .u64 m23, .int .u64 m24, .int .i64 m25] 44)).alloc (.cells #[.int .i64 0, .int .i64 0, .slice none 0 0, .slice none 0 0] 38)
  go_enter Try.func25, Try.ntmps25
  go_wp2_with fail
  obtain ⟨w1, hw1⟩ : ∃ w1, (w.alloc (.cells #[.int .u8 m0, .int .u8 m1, .int .u8 m2, .int .u8 m3, .int .u32 m4, .int .u32 m5, .int .u64 m6, .int .u32 m7, .int .u8 m8, .int .u32 m9, .int .u8 rk, vo, .int .u32 rv, .int .i64 rn, .int .i64 rt, .int .i64 ae, .int .i64 ap, .slice va vn vq, .slice la ln lq, vw, vx, vd, vz, .int .u64 m23, .int .u64 m24, .int .i64 m25] 44)).alloc (.cells #[.int .i64 0, .int .i64 0, .slice none 0 0, .slice none 0 0] 38) = w1 := ⟨_, rfl⟩
  obtain ⟨b, hb⟩ : ∃ b, w.heap.size = b := ⟨_, rfl⟩
  rw [hw1] at htw hk1
  rw [hb] at htw
  try rw [hw1]
  try rw [hb]
  have HB := hid hb
  have R0 := hid htw.1; have R1 := hid htw.2; have K1 := hid hk1
  have d0 : w1.cell? ⟨b, 0, none⟩ = some (.int .u8 m0) := by rw [row_cell R0.out]; rfl
  have d8 : w1.cell? ⟨b, 8, none⟩ = some (.int .u8 m8) := by rw [row_cell R0.out]; rfl
  have d9 : w1.cell? ⟨b, 9, none⟩ = some (.int .u32 m9) := by rw [row_cell R0.out]; rfl
  clear htw hk1 hw1 hb
  have C1 := hid ((K1.out.block xb lc (fun h => h)).trans HC.out)
  obtain ⟨c0, c1, c2, c3, c4, c5, c6, c7, c8, cf⟩ := cells9 C1.out
  clear c1 c4 c5 c6 c7 c8 cf
  go_quiet (fail)
  have lb := HB.out
  have RQ0 := hid (show (w1.drewN nq).heap[b]? = _ from R0.out); have RQ1 := hid (show (w1.drewN nq).heap[b + 1]? = _ from R1.out); have CQ := hid (show (w1.drewN nq).heap[xb]? = _ from C1.out)
  have KQ1 := hid (K1.out.trans (show Kept (fun _ => False) w1 (w1.drewN nq) from ⟨rfl, rfl, rfl, Nat.le_refl _, fun _ _ _ => rfl⟩))
  clear d0 d8 d9 c0 c2 c3 R0 R1 C1 K1
  obtain ⟨wq, hwq⟩ : ∃ x, w1.drewN nq = x := ⟨_, rfl⟩
  rw [hwq] at RQ0 RQ1 CQ KQ1 ⊢
  clear hwq
  go_wp2_with (first
    | (refine wpList_store_cell rfl 4 (.tmp 41) (.const (.bool false)) rfl (by kernel_rfl) xb 3 rfl (.bool false) rfl rfl CQ.out (by simp) ?_; intro w2 hr hk; have CX := hid hr.out; have KX := hid hk.out; have RX0 := hid ((KX.out.block b (row_lt RQ0.out) (by omega)).trans RQ0.out); have RX1 := hid ((KX.out.block (b + 1) (row_lt RQ1.out) (by omega)).trans RQ1.out); have e15 : w2.cell? ⟨b, 15, none⟩ = some (.int .i64 ae) := (by rw [row_cell RX0.out]; rfl); have e16 : w2.cell? ⟨b, 16, none⟩ = some (.int .i64 ap) := (by rw [row_cell RX0.out]; rfl); have e17 : w2.cell? ⟨b, 17, none⟩ = some (.slice va vn vq) := (by rw [row_cell RX0.out]; rfl); have e18 : w2.cell? ⟨b, 18, none⟩ = some (.slice la ln lq) := (by rw [row_cell RX0.out]; rfl); clear hr hk)
    | (refine wpList_store_row rfl 38 (.tmp 4) (.tmp 43) rfl #[.int .i64 ae, .int .i64 ap, .slice va vn vq, .slice la ln lq] #[.int .i64 0, .int .i64 0, .slice none 0 0, .slice none 0 0] (by rfl) (by rfl) (by exact RX1.out) rfl infoAn (by simp [Value.oneCell']) ?_; intro w6 hb6 hk6; have HB6 := hid hb6; have K6 := hid hk6; clear hb6 hk6))
  refine bodyPost_ret (results_row_tmp (fn := Try.f25) rfl (by rfl) rfl HB6.out Try.underlying38 rfl (by exact infoAn)) rfl ⟨rfl, ?_, ?_⟩
  · exact (K6.out.block _ (row_lt CX.out) (by omega)).trans CX.out
  · exact ((KQ1.out.mono (fun _ _ h => h.elim)).trans KX.out).trans' K6.out (fun i e => .inr (by omega))
end Go.Proofs.Ytnlbdlbinoebgaa
