/- Receive, whatever message comes. -/
import Derived.Test.YtnlbdlbinoebgaaK
import Derived.BigQuiet
import Derived.Deep.QuietTactic
import Derived.Test.YtnlbdlbinoebgaaHold
namespace Go.Proofs.Ytnlbdlbinoebgaa
open Go.RowKit
def ansZero : Array Value := #[.int .i64 0, .int .i64 0, .slice none 0 0, .slice none 0 0]
theorem infoAn : (Try.prog.info? 38).map (·.size) = some 4 := by kernel_rfl
set_option maxRecDepth 100000 in
set_option maxHeartbeats 4000000 in
theorem recv_nil {w : World} {m0 m1 m2 m3 m4 m5 m6 m7 m8 m9 rk rv rn rt ae ap m23 m24 m25 : Int} {vo vw vx vd vz : Value} {va la : Option Addr} {vn vq ln lq : Nat} :
    Calls Try.prog 11 #[.pointer none, .agg #[.int .u8 m0, .int .u8 m1, .int .u8 m2, .int .u8 m3, .int .u32 m4, .int .u32 m5, .int .u64 m6, .int .u32 m7, .int .u8 m8, .int .u32 m9, .int .u8 rk, vo, .int .u32 rv, .int .i64 rn, .int .i64 rt, .int .i64 ae, .int .i64 ap, .slice va vn vq, .slice la ln lq, vw, vx, vd, vz, .int .u64 m23, .int .u64 m24, .int .i64 m25]] w fun e w' => e = .returned (.tuple #[.agg ansZero, .bool false]) ∧ Kept (fun _ => False) w w' := by
  have htw := two_new w (.cells #[.int .u8 m0, .int .u8 m1, .int .u8 m2, .int .u8 m3, .int .u32 m4, .int .u32 m5, .int .u64 m6, .int .u32 m7, .int .u8 m8, .int .u32 m9, .int .u8 rk, vo, .int .u32 rv, .int .i64 rn, .int .i64 rt, .int .i64 ae, .int .i64 ap, .slice va vn vq, .slice la ln lq, vw, vx, vd, vz, .int .u64 m23, .int .u64 m24, .int .i64 m25] 44) (.cells #[.int .i64 0, .int .i64 0, .slice none 0 0, .slice none 0 0] 38)
  have hk1 := ((Kept.refl (fun _ => False) w).alloc (.cells #[.int .u8 m0, .int .u8 m1, .int .u8 m2, .int .u8 m3, .int .u32 m4, .int .u32 m5, .int .u64 m6, .int .u32 m7, .int .u8 m8, .int .u32 m9, .int .u8 rk, vo, .int .u32 rv, .int .i64 rn, .int .i64 rt, .int .i64 ae, .int .i64 ap, .slice va vn vq, .slice la ln lq, vw, vx, vd, vz, .int .u64 m23, .int .u64 m24, .int .i64 m25] 44)).alloc (.cells #[.int .i64 0, .int .i64 0, .slice none 0 0, .slice none 0 0] 38)
  go_enter Try.func11, Try.ntmps11
  go_wp2_with fail
  obtain ⟨w1, hw1⟩ : ∃ w1, (w.alloc (.cells #[.int .u8 m0, .int .u8 m1, .int .u8 m2, .int .u8 m3, .int .u32 m4, .int .u32 m5, .int .u64 m6, .int .u32 m7, .int .u8 m8, .int .u32 m9, .int .u8 rk, vo, .int .u32 rv, .int .i64 rn, .int .i64 rt, .int .i64 ae, .int .i64 ap, .slice va vn vq, .slice la ln lq, vw, vx, vd, vz, .int .u64 m23, .int .u64 m24, .int .i64 m25] 44)).alloc (.cells #[.int .i64 0, .int .i64 0, .slice none 0 0, .slice none 0 0] 38) = w1 := ⟨_, rfl⟩
  obtain ⟨b, hb⟩ : ∃ b, w.heap.size = b := ⟨_, rfl⟩
  rw [hw1] at htw hk1
  rw [hb] at htw
  try rw [hw1]
  try rw [hb]
  have HB := hid hb
  have R0 := hid htw.1; have R1 := hid htw.2; have K1 := hid hk1
  have d0 : w1.cell? ⟨b, 0, none⟩ = some (.int .u8 m0) := by rw [row_cell R0.out]; rfl
  have d8 : w1.cell? ⟨b, 8, none⟩ = some (.int .u8 m8) := by rw [row_cell R0.out]; rfl
  have d9 : w1.cell? ⟨b, 9, none⟩ = some (.int .u32 m9) := by rw [row_cell R0.out]; rfl
  clear htw hk1 hw1 hb
  go_quiet (fail)
  have RQ := hid (show (w1.drewN nq).heap[b + 1]? = _ from R1.out)
  have KQ := hid (K1.out.trans (show Kept (fun _ => False) w1 (w1.drewN nq) from ⟨rfl, rfl, rfl, Nat.le_refl _, fun _ _ _ => rfl⟩))
  go_wp2_with (refine wpList_store_row rfl 38 (.tmp 4) (.tmp 39) rfl #[.int .i64 0, .int .i64 0, .slice none 0 0, .slice none 0 0] #[.int .i64 0, .int .i64 0, .slice none 0 0, .slice none 0 0] (by rfl) (by rfl) (by exact RQ.out) rfl infoAn (by simp [Value.oneCell']) ?_; intro w6 hb6 hk6; have HB6 := hid hb6; have K6 := hid hk6; clear hb6 hk6)
  refine bodyPost_ret (results_row_tmp (fn := Try.f11) rfl (by rfl) rfl HB6.out Try.underlying38 rfl (by exact infoAn)) rfl ⟨rfl, KQ.out.trans' K6.out (fun i e => .inr (by have := HB.out; omega))⟩
set_option maxRecDepth 100000 in
set_option maxHeartbeats 4000000 in
theorem recv_no {w : World} {cb : Nat} {id n seq : Int} {rp : Option Addr} {m0 m1 m2 m3 m4 m5 m6 m7 m8 m9 rk rv rn rt ae ap m23 m24 m25 : Int} {vo vw vx vd vz : Value} {va la : Option Addr} {vn vq ln lq : Nat} (hc : w.heap[cb]? = some (cliRow id n seq rp)) (hno : rp = none ∨ m0 ≠ 2 ∨ m8 ≠ id ∨ m9 ≠ seq) :
    Calls Try.prog 11 #[.pointer (some ⟨cb, 0, none⟩), .agg #[.int .u8 m0, .int .u8 m1, .int .u8 m2, .int .u8 m3, .int .u32 m4, .int .u32 m5, .int .u64 m6, .int .u32 m7, .int .u8 m8, .int .u32 m9, .int .u8 rk, vo, .int .u32 rv, .int .i64 rn, .int .i64 rt, .int .i64 ae, .int .i64 ap, .slice va vn vq, .slice la ln lq, vw, vx, vd, vz, .int .u64 m23, .int .u64 m24, .int .i64 m25]] w fun e w' => e = .returned (.tuple #[.agg ansZero, .bool false]) ∧ Kept (fun _ => False) w w' := by
  have HNO := hid hno
  clear hno
  cases rp with
  | none =>
    have lc := row_lt hc
    have HC := hid hc
    have htw := two_new w (.cells #[.int .u8 m0, .int .u8 m1, .int .u8 m2, .int .u8 m3, .int .u32 m4, .int .u32 m5, .int .u64 m6, .int .u32 m7, .int .u8 m8, .int .u32 m9, .int .u8 rk, vo, .int .u32 rv, .int .i64 rn, .int .i64 rt, .int .i64 ae, .int .i64 ap, .slice va vn vq, .slice la ln lq, vw, vx, vd, vz, .int .u64 m23, .int .u64 m24, .int .i64 m25] 44) (.cells #[.int .i64 0, .int .i64 0, .slice none 0 0, .slice none 0 0] 38)
    have hk1 := ((Kept.refl (fun _ => False) w).alloc (.cells #[.int .u8 m0, .int .u8 m1, .int .u8 m2, .int .u8 m3, .int .u32 m4, .int .u32 m5, .int .u64 m6, .int .u32 m7, .int .u8 m8, .int .u32 m9, .int .u8 rk, vo, .int .u32 rv, .int .i64 rn, .int .i64 rt, .int .i64 ae, .int .i64 ap, .slice va vn vq, .slice la ln lq, vw, vx, vd, vz, .int .u64 m23, .int .u64 m24, .int .i64 m25] 44)).alloc (.cells #[.int .i64 0, .int .i64 0, .slice none 0 0, .slice none 0 0] 38)
    go_enter Try.func11, Try.ntmps11
    go_wp2_with fail
    obtain ⟨w1, hw1⟩ : ∃ w1, (w.alloc (.cells #[.int .u8 m0, .int .u8 m1, .int .u8 m2, .int .u8 m3, .int .u32 m4, .int .u32 m5, .int .u64 m6, .int .u32 m7, .int .u8 m8, .int .u32 m9, .int .u8 rk, vo, .int .u32 rv, .int .i64 rn, .int .i64 rt, .int .i64 ae, .int .i64 ap, .slice va vn vq, .slice la ln lq, vw, vx, vd, vz, .int .u64 m23, .int .u64 m24, .int .i64 m25] 44)).alloc (.cells #[.int .i64 0, .int .i64 0, .slice none 0 0, .slice none 0 0] 38) = w1 := ⟨_, rfl⟩
    obtain ⟨b, hb⟩ : ∃ b, w.heap.size = b := ⟨_, rfl⟩
    rw [hw1] at htw hk1
    rw [hb] at htw
    try rw [hw1]
    try rw [hb]
    have HB := hid hb
    have R0 := hid htw.1; have R1 := hid htw.2; have K1 := hid hk1
    have d0 : w1.cell? ⟨b, 0, none⟩ = some (.int .u8 m0) := by rw [row_cell R0.out]; rfl
    have d8 : w1.cell? ⟨b, 8, none⟩ = some (.int .u8 m8) := by rw [row_cell R0.out]; rfl
    have d9 : w1.cell? ⟨b, 9, none⟩ = some (.int .u32 m9) := by rw [row_cell R0.out]; rfl
    clear htw hk1 hw1 hb
    have C1 := hid ((K1.out.block cb lc (fun h => h)).trans HC.out)
    obtain ⟨c0, c1, c2, c3, cf⟩ := cells4 C1.out
    clear c1 cf
    go_quiet (fail)
    have RQ := hid (show (w1.drewN nq).heap[b + 1]? = _ from R1.out)
    have KQ := hid (K1.out.trans (show Kept (fun _ => False) w1 (w1.drewN nq) from ⟨rfl, rfl, rfl, Nat.le_refl _, fun _ _ _ => rfl⟩))
    go_wp2_with (refine wpList_store_row rfl 38 (.tmp 4) (.tmp 39) rfl #[.int .i64 0, .int .i64 0, .slice none 0 0, .slice none 0 0] #[.int .i64 0, .int .i64 0, .slice none 0 0, .slice none 0 0] (by rfl) (by rfl) (by exact RQ.out) rfl infoAn (by simp [Value.oneCell']) ?_; intro w6 hb6 hk6; have HB6 := hid hb6; have K6 := hid hk6; clear hb6 hk6)
    refine bodyPost_ret (results_row_tmp (fn := Try.f11) rfl (by rfl) rfl HB6.out Try.underlying38 rfl (by exact infoAn)) rfl ⟨rfl, KQ.out.trans' K6.out (fun i e => .inr (by have := HB.out; omega))⟩
  | some rb =>
    by_cases q0 : m0 = 2
    · have q0' : (m0 != 2) = false := by simpa using q0
      by_cases q8 : m8 = id
      · have q9 : m9 ≠ seq := by
          have h := HNO.out
          simp only [reduceCtorEq, false_or] at h
          rcases h with h | h | h
          · exact absurd q0 h
          · exact absurd q8 h
          · exact h
        have q9' : (m9 != seq) = true := by simpa using q9
        clear q0 q9
        subst q8
        have lc := row_lt hc
        have HC := hid hc
        have htw := two_new w (.cells #[.int .u8 m0, .int .u8 m1, .int .u8 m2, .int .u8 m3, .int .u32 m4, .int .u32 m5, .int .u64 m6, .int .u32 m7, .int .u8 m8, .int .u32 m9, .int .u8 rk, vo, .int .u32 rv, .int .i64 rn, .int .i64 rt, .int .i64 ae, .int .i64 ap, .slice va vn vq, .slice la ln lq, vw, vx, vd, vz, .int .u64 m23, .int .u64 m24, .int .i64 m25] 44) (.cells #[.int .i64 0, .int .i64 0, .slice none 0 0, .slice none 0 0] 38)
        have hk1 := ((Kept.refl (fun _ => False) w).alloc (.cells #[.int .u8 m0, .int .u8 m1, .int .u8 m2, .int .u8 m3, .int .u32 m4, .int .u32 m5, .int .u64 m6, .int .u32 m7, .int .u8 m8, .int .u32 m9, .int .u8 rk, vo, .int .u32 rv, .int .i64 rn, .int .i64 rt, .int .i64 ae, .int .i64 ap, .slice va vn vq, .slice la ln lq, vw, vx, vd, vz, .int .u64 m23, .int .u64 m24, .int .i64 m25] 44)).alloc (.cells #[.int .i64 0, .int .i64 0, .slice none 0 0, .slice none 0 0] 38)
        go_enter Try.func11, Try.ntmps11
        go_wp2_with fail
        obtain ⟨w1, hw1⟩ : ∃ w1, (w.alloc (.cells #[.int .u8 m0, .int .u8 m1, .int .u8 m2, .int .u8 m3, .int .u32 m4, .int .u32 m5, .int .u64 m6, .int .u32 m7, .int .u8 m8, .int .u32 m9, .int .u8 rk, vo, .int .u32 rv, .int .i64 rn, .int .i64 rt, .int .i64 ae, .int .i64 ap, .slice va vn vq, .slice la ln lq, vw, vx, vd, vz, .int .u64 m23, .int .u64 m24, .int .i64 m25] 44)).alloc (.cells #[.int .i64 0, .int .i64 0, .slice none 0 0, .slice none 0 0] 38) = w1 := ⟨_, rfl⟩
        obtain ⟨b, hb⟩ : ∃ b, w.heap.size = b := ⟨_, rfl⟩
        rw [hw1] at htw hk1
        rw [hb] at htw
        try rw [hw1]
        try rw [hb]
        have HB := hid hb
        have R0 := hid htw.1; have R1 := hid htw.2; have K1 := hid hk1
        have d0 : w1.cell? ⟨b, 0, none⟩ = some (.int .u8 m0) := by rw [row_cell R0.out]; rfl
        have d8 : w1.cell? ⟨b, 8, none⟩ = some (.int .u8 m8) := by rw [row_cell R0.out]; rfl
        have d9 : w1.cell? ⟨b, 9, none⟩ = some (.int .u32 m9) := by rw [row_cell R0.out]; rfl
        clear htw hk1 hw1 hb
        have C1 := hid ((K1.out.block cb lc (fun h => h)).trans HC.out)
        obtain ⟨c0, c1, c2, c3, cf⟩ := cells4 C1.out
        clear c1 cf
        go_quiet (fail)
        have RQ := hid (show (w1.drewN nq).heap[b + 1]? = _ from R1.out)
        have KQ := hid (K1.out.trans (show Kept (fun _ => False) w1 (w1.drewN nq) from ⟨rfl, rfl, rfl, Nat.le_refl _, fun _ _ _ => rfl⟩))
        go_wp2_with (refine wpList_store_row rfl 38 (.tmp 4) (.tmp 39) rfl #[.int .i64 0, .int .i64 0, .slice none 0 0, .slice none 0 0] #[.int .i64 0, .int .i64 0, .slice none 0 0, .slice none 0 0] (by rfl) (by rfl) (by exact RQ.out) rfl infoAn (by simp [Value.oneCell']) ?_; intro w6 hb6 hk6; have HB6 := hid hb6; have K6 := hid hk6; clear hb6 hk6)
        refine bodyPost_ret (results_row_tmp (fn := Try.f11) rfl (by rfl) rfl HB6.out Try.underlying38 rfl (by exact infoAn)) rfl ⟨rfl, KQ.out.trans' K6.out (fun i e => .inr (by have := HB.out; omega))⟩
      · have q8' : (m8 != id) = true := by simpa using q8
        clear q0 q8
        have lc := row_lt hc
        have HC := hid hc
        have htw := two_new w (.cells #[.int .u8 m0, .int .u8 m1, .int .u8 m2, .int .u8 m3, .int .u32 m4, .int .u32 m5, .int .u64 m6, .int .u32 m7, .int .u8 m8, .int .u32 m9, .int .u8 rk, vo, .int .u32 rv, .int .i64 rn, .int .i64 rt, .int .i64 ae, .int .i64 ap, .slice va vn vq, .slice la ln lq, vw, vx, vd, vz, .int .u64 m23, .int .u64 m24, .int .i64 m25] 44) (.cells #[.int .i64 0, .int .i64 0, .slice none 0 0, .slice none 0 0] 38)
        have hk1 := ((Kept.refl (fun _ => False) w).alloc (.cells #[.int .u8 m0, .int .u8 m1, .int .u8 m2, .int .u8 m3, .int .u32 m4, .int .u32 m5, .int .u64 m6, .int .u32 m7, .int .u8 m8, .int .u32 m9, .int .u8 rk, vo, .int .u32 rv, .int .i64 rn, .int .i64 rt, .int .i64 ae, .int .i64 ap, .slice va vn vq, .slice la ln lq, vw, vx, vd, vz, .int .u64 m23, .int .u64 m24, .int .i64 m25] 44)).alloc (.cells #[.int .i64 0, .int .i64 0, .slice none 0 0, .slice none 0 0] 38)
        go_enter Try.func11, Try.ntmps11
        go_wp2_with fail
        obtain ⟨w1, hw1⟩ : ∃ w1, (w.alloc (.cells #[.int .u8 m0, .int .u8 m1, .int .u8 m2, .int .u8 m3, .int .u32 m4, .int .u32 m5, .int .u64 m6, .int .u32 m7, .int .u8 m8, .int .u32 m9, .int .u8 rk, vo, .int .u32 rv, .int .i64 rn, .int .i64 rt, .int .i64 ae, .int .i64 ap, .slice va vn vq, .slice la ln lq, vw, vx, vd, vz, .int .u64 m23, .int .u64 m24, .int .i64 m25] 44)).alloc (.cells #[.int .i64 0, .int .i64 0, .slice none 0 0, .slice none 0 0] 38) = w1 := ⟨_, rfl⟩
        obtain ⟨b, hb⟩ : ∃ b, w.heap.size = b := ⟨_, rfl⟩
        rw [hw1] at htw hk1
        rw [hb] at htw
        try rw [hw1]
        try rw [hb]
        have HB := hid hb
        have R0 := hid htw.1; have R1 := hid htw.2; have K1 := hid hk1
        have d0 : w1.cell? ⟨b, 0, none⟩ = some (.int .u8 m0) := by rw [row_cell R0.out]; rfl
        have d8 : w1.cell? ⟨b, 8, none⟩ = some (.int .u8 m8) := by rw [row_cell R0.out]; rfl
        have d9 : w1.cell? ⟨b, 9, none⟩ = some (.int .u32 m9) := by rw [row_cell R0.out]; rfl
        clear htw hk1 hw1 hb
        have C1 := hid ((K1.out.block cb lc (fun h => h)).trans HC.out)
        obtain ⟨c0, c1, c2, c3, cf⟩ := cells4 C1.out
        clear c1 cf
        go_quiet (fail)
        have RQ := hid (show (w1.drewN nq).heap[b + 1]? = _ from R1.out)
        have KQ := hid (K1.out.trans (show Kept (fun _ => False) w1 (w1.drewN nq) from ⟨rfl, rfl, rfl, Nat.le_refl _, fun _ _ _ => rfl⟩))
        go_wp2_with (refine wpList_store_row rfl 38 (.tmp 4) (.tmp 39) rfl #[.int .i64 0, .int .i64 0, .slice none 0 0, .slice none 0 0] #[.int .i64 0, .int .i64 0, .slice none 0 0, .slice none 0 0] (by rfl) (by rfl) (by exact RQ.out) rfl infoAn (by simp [Value.oneCell']) ?_; intro w6 hb6 hk6; have HB6 := hid hb6; have K6 := hid hk6; clear hb6 hk6)
        refine bodyPost_ret (results_row_tmp (fn := Try.f11) rfl (by rfl) rfl HB6.out Try.underlying38 rfl (by exact infoAn)) rfl ⟨rfl, KQ.out.trans' K6.out (fun i e => .inr (by have := HB.out; omega))⟩
    · have q0' : (m0 != 2) = true := by simpa using q0
      clear q0
      have lc := row_lt hc
      have HC := hid hc
      have htw := two_new w (.cells #[.int .u8 m0, .int .u8 m1, .int .u8 m2, .int .u8 m3, .int .u32 m4, .int .u32 m5, .int .u64 m6, .int .u32 m7, .int .u8 m8, .int .u32 m9, .int .u8 rk, vo, .int .u32 rv, .int .i64 rn, .int .i64 rt, .int .i64 ae, .int .i64 ap, .slice va vn vq, .slice la ln lq, vw, vx, vd, vz, .int .u64 m23, .int .u64 m24, .int .i64 m25] 44) (.cells #[.int .i64 0, .int .i64 0, .slice none 0 0, .slice none 0 0] 38)
      have hk1 := ((Kept.refl (fun _ => False) w).alloc (.cells #[.int .u8 m0, .int .u8 m1, .int .u8 m2, .int .u8 m3, .int .u32 m4, .int .u32 m5, .int .u64 m6, .int .u32 m7, .int .u8 m8, .int .u32 m9, .int .u8 rk, vo, .int .u32 rv, .int .i64 rn, .int .i64 rt, .int .i64 ae, .int .i64 ap, .slice va vn vq, .slice la ln lq, vw, vx, vd, vz, .int .u64 m23, .int .u64 m24, .int .i64 m25] 44)).alloc (.cells #[.int .i64 0, .int .i64 0, .slice none 0 0, .slice none 0 0] 38)
      go_enter Try.func11, Try.ntmps11
      go_wp2_with fail
      obtain ⟨w1, hw1⟩ : ∃ w1, (w.alloc (.cells #[.int .u8 m0, .int .u8 m1, .int .u8 m2, .int .u8 m3, .int .u32 m4, .int .u32 m5, .int .u64 m6, .int .u32 m7, .int .u8 m8, .int .u32 m9, .int .u8 rk, vo, .int .u32 rv, .int .i64 rn, .int .i64 rt, .int .i64 ae, .int .i64 ap, .slice va vn vq, .slice la ln lq, vw, vx, vd, vz, .int .u64 m23, .int .u64 m24, .int .i64 m25] 44)).alloc (.cells #[.int .i64 0, .int .i64 0, .slice none 0 0, .slice none 0 0] 38) = w1 := ⟨_, rfl⟩
      obtain ⟨b, hb⟩ : ∃ b, w.heap.size = b := ⟨_, rfl⟩
      rw [hw1] at htw hk1
      rw [hb] at htw
      try rw [hw1]
      try rw [hb]
      have HB := hid hb
      have R0 := hid htw.1; have R1 := hid htw.2; have K1 := hid hk1
      have d0 : w1.cell? ⟨b, 0, none⟩ = some (.int .u8 m0) := by rw [row_cell R0.out]; rfl
      have d8 : w1.cell? ⟨b, 8, none⟩ = some (.int .u8 m8) := by rw [row_cell R0.out]; rfl
      have d9 : w1.cell? ⟨b, 9, none⟩ = some (.int .u32 m9) := by rw [row_cell R0.out]; rfl
      clear htw hk1 hw1 hb
      have C1 := hid ((K1.out.block cb lc (fun h => h)).trans HC.out)
      obtain ⟨c0, c1, c2, c3, cf⟩ := cells4 C1.out
      clear c1 cf
      go_quiet (fail)
      have RQ := hid (show (w1.drewN nq).heap[b + 1]? = _ from R1.out)
      have KQ := hid (K1.out.trans (show Kept (fun _ => False) w1 (w1.drewN nq) from ⟨rfl, rfl, rfl, Nat.le_refl _, fun _ _ _ => rfl⟩))
      go_wp2_with (refine wpList_store_row rfl 38 (.tmp 4) (.tmp 39) rfl #[.int .i64 0, .int .i64 0, .slice none 0 0, .slice none 0 0] #[.int .i64 0, .int .i64 0, .slice none 0 0, .slice none 0 0] (by rfl) (by rfl) (by exact RQ.out) rfl infoAn (by simp [Value.oneCell']) ?_; intro w6 hb6 hk6; have HB6 := hid hb6; have K6 := hid hk6; clear hb6 hk6)
      refine bodyPost_ret (results_row_tmp (fn := Try.f11) rfl (by rfl) rfl HB6.out Try.underlying38 rfl (by exact infoAn)) rfl ⟨rfl, KQ.out.trans' K6.out (fun i e => .inr (by have := HB.out; omega))⟩
set_option maxRecDepth 100000 in
set_option maxHeartbeats 4000000 in
theorem recv_yes {F : Nat → Prop} {w : World} {cb : Nat} (hF : F cb) {id n seq : Int} {rb : Addr} {m1 m2 m3 m4 m5 m6 m7 rk rv rn rt ae ap m23 m24 m25 : Int} {vo vw vx vd vz : Value} {va la : Option Addr} {vn vq ln lq : Nat} {vc lc' : List Value} (hc : w.heap[cb]? = some (cliRow id n seq (some rb)))
    (hv : Lies F w 3 (.slice va vn vq) vn vc) (hl : Lies F w 1 (.slice la ln lq) ln lc') (bv : vn * 32 ≤ 140737488351232) (bl : ln * 4 ≤ 140737488351232) :
    Calls Try.prog 11 #[.pointer (some ⟨cb, 0, none⟩), .agg #[.int .u8 2, .int .u8 m1, .int .u8 m2, .int .u8 m3, .int .u32 m4, .int .u32 m5, .int .u64 m6, .int .u32 m7, .int .u8 id, .int .u32 seq, .int .u8 rk, vo, .int .u32 rv, .int .i64 rn, .int .i64 rt, .int .i64 ae, .int .i64 ap, .slice va vn vq, .slice la ln lq, vw, vx, vd, vz, .int .u64 m23, .int .u64 m24, .int .i64 m25]] w fun e w' => ∃ va' vq' la' lq', e = .returned (.tuple #[.agg #[.int .i64 ae, .int .i64 ap, .slice va' vn vq', .slice la' ln lq'], .bool true]) ∧
      Lies (fun g => g < w.heap.size) w' 3 (.slice va' vn vq') vn vc ∧ Lies (fun g => g < w.heap.size) w' 1 (.slice la' ln lq') ln lc' ∧ w'.heap[cb]? = some (cliRow id n seq none) ∧ Kept (fun g => g = cb) w w' := by
  have HV := hid hv; have HL := hid hl
  have H1V := hid (show ∀ u ∈ vc, u.oneCell' = true from hv.src.choose_spec.choose_spec.2.2.2.2)
  have H1L := hid (show ∀ u ∈ lc', u.oneCell' = true from hl.src.choose_spec.choose_spec.2.2.2.2)
  clear hv hl
  have lc := row_lt hc
  have HC := hid hc
  have q8 : (id != id) = false := by simp
  have q9 : (seq != seq) = false := by simp
  have htw := two_new w (.cells #[.int .u8 2, .int .u8 m1, .int .u8 m2, .int .u8 m3, .int .u32 m4, .int .u32 m5, .int .u64 m6, .int .u32 m7, .int .u8 id, .int .u32 seq, .int .u8 rk, vo, .int .u32 rv, .int .i64 rn, .int .i64 rt, .int .i64 ae, .int .i64 ap, .slice va vn vq, .slice la ln lq, vw, vx, vd, vz, .int .u64 m23, .int .u64 m24, .int .i64 m25] 44) (.cells #[.int .i64 0, .int .i64 0, .slice none 0 0, .slice none 0 0] 38)
  have hk1 := ((Kept.refl (fun _ => False) w).alloc (.cells #[.int .u8 2, .int .u8 m1, .int .u8 m2, .int .u8 m3, .int .u32 m4, .int .u32 m5, .int .u64 m6, .int .u32 m7, .int .u8 id, .int .u32 seq, .int .u8 rk, vo, .int .u32 rv, .int .i64 rn, .int .i64 rt, .int .i64 ae, .int .i64 ap, .slice va vn vq, .slice la ln lq, vw, vx, vd, vz, .int .u64 m23, .int .u64 m24, .int .i64 m25] 44)).alloc (.cells #[.int .i64 0, .int .i64 0, .slice none 0 0, .slice none 0 0] 38)
  go_enter Try.func11, Try.ntmps11
  go_wp2_with fail
  obtain ⟨w1, hw1⟩ : ∃ w1, (w.alloc (.cells #[.int .u8 2, .int .u8 m1, .int .u8 m2, .int .u8 m3, .int .u32 m4, .int .u32 m5, .int .u64 m6, .int .u32 m7, .int .u8 id, .int .u32 seq, .int .u8 rk, vo, .int .u32 rv, .int .i64 rn, .int .i64 rt, .int .i64 ae, .int .i64 ap, .slice va vn vq, .slice la ln lq, vw, vx, vd, vz, .int .u64 m23, .int .u64 m24, .int .i64 m25] 44)).alloc (.cells #[.int .i64 0, .int .i64 0, .slice none 0 0, .slice none 0 0] 38) = w1 := ⟨_, rfl⟩
  obtain ⟨b, hb⟩ : ∃ b, w.heap.size = b := ⟨_, rfl⟩
  rw [hw1] at htw hk1
  rw [hb] at htw
  try rw [hw1]
  try rw [hb]
  have HB := hid hb
  have R0 := hid htw.1; have R1 := hid htw.2; have K1 := hid hk1
  have d0 : w1.cell? ⟨b, 0, none⟩ = some (.int .u8 2) := by rw [row_cell R0.out]; rfl
  have d8 : w1.cell? ⟨b, 8, none⟩ = some (.int .u8 id) := by rw [row_cell R0.out]; rfl
  have d9 : w1.cell? ⟨b, 9, none⟩ = some (.int .u32 seq) := by rw [row_cell R0.out]; rfl
  clear htw hk1 hw1 hb
  have C1 := hid ((K1.out.block cb lc (fun h => h)).trans HC.out)
  obtain ⟨c0, c1, c2, c3, cf⟩ := cells4 C1.out
  clear c1 cf
  go_quiet (fail)
  have lb := HB.out
  have KQ := hid (show Kept (fun _ => False) w1 (w1.drewN nq) from ⟨rfl, rfl, rfl, Nat.le_refl _, fun _ _ _ => rfl⟩)
  have RQ0 := hid (show (w1.drewN nq).heap[b]? = _ from R0.out); have RQ1 := hid (show (w1.drewN nq).heap[b + 1]? = _ from R1.out); have CQ := hid (show (w1.drewN nq).heap[cb]? = _ from C1.out)
  have KQ1 := hid (K1.out.trans KQ.out)
  clear d0 d8 d9 c0 c2 c3 KQ R0 R1 C1 K1
  obtain ⟨wq, hwq⟩ : ∃ x, w1.drewN nq = x := ⟨_, rfl⟩
  rw [hwq] at RQ0 RQ1 CQ KQ1 ⊢
  clear hwq
  go_wp2_with (refine wpList_store_cell rfl 68 (.tmp 42) (.const (.pointer none)) rfl (by kernel_rfl) cb 3 rfl (.pointer none) rfl rfl CQ.out (by simp) ?_; intro w2 hr hk; have CX := hid hr.out; have KX := hid hk.out; have RX0 := hid ((KX.out.block b (row_lt RQ0.out) (by omega)).trans RQ0.out); have RX1 := hid ((KX.out.block (b + 1) (row_lt RQ1.out) (by omega)).trans RQ1.out); have e15 : w2.cell? ⟨b, 15, none⟩ = some (.int .i64 ae) := (by rw [row_cell RX0.out]; rfl); have e16 : w2.cell? ⟨b, 16, none⟩ = some (.int .i64 ap) := (by rw [row_cell RX0.out]; rfl); have e17 : w2.cell? ⟨b, 17, none⟩ = some (.slice va vn vq) := (by rw [row_cell RX0.out]; rfl); have e18 : w2.cell? ⟨b, 18, none⟩ = some (.slice la ln lq) := (by rw [row_cell RX0.out]; rfl); clear hr hk; refine Hid.out ?_)
  refine hid ?_
  go_wp2_with (refine wpList_store_row rfl 38 (.tmp 6) (.tmp 44) rfl #[.int .i64 ae, .int .i64 ap, .slice va vn vq, .slice la ln lq] #[.int .i64 0, .int .i64 0, .slice none 0 0, .slice none 0 0] (by rfl) (by rfl) (by exact row_new w2 _) rfl infoAn (by simp [Value.oneCell']) ?_; intro w3 hb3 hk3; have RS := hid hb3; have KS := hid (((Kept.refl (fun _ => False) w2).alloc (.cells #[.int .i64 0, .int .i64 0, .slice none 0 0, .slice none 0 0] 38)).trans' hk3 (fun i e => .inr (by rw [e]; exact Nat.le_refl _))); clear hb3 hk3; refine Hid.out ?_)
  refine hid ?_
  obtain ⟨sb, hsb⟩ : ∃ sb, w2.heap.size = sb := ⟨_, rfl⟩
  rw [hsb] at RS ⊢
  have HSB := hid hsb
  have R31 := hid ((KS.out.block (b + 1) (row_lt RX1.out) (fun h => h)).trans RX1.out)
  have C3 := hid ((KS.out.block cb (row_lt CX.out) (fun h => h)).trans CX.out)
  have K3 := hid (show Kept (fun g => g = cb) w w3 from ((KQ1.out.mono (fun _ _ h => h.elim)).trans KX.out).trans (KS.out.mono (fun _ _ h => h.elim)))
  have lsb : b + 1 < sb := by have := row_lt RX1.out; omega
  have lcb : cb < b := by omega
  clear hsb e15 e16 e17 e18 RX0 RX1 RQ0 RQ1 CQ KX KS CX KQ1
  go_wp2_with fail
  obtain ⟨x0, x1, x2, x3, xf⟩ := cells4 RS.out
  clear x0 x1 xf
  refine wp_region_till (fun w' : World => w'.cell? ⟨sb, 2, none⟩ = some (.slice va vn vq) ∧ w'.cell? ⟨sb, 3, none⟩ = some (.slice la ln lq)) 7 (by kernel_rfl) (by exact ⟨x2, x3⟩) (fun hHeld => ?_)
  refine till_pure 0 (some 45) (v := ?v01) (by decide) rfl (by kernel_rfl) (by kernel_rfl) (by kernel_rfl) (by kernel_rfl) (by decide) (fun _ _ _ h => h) (Or.inl ⟨by rfl, ?y01⟩) (by assumption) ?r01
  case y01 => (intro w hSw; clear hSw; go_simp; (try with_reducible rfl))
  simp only [Act.put, List.setIfInBounds_toArray, List.set_cons_zero, List.set_cons_succ]
  refine till_load 1 (some 46) [2] (v := ?v02) (by decide) rfl (by kernel_rfl) (by kernel_rfl) (by kernel_rfl) (by kernel_rfl) (by kernel_rfl) (by decide) (by decide) (fun _ _ _ h => h) (Or.inl ⟨by rfl, ?y02⟩) (by assumption) ?r02
  case y02 => (intro w hSw; (try dsimp only at hSw); go_simp; (try with_reducible rfl))
  simp only [Act.put, List.setIfInBounds_toArray, List.set_cons_zero, List.set_cons_succ]
  refine till_pure 3 (some 48) (v := ?v03) (by decide) rfl (by kernel_rfl) (by kernel_rfl) (by kernel_rfl) (by kernel_rfl) (by decide) (fun _ _ _ h => h) (Or.inl ⟨by rfl, ?y03⟩) (by assumption) ?r03
  case y03 => (intro w hSw; clear hSw; go_simp; (try with_reducible rfl))
  simp only [Act.put, List.setIfInBounds_toArray, List.set_cons_zero, List.set_cons_succ]
  refine till_load 4 (some 49) [5] (v := ?v04) (by decide) rfl (by kernel_rfl) (by kernel_rfl) (by kernel_rfl) (by kernel_rfl) (by kernel_rfl) (by decide) (by decide) (fun _ _ _ h => h) (Or.inl ⟨by rfl, ?y04⟩) (by assumption) ?r04
  case y04 => (intro w hSw; (try dsimp only at hSw); go_simp; (try with_reducible rfl))
  simp only [Act.put, List.setIfInBounds_toArray, List.set_cons_zero, List.set_cons_succ]
  refine till_call 2 (by kernel_rfl) rfl (fun K hK => ?_)
  go_simp
  have KD := hid (show Kept (fun g => g = cb) w w3.drew from K3.out.drew)
  refine (cloneV_in _ vn vc _ (HV.out.kept KD.out (fun g _ e => by rw [e]; exact hF)) bv H1V.out).mono ?_
  rintro e w4 ⟨va', vq', rfl, hv4, hk4⟩
  have HV4 := hid hv4; have K4 := hid hk4
  have KD4 := hid (KD.out.trans (hk4.mono (fun _ _ h => h.elim)))
  have RS4 := hid ((hk4.block sb (row_lt RS.out) (fun h => h)).trans (show w3.drew.heap[sb]? = _ from RS.out))
  clear hv4 hk4 x2 x3
  try dsimp only []
  refine hK.out _ _ (by exact ⟨(cells4 RS4.out).2.2.1, (cells4 RS4.out).2.2.2.1⟩) (fun hHeld => ?_)
  clear hK K
  try simp only [Act.put, List.setIfInBounds_toArray, List.set_cons_zero, List.set_cons_succ]
  refine till_pure 6 (some 51) (v := ?v06) (by decide) rfl (by kernel_rfl) (by kernel_rfl) (by kernel_rfl) (by kernel_rfl) (by decide) (fun _ _ _ h => h) (Or.inl ⟨by rfl, ?y06⟩) (by assumption) ?r06
  case y06 => (intro w hSw; clear hSw; go_simp; (try with_reducible rfl))
  simp only [Act.put, List.setIfInBounds_toArray, List.set_cons_zero, List.set_cons_succ]
  refine till_call 5 (by kernel_rfl) rfl (fun K hK => ?_)
  go_simp
  refine (cloneN_in _ ln lc' _ (HL.out.kept KD4.out (fun g _ e => by rw [e]; exact hF)) bl H1L.out).mono ?_
  rintro e w5 ⟨la', lq', rfl, hl5, hk5⟩
  have HL5 := hid hl5; have K5 := hid hk5
  have KD5 := hid (KD4.out.trans (hk5.mono (fun _ _ h => h.elim)))
  have RS5 := hid ((hk5.block sb (row_lt RS4.out) (fun h => h)).trans RS4.out)
  have R35 := hid ((hk5.block (b + 1) (Nat.lt_of_lt_of_le (row_lt R31.out) K4.out.size) (fun h => h)).trans ((K4.out.block (b + 1) (row_lt R31.out) (fun h => h)).trans R31.out))
  have C5 := hid ((hk5.block cb (Nat.lt_of_lt_of_le (row_lt C3.out) K4.out.size) (fun h => h)).trans ((K4.out.block cb (row_lt C3.out) (fun h => h)).trans C3.out))
  have HV5 := hid (HV4.out.kept hk5 (fun _ _ h => h.elim))
  have S3 := hid (show sb < w3.heap.size from row_lt RS.out)
  have S4 := hid K4.out.size
  clear hl5 hk5 K4 RS4 R31 C3 HV4
  try dsimp only []
  refine hK.out _ _ (by exact ⟨(cells4 RS5.out).2.2.1, (cells4 RS5.out).2.2.2.1⟩) (fun hHeld => ?_)
  clear hK K
  try simp only [Act.put, List.setIfInBounds_toArray, List.set_cons_zero, List.set_cons_succ]
  refine till_list [8, 9] (by kernel_rfl) (by kernel_rfl) (by decide) (by decide) ?_
  simp only [pickOps, List.getElem?_toArray, List.getElem?_cons_zero, List.getElem?_cons_succ]
  go_wp2_with (first
    | (refine wpList_store_cell rfl 35 (.tmp 51) (.tmp 47) rfl (by kernel_rfl) sb 2 rfl (.slice va' vn vq') rfl rfl RS5.out (by simp) ?_; intro w6 hr hk; have RS6 := hid hr.out; have K56 := hid hk.out; clear hr hk)
    | (refine wpList_store_cell rfl 36 (.tmp 52) (.tmp 50) rfl (by kernel_rfl) sb 3 rfl (.slice la' ln lq') rfl rfl RS6.out (by simp) ?_; intro w7 hr hk; have hr' := hr.out; simp only [List.setIfInBounds_toArray, List.set_cons_zero, List.set_cons_succ] at hr'; have RS7 := hid hr'; have K67 := hid hk.out; obtain ⟨x0, x1, x2, x3, xf⟩ := cells4 hr'; have R37 := hid ((K67.out.block (b + 1) (by have h := row_lt R35.out; have := K56.out.size; omega) (by omega)).trans ((K56.out.block (b + 1) (row_lt R35.out) (by omega)).trans R35.out)); clear hr hk hr')
    | (refine wpList_store_row rfl 38 (.tmp 4) (.tmp 53) rfl #[.int .i64 ae, .int .i64 ap, .slice va' vn vq', .slice la' ln lq'] #[.int .i64 0, .int .i64 0, .slice none 0 0, .slice none 0 0] (by rfl) (by rfl) (by exact R37.out) rfl infoAn (by simp [Value.oneCell']) ?_; intro w8 hb6 hk6; have HB8 := hid hb6; have K78 := hid hk6; clear hb6 hk6))
  have s3 : sb < w3.heap.size := S3.out
  have s4 : w3.heap.size ≤ w4.heap.size := S4.out
  have KK := hid (show Kept (fun g => g = sb ∨ g = b + 1) w5 w8 from (K56.out.mono (fun _ _ h => .inl h)).trans ((K67.out.mono (fun _ _ h => .inl h)).trans (K78.out.mono (fun _ _ h => .inr h))))
  refine bodyPost_ret (results_row_tmp (fn := Try.f11) rfl (by rfl) rfl HB8.out Try.underlying38 rfl (by exact infoAn)) rfl ⟨va', vq', la', lq', rfl, ?_, ?_, ?_, ?_⟩
  · exact ((HV5.out.mono (G := fun g => g < sb + 1) (fun g _ e => by show g < w3.heap.size; omega)).kept KK.out (fun g _ e => by omega)).mono (fun g _ e => by omega)
  · exact ((HL5.out.mono (G := fun g => g < sb + 1) (fun g _ e => by omega)).kept KK.out (fun g _ e => by omega)).mono (fun g _ e => by omega)
  · have h := (KK.out.block cb (row_lt C5.out) (by omega)).trans C5.out
    exact h
  · exact KD5.out.trans' KK.out (fun i e => .inr (by omega))
end Go.Proofs.Ytnlbdlbinoebgaa
