/- The document's client: DocCall. -/
import Derived.Test.YtnlbdlbinoebgaaZa
import Derived.BigQuiet
import Derived.Deep.QuietTactic
namespace Go.Proofs.Ytnlbdlbinoebgaa
open Go.RowKit
set_option maxRecDepth 100000 in
set_option maxHeartbeats 4000000 in
theorem dcall_nx {w : World} {R : Rq} {v : Value} {F : Nat → Prop} (hin : ReqIn F w v R) :
    Calls Try.prog 22 #[.pointer none, .agg #[.int .u8 R.kd, v, .int .u32 R.v, .int .i64 R.k, .int .i64 R.t]] w (CallE (callN R) w) := by
  have H := hid hin
  obtain ⟨ao, c, rfl, m1, m2, _⟩ := hin.l
  clear hin m1 m2
  obtain ⟨kd, ops, vv, k, t⟩ := R
  have hn2 := two_new w (.cells #[.int .u8 kd, .slice ao ops.length c, .int .u32 vv, .int .i64 k, .int .i64 t] 31) (.cells msgZero.toArray 44)
  have N2 := hid hn2
  clear hn2
  go_enter Try.func22, Try.ntmps22
  go_wp2_with fail
  refine (dcheck_is (R := ⟨kd, ops, vv, k, t⟩) (H.out.same (((Kept.refl _ _).alloc _).alloc _))).mono ?_
  rintro e w2 ⟨rfl, hk2⟩
  obtain ⟨er, hpe⟩ : ∃ er, chk ⟨kd, ops, vv, k, t⟩ = er := ⟨_, rfl⟩
  rw [hpe]
  have HPE := hid hpe; clear hpe
  have HK2 := hid (show Kept (fun _ => False) w w2 from (((Kept.refl _ _).alloc _).alloc _).trans hk2)
  have hB := (hk2.block _ (row_lt N2.out.1) (fun h => h)).trans N2.out.1
  have hZ := (hk2.block _ (row_lt N2.out.2) (fun h => h)).trans N2.out.2
  have HZ := hid hZ
  have HBx := hid hB
  obtain ⟨b0, b1, b2, b3, b4, b5⟩ := cells5 hB
  clear hk2 hB hZ
  have HCI := hid (show callN ⟨kd, ops, vv, k, t⟩ = if er = 0 then 6 else er by unfold callN; rw [HPE.out]; by_cases h : er = 0 <;> simp [h])
  go_wp2_with fail
  go_quiet (fail)
  have HZQ := hid (show (w2.drewN nq).heap[w.heap.size + 1]? = _ from HZ.out)
  have HKQ := hid (HK2.out.trans (show Kept (fun _ => False) w2 (w2.drewN nq) from ⟨rfl, rfl, rfl, Nat.le_refl _, fun _ _ _ => rfl⟩))
  by_cases her : er = 0
  · have her' : (er != 0) = false := by simp [her]
    have HC0 := hid ((HCI.out).trans (if_pos her))
    clear her
    go_wp2_with (refine wpList_store_row rfl 44 (.tmp 4) (.tmp 31) rfl msgZero.toArray msgZero.toArray (by rfl) (by rfl) (by exact HZQ.out) rfl infoM (by simp [msgZero, Value.oneCell']) ?_; intro w3 hb3 hk3)
    refine bodyPost_ret (results_row_tmp (fn := Try.f22) rfl (by rfl) rfl hb3 Try.underlying44 rfl (by exact infoM)) rfl ⟨by rw [HC0.out] <;> rfl, HKQ.out.trans' hk3 fun g hg => .inr (by omega)⟩
  · have her' : (er != 0) = true := by simpa using her
    have HC0 := hid ((HCI.out).trans (if_neg her))
    clear her
    go_wp2_with (refine wpList_store_row rfl 44 (.tmp 4) (.tmp 27) rfl msgZero.toArray msgZero.toArray (by rfl) (by rfl) (by exact HZQ.out) rfl infoM (by simp [msgZero, Value.oneCell']) ?_; intro w3 hb3 hk3)
    refine bodyPost_ret (results_row_tmp (fn := Try.f22) rfl (by rfl) rfl hb3 Try.underlying44 rfl (by exact infoM)) rfl ⟨by rw [HC0.out] <;> rfl, HKQ.out.trans' hk3 fun g hg => .inr (by omega)⟩
set_option maxRecDepth 100000 in
set_option maxHeartbeats 4000000 in
theorem dcall_bx {w : World} {xb : Nat} {id n seq : Int} {R R0 : Rq} {v v0 : Value} {F : Nat → Prop} (hc : w.heap[xb]? = some (docRow id n seq true R0 v0)) (hin : ReqIn F w v R) :
    Calls Try.prog 22 #[.pointer (some ⟨xb, 0, none⟩), .agg #[.int .u8 R.kd, v, .int .u32 R.v, .int .i64 R.k, .int .i64 R.t]] w (CallE (callI R n true) w) := by
  have H := hid hin
  obtain ⟨ao, c, rfl, m1, m2, _⟩ := hin.l
  clear hin m1 m2
  obtain ⟨kd, ops, vv, k, t⟩ := R
  have lc := row_lt hc
  have HC := hid hc
  clear hc
  have hn2 := two_new w (.cells #[.int .u8 kd, .slice ao ops.length c, .int .u32 vv, .int .i64 k, .int .i64 t] 31) (.cells msgZero.toArray 44)
  have N2 := hid hn2
  clear hn2
  go_enter Try.func22, Try.ntmps22
  go_wp2_with fail
  refine (dcheck_is (R := ⟨kd, ops, vv, k, t⟩) (H.out.same (((Kept.refl _ _).alloc _).alloc _))).mono ?_
  rintro e w2 ⟨rfl, hk2⟩
  obtain ⟨er, hpe⟩ : ∃ er, chk ⟨kd, ops, vv, k, t⟩ = er := ⟨_, rfl⟩
  rw [hpe]
  have HPE := hid hpe; clear hpe
  have HK2 := hid (show Kept (fun _ => False) w w2 from (((Kept.refl _ _).alloc _).alloc _).trans hk2)
  have hB := (hk2.block _ (row_lt N2.out.1) (fun h => h)).trans N2.out.1
  have hZ := (hk2.block _ (row_lt N2.out.2) (fun h => h)).trans N2.out.2
  have HZ := hid hZ
  have HBx := hid hB
  obtain ⟨b0, b1, b2, b3, b4, b5⟩ := cells5 hB
  have hC := (HK2.out.block _ lc (fun h => h)).trans HC.out
  obtain ⟨e0, e1, e2, e3, e4, e5, e6, e7, e8, e9⟩ := cells9 hC
  clear hk2 hB hZ hC
  go_wp2_with fail
  by_cases k3 : kd = 3
  · by_cases hge : n ≤ t
    · have HCI := hid (show callI ⟨kd, ops, vv, k, t⟩ n true = 1 by unfold callI; rw [if_pos ⟨k3, hge⟩])
      subst k3
      go_quiet (fail)
      have HZQ := hid (show (w2.drewN nq).heap[w.heap.size + 1]? = _ from HZ.out)
      have HKQ := hid (HK2.out.trans (show Kept (fun _ => False) w2 (w2.drewN nq) from ⟨rfl, rfl, rfl, Nat.le_refl _, fun _ _ _ => rfl⟩))
      go_wp2_with (refine wpList_store_row rfl 44 (.tmp 4) (.tmp 27) rfl msgZero.toArray msgZero.toArray (by rfl) (by rfl) (by exact HZQ.out) rfl infoM (by simp [msgZero, Value.oneCell']) ?_; intro w3 hb3 hk3)
      refine bodyPost_ret (results_row_tmp (fn := Try.f22) rfl (by rfl) rfl hb3 Try.underlying44 rfl (by exact infoM)) rfl ⟨by rw [HCI.out] <;> rfl, HKQ.out.trans' hk3 fun g hg => .inr (by omega)⟩
    · have HCI := hid (callI_busy (n := n) (R := ⟨kd, ops, vv, k, t⟩) HPE.out (fun h => hge h.2))
      subst k3
      go_quiet (fail)
      have HZQ := hid (show (w2.drewN nq).heap[w.heap.size + 1]? = _ from HZ.out)
      have HKQ := hid (HK2.out.trans (show Kept (fun _ => False) w2 (w2.drewN nq) from ⟨rfl, rfl, rfl, Nat.le_refl _, fun _ _ _ => rfl⟩))
      by_cases her : er = 0
      · have her' : (er != 0) = false := by simp [her]
        have HC0 := hid ((HCI.out).trans (if_pos her))
        clear her
        go_wp2_with (refine wpList_store_row rfl 44 (.tmp 4) (.tmp 36) rfl msgZero.toArray msgZero.toArray (by rfl) (by rfl) (by exact HZQ.out) rfl infoM (by simp [msgZero, Value.oneCell']) ?_; intro w3 hb3 hk3)
        refine bodyPost_ret (results_row_tmp (fn := Try.f22) rfl (by rfl) rfl hb3 Try.underlying44 rfl (by exact infoM)) rfl ⟨by rw [HC0.out] <;> rfl, HKQ.out.trans' hk3 fun g hg => .inr (by omega)⟩
      · have her' : (er != 0) = true := by simpa using her
        have HC0 := hid ((HCI.out).trans (if_neg her))
        clear her
        go_wp2_with (refine wpList_store_row rfl 44 (.tmp 4) (.tmp 27) rfl msgZero.toArray msgZero.toArray (by rfl) (by rfl) (by exact HZQ.out) rfl infoM (by simp [msgZero, Value.oneCell']) ?_; intro w3 hb3 hk3)
        refine bodyPost_ret (results_row_tmp (fn := Try.f22) rfl (by rfl) rfl hb3 Try.underlying44 rfl (by exact infoM)) rfl ⟨by rw [HC0.out] <;> rfl, HKQ.out.trans' hk3 fun g hg => .inr (by omega)⟩
  · have k3' : (kd == 3) = false := by simpa using k3
    have HCI := hid (callI_busy (n := n) (R := ⟨kd, ops, vv, k, t⟩) HPE.out (fun h => k3 h.1))
    clear k3
    go_quiet (fail)
    have HZQ := hid (show (w2.drewN nq).heap[w.heap.size + 1]? = _ from HZ.out)
    have HKQ := hid (HK2.out.trans (show Kept (fun _ => False) w2 (w2.drewN nq) from ⟨rfl, rfl, rfl, Nat.le_refl _, fun _ _ _ => rfl⟩))
    by_cases her : er = 0
    · have her' : (er != 0) = false := by simp [her]
      have HC0 := hid ((HCI.out).trans (if_pos her))
      clear her
      go_wp2_with (refine wpList_store_row rfl 44 (.tmp 4) (.tmp 36) rfl msgZero.toArray msgZero.toArray (by rfl) (by rfl) (by exact HZQ.out) rfl infoM (by simp [msgZero, Value.oneCell']) ?_; intro w3 hb3 hk3)
      refine bodyPost_ret (results_row_tmp (fn := Try.f22) rfl (by rfl) rfl hb3 Try.underlying44 rfl (by exact infoM)) rfl ⟨by rw [HC0.out] <;> rfl, HKQ.out.trans' hk3 fun g hg => .inr (by omega)⟩
    · have her' : (er != 0) = true := by simpa using her
      have HC0 := hid ((HCI.out).trans (if_neg her))
      clear her
      go_wp2_with (refine wpList_store_row rfl 44 (.tmp 4) (.tmp 27) rfl msgZero.toArray msgZero.toArray (by rfl) (by rfl) (by exact HZQ.out) rfl infoM (by simp [msgZero, Value.oneCell']) ?_; intro w3 hb3 hk3)
      refine bodyPost_ret (results_row_tmp (fn := Try.f22) rfl (by rfl) rfl hb3 Try.underlying44 rfl (by exact infoM)) rfl ⟨by rw [HC0.out] <;> rfl, HKQ.out.trans' hk3 fun g hg => .inr (by omega)⟩
end Go.Proofs.Ytnlbdlbinoebgaa
