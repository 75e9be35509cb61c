/- The document's client: DocCall, taken. -/
import Derived.Test.YtnlbdlbinoebgaaZb
namespace Go.Proofs.Ytnlbdlbinoebgaa
open Go.RowKit
def DCallX (w : World) (xb : Nat) (id n seq : Int) (R : Rq) (v : Value) (e : Ending) (w' : World) : Prop :=
  (callI R n false ≠ 0 ∧ CallE (callI R n false) w e w') ∨
  (callI R n false = 0 ∧ e = .returned (.tuple #[.agg (msgCells id (id % n) (seq + 1) R v).toArray, .int .i64 0]) ∧ w'.heap[xb]? = some (docRow id n (seq + 1) true R v) ∧ Kept (fun g => g = xb) w w')
set_option maxRecDepth 100000 in
set_option maxHeartbeats 8000000 in
theorem dcall_x {w : World} {xb : Nat} {id n seq : Int} {R R0 : Rq} {v v0 : Value} {F : Nat → Prop} (hc : w.heap[xb]? = some (docRow id n seq false R0 v0)) (hin : ReqIn F w v R) (h0 : 0 ≤ id) (h1 : id ≤ 3) (n1 : 1 ≤ n) (n4 : n ≤ 4) (q0 : 0 ≤ seq) (q1 : seq ≤ 1000) :
    Calls Try.prog 22 #[.pointer (some ⟨xb, 0, none⟩), .agg #[.int .u8 R.kd, v, .int .u32 R.v, .int .i64 R.k, .int .i64 R.t]] w (DCallX w xb id n seq R v) := by
  have H := hid hin
  obtain ⟨ao, c, rfl, m1, m2, _⟩ := hin.l
  clear hin m1 m2
  obtain ⟨kd, ops, vv, k, t⟩ := R
  have lc := row_lt hc
  have HC := hid hc
  clear hc
  have hn2 := two_new w (.cells #[.int .u8 kd, .slice ao ops.length c, .int .u32 vv, .int .i64 k, .int .i64 t] 31) (.cells msgZero.toArray 44)
  have N2 := hid hn2
  clear hn2
  go_enter Try.func22, Try.ntmps22
  go_wp2_with fail
  refine (dcheck_is (R := ⟨kd, ops, vv, k, t⟩) (H.out.same (((Kept.refl _ _).alloc _).alloc _))).mono ?_
  rintro e w2 ⟨rfl, hk2⟩
  obtain ⟨er, hpe⟩ : ∃ er, chk ⟨kd, ops, vv, k, t⟩ = er := ⟨_, rfl⟩
  rw [hpe]
  have HPE := hid hpe; clear hpe
  have HK2 := hid (show Kept (fun _ => False) w w2 from (((Kept.refl _ _).alloc _).alloc _).trans hk2)
  have hB := (hk2.block _ (row_lt N2.out.1) (fun h => h)).trans N2.out.1
  have hZ := (hk2.block _ (row_lt N2.out.2) (fun h => h)).trans N2.out.2
  have HZ := hid hZ
  have HBx := hid hB
  obtain ⟨b0, b1, b2, b3, b4, b5⟩ := cells5 hB
  have hC := (HK2.out.block _ lc (fun h => h)).trans HC.out
  have HCD := hid hC
  obtain ⟨e0, e1, e2, e3, e4, e5, e6, e7, e8, e9⟩ := cells9 hC
  clear hk2 hB hZ hC
  go_wp2_with fail
  by_cases k3 : kd = 3
  · by_cases hge : n ≤ t
    · have HCI := hid (show callI ⟨kd, ops, vv, k, t⟩ n false = 1 by unfold callI; rw [if_pos ⟨k3, hge⟩])
      subst k3
      go_quiet (fail)
      have HZQ := hid (show (w2.drewN nq).heap[w.heap.size + 1]? = _ from HZ.out)
      have HKQ := hid (HK2.out.trans (show Kept (fun _ => False) w2 (w2.drewN nq) from ⟨rfl, rfl, rfl, Nat.le_refl _, fun _ _ _ => rfl⟩))
      go_wp2_with (refine wpList_store_row rfl 44 (.tmp 4) (.tmp 27) rfl msgZero.toArray msgZero.toArray (by rfl) (by rfl) (by exact HZQ.out) rfl infoM (by simp [msgZero, Value.oneCell']) ?_; intro w3 hb3 hk3)
      refine bodyPost_ret (results_row_tmp (fn := Try.f22) rfl (by rfl) rfl hb3 Try.underlying44 rfl (by exact infoM)) rfl (.inl ⟨by rw [HCI.out]; exact by decide, by rw [HCI.out] <;> rfl, HKQ.out.trans' hk3 fun g hg => .inr (by omega)⟩)
    · have HCI := hid (callI_free (n := n) (R := ⟨kd, ops, vv, k, t⟩) HPE.out (fun h => hge h.2))
      have k3' : (kd == 3) = true := by simpa using k3
      clear k3
      go_quiet (fail)
      have HZQ := hid (show (w2.drewN nq).heap[w.heap.size + 1]? = _ from HZ.out)
      have HKQ := hid (HK2.out.trans (show Kept (fun _ => False) w2 (w2.drewN nq) from ⟨rfl, rfl, rfl, Nat.le_refl _, fun _ _ _ => rfl⟩))
      by_cases her : er = 0
      · have her' : (er != 0) = false := by simp [her]
        have HC0 := hid (HCI.out.trans her)
        clear her
        have hwr : IntKind.u32.wrap (seq + 1) = seq + 1 := by simp [IntKind.wrap, IntKind.bits, IntKind.signed]; omega
        go_wp2_with fail
        go_region
        have HD := hid (row_set (row_set (row_set (row_set (row_set (row_set (row_set (show (w2.drewN (nq + 1)).heap[xb]? = some (docRow id n seq false R0 v0) from HCD.out) 3 (.bool true)) 2 (.int .u32 (seq + 1))) 4 (.int .u8 kd)) 5 (.slice ao ops.length c)) 6 (.int .u32 vv)) 7 (.int .i64 k)) 8 (.int .i64 t))
        have hz2 := HK2.out.size
        have hzz := row_lt HZ.out
        have KD := hid ((((((((show Kept (fun g => g = xb) w2 (w2.drewN (nq + 1)) from ⟨rfl, rfl, rfl, Nat.le_refl _, fun _ _ _ => rfl⟩).setCell (p := ⟨xb, 3, none⟩) (.inl rfl) (.bool true)).setCell (p := ⟨xb, 2, none⟩) (.inl rfl) (.int .u32 (seq + 1))).setCell (p := ⟨xb, 4, none⟩) (.inl rfl) (.int .u8 kd)).setCell (p := ⟨xb, 5, none⟩) (.inl rfl) (.slice ao ops.length c)).setCell (p := ⟨xb, 6, none⟩) (.inl rfl) (.int .u32 vv)).setCell (p := ⟨xb, 7, none⟩) (.inl rfl) (.int .i64 k)).setCell (p := ⟨xb, 8, none⟩) (.inl rfl) (.int .i64 t))
        have HZ6 := hid ((KD.out.block _ hzz (by omega)).trans HZ.out)
        clear hzz
        go_wp2_with fail
        refine (docmsg_any (R := ⟨kd, ops, vv, k, t⟩) (by exact HD.out) h0 h1 n1 n4).mono ?_
        rintro e w7 ⟨rfl, hk7⟩
        have HK7 := hid hk7
        have HZ7 := hid ((hk7.block _ (row_lt HZ6.out) (fun h => h)).trans HZ6.out)
        have HD7 := hid ((hk7.block _ (row_lt HD.out) (fun h => h)).trans HD.out)
        clear hk7 e0 e1 e2 e3 e4 e5 e6 e7 e8
        go_wp2_with (refine wpList_store_row rfl 44 (.tmp 4) (.tmp 53) rfl (msgCells id (id % n) (seq + 1) ⟨kd, ops, vv, k, t⟩ (.slice ao ops.length c)).toArray msgZero.toArray (by rfl) (by rfl) (by exact HZ7.out) rfl infoM (by simp [msgCells, Value.oneCell']) ?_; intro w8 hb8 hk8)
        have HB8 := hid hb8; have HK8 := hid hk8
        clear hb8 hk8
        refine bodyPost_ret (results_row_tmp (fn := Try.f22) rfl (by rfl) rfl HB8.out Try.underlying44 rfl (by exact infoM)) rfl (.inr ⟨HC0.out, rfl, ?_, ?_⟩)
        · exact (HK8.out.block _ (row_lt HD7.out) (by omega)).trans HD7.out
        · exact (((HK2.out.mono (fun _ _ h => h.elim)).trans' KD.out (fun g hg => .inl hg)).trans' (HK7.out.mono (G := fun g => g = xb) (fun _ _ h => h.elim)) (fun g hg => .inl hg)).trans' HK8.out (fun g hg => .inr (by omega))
      · have her' : (er != 0) = true := by simpa using her
        have HER := hid her
        clear her
        go_wp2_with (refine wpList_store_row rfl 44 (.tmp 4) (.tmp 27) rfl msgZero.toArray msgZero.toArray (by rfl) (by rfl) (by exact HZQ.out) rfl infoM (by simp [msgZero, Value.oneCell']) ?_; intro w3 hb3 hk3)
        refine bodyPost_ret (results_row_tmp (fn := Try.f22) rfl (by rfl) rfl hb3 Try.underlying44 rfl (by exact infoM)) rfl (.inl ⟨by rw [HCI.out]; exact HER.out, by rw [HCI.out] <;> rfl, HKQ.out.trans' hk3 fun g hg => .inr (by omega)⟩)
  · have k3' : (kd == 3) = false := by simpa using k3
    have HCI := hid (callI_free (n := n) (R := ⟨kd, ops, vv, k, t⟩) HPE.out (fun h => k3 h.1))
    clear k3
    go_quiet (fail)
    have HZQ := hid (show (w2.drewN nq).heap[w.heap.size + 1]? = _ from HZ.out)
    have HKQ := hid (HK2.out.trans (show Kept (fun _ => False) w2 (w2.drewN nq) from ⟨rfl, rfl, rfl, Nat.le_refl _, fun _ _ _ => rfl⟩))
    by_cases her : er = 0
    · have her' : (er != 0) = false := by simp [her]
      have HC0 := hid (HCI.out.trans her)
      clear her
      have hwr : IntKind.u32.wrap (seq + 1) = seq + 1 := by simp [IntKind.wrap, IntKind.bits, IntKind.signed]; omega
      go_wp2_with fail
      go_region
      have HD := hid (row_set (row_set (row_set (row_set (row_set (row_set (row_set (show (w2.drewN (nq + 1)).heap[xb]? = some (docRow id n seq false R0 v0) from HCD.out) 3 (.bool true)) 2 (.int .u32 (seq + 1))) 4 (.int .u8 kd)) 5 (.slice ao ops.length c)) 6 (.int .u32 vv)) 7 (.int .i64 k)) 8 (.int .i64 t))
      have hz2 := HK2.out.size
      have hzz := row_lt HZ.out
      have KD := hid ((((((((show Kept (fun g => g = xb) w2 (w2.drewN (nq + 1)) from ⟨rfl, rfl, rfl, Nat.le_refl _, fun _ _ _ => rfl⟩).setCell (p := ⟨xb, 3, none⟩) (.inl rfl) (.bool true)).setCell (p := ⟨xb, 2, none⟩) (.inl rfl) (.int .u32 (seq + 1))).setCell (p := ⟨xb, 4, none⟩) (.inl rfl) (.int .u8 kd)).setCell (p := ⟨xb, 5, none⟩) (.inl rfl) (.slice ao ops.length c)).setCell (p := ⟨xb, 6, none⟩) (.inl rfl) (.int .u32 vv)).setCell (p := ⟨xb, 7, none⟩) (.inl rfl) (.int .i64 k)).setCell (p := ⟨xb, 8, none⟩) (.inl rfl) (.int .i64 t))
      have HZ6 := hid ((KD.out.block _ hzz (by omega)).trans HZ.out)
      clear hzz
      go_wp2_with fail
      refine (docmsg_any (R := ⟨kd, ops, vv, k, t⟩) (by exact HD.out) h0 h1 n1 n4).mono ?_
      rintro e w7 ⟨rfl, hk7⟩
      have HK7 := hid hk7
      have HZ7 := hid ((hk7.block _ (row_lt HZ6.out) (fun h => h)).trans HZ6.out)
      have HD7 := hid ((hk7.block _ (row_lt HD.out) (fun h => h)).trans HD.out)
      clear hk7 e0 e1 e2 e3 e4 e5 e6 e7 e8
      go_wp2_with (refine wpList_store_row rfl 44 (.tmp 4) (.tmp 53) rfl (msgCells id (id % n) (seq + 1) ⟨kd, ops, vv, k, t⟩ (.slice ao ops.length c)).toArray msgZero.toArray (by rfl) (by rfl) (by exact HZ7.out) rfl infoM (by simp [msgCells, Value.oneCell']) ?_; intro w8 hb8 hk8)
      have HB8 := hid hb8; have HK8 := hid hk8
      clear hb8 hk8
      refine bodyPost_ret (results_row_tmp (fn := Try.f22) rfl (by rfl) rfl HB8.out Try.underlying44 rfl (by exact infoM)) rfl (.inr ⟨HC0.out, rfl, ?_, ?_⟩)
      · exact (HK8.out.block _ (row_lt HD7.out) (by omega)).trans HD7.out
      · exact (((HK2.out.mono (fun _ _ h => h.elim)).trans' KD.out (fun g hg => .inl hg)).trans' (HK7.out.mono (G := fun g => g = xb) (fun _ _ h => h.elim)) (fun g hg => .inl hg)).trans' HK8.out (fun g hg => .inr (by omega))
    · have her' : (er != 0) = true := by simpa using her
      have HER := hid her
      clear her
      go_wp2_with (refine wpList_store_row rfl 44 (.tmp 4) (.tmp 27) rfl msgZero.toArray msgZero.toArray (by rfl) (by rfl) (by exact HZQ.out) rfl infoM (by simp [msgZero, Value.oneCell']) ?_; intro w3 hb3 hk3)
      refine bodyPost_ret (results_row_tmp (fn := Try.f22) rfl (by rfl) rfl hb3 Try.underlying44 rfl (by exact infoM)) rfl (.inl ⟨by rw [HCI.out]; exact HER.out, by rw [HCI.out] <;> rfl, HKQ.out.trans' hk3 fun g hg => .inr (by omega)⟩)
end Go.Proofs.Ytnlbdlbinoebgaa
