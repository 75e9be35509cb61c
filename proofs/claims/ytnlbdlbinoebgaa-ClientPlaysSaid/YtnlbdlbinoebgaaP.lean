/- Again. -/
import Derived.Test.YtnlbdlbinoebgaaO
namespace Go.Proofs.Ytnlbdlbinoebgaa
open Go.RowKit
set_option maxRecDepth 100000 in
set_option maxHeartbeats 4000000 in
theorem again_none {w : World} {cb : Nat} {id n seq : Int} (hc : w.heap[cb]? = some (cliRow id n seq none)) :
    Calls Try.prog 15 #[.pointer (some ⟨cb, 0, none⟩)] w fun e w' => e = .returned (.tuple #[.agg msgZero.toArray, .bool false]) ∧ Kept (fun _ => False) w w' := by
  have lc := row_lt hc
  obtain ⟨c0, c1, c2, c3, cf⟩ := cells4 (row_old hc (.cells msgZero.toArray 44))
  have N0 := hid (row_new w (.cells msgZero.toArray 44))
  have K0 := hid ((Kept.refl (fun _ => False) w).alloc (.cells msgZero.toArray 44))
  clear c0 c1 c2 cf hc
  unfold msgZero at c3
  go_enter Try.func15, Try.ntmps15
  go_wp2_with (refine wpList_store_row rfl 44 (.tmp 2) (.tmp 13) rfl msgZero.toArray msgZero.toArray (by rfl) (by rfl) (by exact N0.out) rfl infoM (by simp [msgZero, Value.oneCell']) ?_; intro w6 hb6 hk6; have HB6 := hid hb6; have K6 := hid hk6; clear hb6 hk6)
  refine bodyPost_ret (results_row_tmp (fn := Try.f15) rfl (by rfl) rfl HB6.out Try.underlying44 rfl (by exact infoM)) rfl ⟨rfl, K0.out.trans' K6.out (fun i e => .inr (by rw [e]; exact Nat.le_refl _))⟩
set_option maxRecDepth 100000 in
set_option maxHeartbeats 4000000 in
theorem again_nil {w : World} :
    Calls Try.prog 15 #[.pointer none] w fun e w' => e = .returned (.tuple #[.agg msgZero.toArray, .bool false]) ∧ Kept (fun _ => False) w w' := by
  have N0 := hid (row_new w (.cells msgZero.toArray 44))
  have K0 := hid ((Kept.refl (fun _ => False) w).alloc (.cells msgZero.toArray 44))
  go_enter Try.func15, Try.ntmps15
  go_wp2_with (refine wpList_store_row rfl 44 (.tmp 2) (.tmp 13) rfl msgZero.toArray msgZero.toArray (by rfl) (by rfl) (by exact N0.out) rfl infoM (by simp [msgZero, Value.oneCell']) ?_; intro w6 hb6 hk6; have HB6 := hid hb6; have K6 := hid hk6; clear hb6 hk6)
  refine bodyPost_ret (results_row_tmp (fn := Try.f15) rfl (by rfl) rfl HB6.out Try.underlying44 rfl (by exact infoM)) rfl ⟨rfl, K0.out.trans' K6.out (fun i e => .inr (by rw [e]; exact Nat.le_refl _))⟩
set_option maxRecDepth 100000 in
set_option maxHeartbeats 4000000 in
theorem again_some {w : World} {cb rb : Nat} {id n seq : Int} {R : Rq} {v : Value} {F : Nat → Prop} (hc : w.heap[cb]? = some (cliRow id n seq (some ⟨rb, 0, none⟩))) (hr : w.heap[rb]? = some (.cells #[.int .u8 R.kd, v, .int .u32 R.v, .int .i64 R.k, .int .i64 R.t] 31 (0, 0))) (hin : ReqIn F w v R)
    (h0 : 0 ≤ id) (h1 : id ≤ 3) (n1 : 1 ≤ n) (n4 : n ≤ 4) :
    Calls Try.prog 15 #[.pointer (some ⟨cb, 0, none⟩)] w fun e w' => ∃ a c, e = .returned (.tuple #[.agg (msgCells id (id % n) seq R (.slice a R.ops.length c)).toArray, .bool true]) ∧ ReqIn (fun g => g < w.heap.size) w' (.slice a R.ops.length c) R ∧ Kept (fun _ => False) w w' := by
  have lc := row_lt hc
  obtain ⟨c0, c1, c2, c3, cf⟩ := cells4 (row_old hc (.cells msgZero.toArray 44))
  have N0 := hid (row_new w (.cells msgZero.toArray 44))
  have K0 := hid ((Kept.refl (fun _ => False) w).alloc (.cells msgZero.toArray 44))
  have C0 := hid (row_old hc (.cells msgZero.toArray 44)); have Q0 := hid (row_old hr (.cells msgZero.toArray 44)); have HI := hid (hin.same K0.out)
  clear c0 c1 c2 cf hc hr hin
  unfold msgZero at c3
  go_enter Try.func15, Try.ntmps15
  go_wp2_with fail
  refine (message_any (id := id) (n := n) (seq := seq) (R := R) (by exact C0.out) (by exact Q0.out) (by exact HI.out) h0 h1 n1 n4).mono ?_
  rintro e w2 ⟨a, c, rfl, hv2, hk2⟩
  have HV2 := hid hv2; have K2 := hid (show Kept (fun _ => False) (w.alloc (.cells msgZero.toArray 44)) w2 from hk2)
  have N2 := hid ((K2.out.block _ (row_lt N0.out) (fun h => h)).trans N0.out)
  clear hv2 hk2 c3
  go_wp2_with (refine wpList_store_row rfl 44 (.tmp 2) (.tmp 15) rfl (msgCells id (id % n) seq R (.slice a R.ops.length c)).toArray msgZero.toArray (by rfl) (by rfl) (by exact N2.out) rfl infoM (by simp [msgCells, Value.oneCell']) ?_; intro w6 hb6 hk6; have HB6 := hid hb6; have K6 := hid hk6; clear hb6 hk6)
  refine bodyPost_ret (results_row_tmp (fn := Try.f15) rfl (by rfl) rfl HB6.out Try.underlying44 rfl (by exact infoM)) rfl ⟨a, c, rfl, ?_, ?_⟩
  · have hs : (w.alloc (.cells msgZero.toArray 44)).heap.size = w.heap.size + 1 := by simp
    refine ((HV2.out.mono (G := fun g => g < w.heap.size + 1) (fun g _ h => ?_)).kept (G := fun g => g = w.heap.size) K6.out (fun g _ hg => by omega)).mono (fun g _ h => by omega)
    exact Nat.lt_of_lt_of_le h (Nat.le_of_eq hs.symm)
  · exact (K0.out.trans K2.out).trans' K6.out (fun i e => .inr (by rw [e]; exact Nat.le_refl _))
end Go.Proofs.Ytnlbdlbinoebgaa
