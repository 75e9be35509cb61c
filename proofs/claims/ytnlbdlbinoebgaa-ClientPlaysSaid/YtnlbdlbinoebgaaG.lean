/- awake. -/
import Derived.Test.YtnlbdlbinoebgaaF
namespace Go.Proofs.Ytnlbdlbinoebgaa
open Go.RowKit

def rq7 : Rq := ⟨2, [], 7, 0, 0⟩
theorem rq7_in (F : Nat → Prop) (w : World) : ReqIn F w (.slice none 0 0) rq7 := ⟨Lies.nil _ _ _, by simp [rq7], by simp [rq7]⟩
theorem msg_cells {w : World} {b : Nat} {id to seq : Int} {R : Rq} {v : Value} (h : w.heap[b]? = some (.cells (msgCells id to seq R v).toArray 44 (0, 0))) :
    w.cell? ⟨b, 2, none⟩ = some (.int .u8 to) ∧ w.cell? ⟨b, 8, none⟩ = some (.int .u8 id) ∧ w.cell? ⟨b, 9, none⟩ = some (.int .u32 seq) :=
  ⟨row_cell h 2, row_cell h 8, row_cell h 9⟩

set_option maxRecDepth 100000 in
set_option maxHeartbeats 8000000 in
theorem awake_any (w : World) : Calls Try.prog 6 #[] w fun e w' => e = .returned (.bool true) ∧ Kept (fun _ => False) w w' := by
  go_enter Try.func6, Try.ntmps6
  go_wp2_with fail
  refine (new_ok 3 2 _ (by decide) (by decide) (by decide) (by decide)).mono ?_; rintro e w1 ⟨rfl, rfl⟩
  have HC1 := hid (row_new w (cliRow 3 2 0 none))
  have HK1 := hid ((Kept.refl (fun _ => False) w).alloc (cliRow 3 2 0 none))
  unfold cliRow
  go_wp2_with fail
  refine (call_free (R := rq7) (F := fun _ => False) (fun er => er = 0) (fun w1 _ => check_hops w1) (by exact HC1.out) (rq7_in _ _) (by decide) (by decide) (by decide) (by decide) (by decide) (by decide)).mono ?_
  rintro e w2 (⟨er, hne, hp, _, _⟩ | ⟨rb, a, c, a2, c2, rfl, _, hcb, _, _, hle, hk2⟩)
  · rcases hp with hp | hp
    · exact absurd hp hne
    · exact absurd hp (by decide)
  · have HCB := hid hcb
    have HK2 := hid (HK1.out.trans' hk2 (fun g hg => .inr (by omega)))
    clear hcb hk2 hle
    have e1 : (3 : Int) % 2 = 1 := by decide
    have e2 : (0 : Int) + 1 = 1 := by decide
    rw [e2] at HCB
    rw [e1, e2]
    clear e1 e2
    go_wp2_with (refine wpList_store_row rfl 44 (.tmp 3) (.tmp 23) rfl (msgCells 3 1 1 rq7 (.slice a rq7.ops.length c)).toArray msgZero.toArray (by rfl) (by rfl) (by exact row_new w2 _) rfl infoM (by simp [msgCells, rq7, Value.oneCell']) ?_; intro w3 hb3 hk3; have HB3 := hid hb3; have HCB3 := hid ((hk3.block _ (Nat.lt_of_lt_of_le (row_lt HCB.out) (by simp)) (by have := row_lt HCB.out; omega)).trans (row_old HCB.out _)); have HK3 := hid ((HK2.out.alloc (.cells msgZero.toArray 44)).trans' hk3 (fun g hg => .inr (by have := HK2.out.size; omega))); clear hb3 hk3)
    refine (call_busy (R := rq7) rfl ⟨none, 0, rfl⟩ (fun w1 _ => check_hops w1) (by exact HCB3.out)).mono ?_
    rintro e w4 ⟨rfl, hk4⟩
    have HK4 := hid (HK3.out.trans hk4); have HB4 := hid ((hk4.block _ (row_lt HB3.out) (fun h => h)).trans HB3.out); have HCB4 := hid ((hk4.block _ (row_lt HCB3.out) (fun h => h)).trans HCB3.out)
    clear hk4
    go_wp2_with (refine wpList_store_row rfl 44 (.tmp 5) (.tmp 29) rfl msgZero.toArray msgZero.toArray (by rfl) (by rfl) (by exact row_new w4 _) rfl infoM (by simp [msgZero, Value.oneCell']) ?_; intro w5 hb5 hk5; have HK5 := hid ((HK4.out.alloc (.cells msgZero.toArray 44)).trans' hk5 (fun g hg => .inr (by have := HK4.out.size; omega))); have HB5 := hid ((hk5.block _ (Nat.lt_of_lt_of_le (row_lt HB4.out) (by simp)) (by have := row_lt HB4.out; omega)).trans (row_old HB4.out _)); have HCB5 := hid ((hk5.block _ (Nat.lt_of_lt_of_le (row_lt HCB4.out) (by simp)) (by have := row_lt HCB4.out; omega)).trans (row_old HCB4.out _)); clear hb5 hk5)
    refine (recv_ok (id := 3) (seq := 1) (by exact HCB5.out)).mono ?_
    rintro e w6 ⟨a6, c6, a7, c7, rfl, hcb6, hk6⟩
    have hne6 : w2.heap.size ≠ w.heap.size := by have := HK2.out.size; have := row_lt HCB.out; omega
    have HK6 := hid (HK5.out.trans' hk6 (fun g hg => .inr (by omega))); have hb6 := (hk6.block _ (row_lt HB5.out) hne6).trans HB5.out
    have HCB6 := hid (row_old hcb6 (.cells #[.int .i64 0, .int .i64 0, .slice a6 0 c6, .slice a7 0 c7] 38))
    obtain ⟨m2, m8, m9⟩ := msg_cells (row_old hb6 (.cells #[.int .i64 0, .int .i64 0, .slice a6 0 c6, .slice a7 0 c7] 38))
    clear hcb6 hk6 hb6
    go_wp2_with fail
    refine (seq_any (by exact HCB6.out)).mono ?_
    rintro e w7 ⟨rfl, rfl⟩
    go_wp2
    go_ret
    exact ⟨rfl, HK6.out.alloc _⟩
end Go.Proofs.Ytnlbdlbinoebgaa
