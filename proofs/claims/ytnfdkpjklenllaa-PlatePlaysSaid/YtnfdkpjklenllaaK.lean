/- awake. -/
import Derived.Test.YtnfdkpjklenllaaJ
namespace Go.Proofs.Ytnfdkpjklenllaa
open Go.RowKit

theorem byt_one (w : World) (x : Int) : Byt (w.alloc (.cells #[.int .u8 x] 5)) (.slice (some ⟨w.heap.size, 0, none⟩) 1 1) [x] :=
  ⟨_, 1, rfl, ⟨Nat.le_refl _, by unfold maxLen; omega⟩, (fun h => nomatch h), fun j y hj => by
    match j, hj with
    | 0, hj => simp at hj; subst hj; exact ⟨_, 0, rfl, row_cell (row_new w _) 0⟩⟩
theorem own_one (w : World) (x : Int) : Own (w.alloc (.cells #[.int .u8 x] 5)) 5 1 (.slice (some ⟨w.heap.size, 0, none⟩) 1 1) 1 (u8s [x]) := by
  have := Own.mk (w := w.alloc (.cells #[.int .u8 x] 5)) (size := 1) (n := 1) (cap := 1) (row_new w _) (by decide) (by unfold maxLen; omega) (by simp)
  simpa [u8s] using this

def aw1 : Plt := tick ((newP 4).add 0 [1])
def aw2 : Plt := (tick aw1).flushed
def aw3 : Plt := tick (aw2.add 0 (2 :: List.replicate 40 0))
def aw5 : Plt := tick { aw3 with armed := 1 }
def aw6 : Plt := aw5.restart [2]
theorem aw6_page : ∃ l, aw6.page 0 = 2 :: l ∧ l.length = 63 := ⟨_, rfl, rfl⟩

set_option maxRecDepth 100000 in
set_option maxHeartbeats 4000000 in
theorem awake_any (w : World) : Calls Try.prog 8 #[] w fun e w' => e = .returned (.bool true) ∧ Kept (fun _ => False) w w' := by
  go_enter Try.func8, Try.ntmps8
  go_wp2_with fail
  refine (new_ok w 4 (by decide) (by decide)).mono ?_
  rintro e w1 ⟨b, rfl, hp, hk, hb⟩
  have K1 := hid hk; have P1 := hid hp.bound; clear hp hk hb
  go_wp2_with fail
  obtain ⟨mb, ao, cap, hpl⟩ := P1.out
  refine (write_ok (hpl.kept (G := fun _ => False) ((Kept.refl _ _).alloc _) (fun _ _ _ h => h)) ⟨by decide, by decide⟩ rfl (by decide) 0 (by decide) (by decide) (byt_one w1 1) (by decide)).mono ?_
  rintro e w2 ⟨rfl, ⟨F2, hp, hf⟩, hk⟩
  have K2 := hid ((K1.out.alloc (.cells #[.int .u8 1] 5)).trans' hk (fun g hg => .inr hg.1))
  have P2 := hid (show PlAt (fun g => w.heap.size ≤ g) w2 b aw1 from hp.mono (fun g hg => by rcases hf g hg with h | h; exact h.1; have := K1.out.size; simp at h; omega))
  clear hpl hp hf hk
  rw [show (tick ((newP 4).add 0 [1])).down = 0 from rfl]
  go_wp2_with fail
  obtain ⟨mb, ao, cap, hpl⟩ := P2.out.bound
  refine (flush_ok hpl ⟨by decide, by decide⟩ rfl (by decide) rfl).mono ?_
  rintro e w3 ⟨rfl, hp, hk⟩
  have K3 := hid (K2.out.trans' hk (fun g hg => .inr hg.1))
  have P3 := hid (show PlAt (fun g => w.heap.size ≤ g) w3 b aw2 from hp.mono (fun g hg => hg.1))
  clear hpl hp hk
  go_wp2_with ((with_reducible refine wpList_at 29 ?_); refine Hid.out ?_)
  refine hid ?_
  refine wpList_guarded (by rfl) ?_
  refine wpList_app_zeros1 rfl (.tmp 28) (.const (.int .i64 40)) 23 3 rfl 5 (.int .u8 0) 1 Try.underlying23 Try.underlying3 infoU8 rfl rfl (.slice (some ⟨w3.heap.size, 0, none⟩) 1 1) 1 (u8s [2]) rfl (by exact own_one _ _) 40 rfl (by decide) (by decide) ?_
  intro a4 c4 w4 ho4 hk4 hf4
  have HO4 := hid ho4; have K4 := hid (((Kept.refl (fun _ => False) w3).alloc _).trans' hk4 (fun g hg => by simp [Value.ownBlock] at hg; exact .inr (by omega))); clear ho4 hk4 hf4
  simp only [Act.put, List.setIfInBounds_toArray, List.set_cons_zero, List.set_cons_succ]
  go_wp2_with fail
  have hbt : Byt w4 (.slice a4 41 c4) (2 :: List.replicate 40 0) := Own.byt (n := 41) (by simpa [u8s] using HO4.out)
  obtain ⟨mb, ao, cap, hpl⟩ := P3.out.bound
  refine (write_ok (hpl.kept K4.out (fun _ _ _ h => h)) ⟨by decide, by decide⟩ rfl (by decide) 0 (by decide) (by decide) hbt (by decide)).mono ?_
  rintro e w5 ⟨rfl, ⟨F5, hp, hf⟩, hk⟩
  have K5 := hid ((K3.out.trans K4.out).trans' hk (fun g hg => .inr hg.1))
  have P5 := hid (show PlAt (fun g => w.heap.size ≤ g) w5 b aw3 from hp.mono (fun g hg => by rcases hf g hg with h | h; exact h.1; have := (K3.out.trans K4.out).size; omega))
  clear hpl hp hf hk hbt
  rw [show (tick (aw2.add 0 (2 :: List.replicate 40 0))).down = 0 from rfl]
  go_wp2_with fail
  obtain ⟨mb, ao, cap, hpl⟩ := P5.out.bound
  refine (arm_ok hpl rfl 1 (by decide)).mono ?_
  rintro e w6 ⟨rfl, hp, hk⟩
  have K6 := hid (K5.out.trans' hk (fun g hg => by subst hg; exact .inr hpl.m.1))
  have P6 := hid hp
  clear hpl hp hk
  go_wp2_with fail
  refine (flush_dead P6.out ⟨by decide, by decide⟩ rfl rfl).mono ?_
  rintro e w7 ⟨rfl, hp, hk⟩
  have K7 := hid (K6.out.trans' hk (fun g hg => .inr hg.1))
  have P7 := hid (show PlAt (fun g => w.heap.size ≤ g) w7 b aw5 from hp.mono (fun g hg => hg.1))
  clear hp hk
  go_wp2_with fail
  refine (fate_any (Byt.bts (byt_one w7 2)) (by decide)).mono ?_
  rintro e w8 ⟨pa, pc, rfl, hb, hf, hk⟩
  have HB8 := hid hb; have HF8 := hid hf; have K8 := hid (((Kept.refl (fun _ => False) w7).alloc (.cells #[.int .u8 2] 5)).trans hk); clear hb hf hk
  have P8 := hid (P7.out.bound.same K8.out)
  go_wp2_with fail
  obtain ⟨mb, ao, cap, hpl⟩ := P8.out
  refine (restart_ok hpl rfl (by decide) HB8.out (by decide) (fun g hg hF => by have := HF8.out g hg; simp at this; omega) (fun g hg => by have := K8.out.size; omega)).mono ?_
  rintro e w9 ⟨rfl, hp, hk⟩
  have K9 := hid ((K7.out.trans K8.out).trans' hk (fun g hg => .inr hg.1))
  have P9 := hid (show PlAt (fun g => w.heap.size ≤ g) w9 b aw6 from hp.mono (fun g hg => hg.1))
  clear hpl hp hk
  go_wp2_with fail
  obtain ⟨mb, ao, cap, hpl⟩ := P9.out
  refine (read_ok hpl rfl (by decide) 0 (by decide) (by decide)).mono ?_
  rintro e w10 ⟨nb, rfl, hb, hle, hk⟩
  obtain ⟨l, hl, _⟩ := aw6_page
  rw [hl] at hb
  have c0 : w10.cell? ⟨nb, 0, none⟩ = some (.int .u8 2) := row_cell hb 0
  have K10 := hid (K9.out.trans hk)
  clear hb hle hk hl
  go_wp2
  go_ret
  exact ⟨rfl, K10.out⟩
end Go.Proofs.Ytnfdkpjklenllaa
