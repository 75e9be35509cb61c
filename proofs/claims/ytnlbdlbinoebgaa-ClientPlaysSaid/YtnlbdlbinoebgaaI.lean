/- gussetref03.Twin of a vertex. -/
import Derived.Test.YtnlbdlbinoebgaaH
import Derived.Test.YtnlbdlbinoebgaaSto
import Derived.Test.YtnlbdlbinoebgaaCopy
import Derived.Deep.CutBlock
namespace Go.Proofs.Ytnlbdlbinoebgaa
open Go.RowKit
theorem infoPr : (Try.prog.info? 105).map (fun i => (i.zero, i.size, i.bytes)) = some (some (.agg #[.int .u8 0, .int .u8 0, .int .i64 0, .string ByteArray.empty]), 4, 40) := by kernel_rfl
theorem infoHa : (Try.prog.info? 107).map (fun i => (i.zero, i.size, i.bytes)) = some (some (.agg #[.int .u32 0, .int .u8 0, .int .i64 0, .string ByteArray.empty]), 4, 40) := by kernel_rfl
theorem infoVx : (Try.prog.info? 89).map (fun i => (i.zero, i.size, i.bytes)) = some (some (.agg #[.int .u32 0, .bool false, .slice none 0 0, .slice none 0 0]), 4, 56) := by kernel_rfl
theorem infoVxs : (Try.prog.info? 89).map (·.size) = some 4 := by kernel_rfl
set_option maxRecDepth 100000 in
set_option maxHeartbeats 2000000 in
theorem twin_vx {F : Nat → Prop} {w : World} {id : Int} {th : Bool} {pa ha : Option Addr} {np pq nh hq : Nat} {pcs hcs : List Value} (hp : Lies F w 4 (.slice pa np pq) np pcs) (hh : Lies F w 4 (.slice ha nh hq) nh hcs) (bp : np * 40 ≤ 140737488351232) (bh : nh * 40 ≤ 140737488351232) :
    Calls Try.prog 28 #[.agg #[.int .u32 id, .bool th, .slice pa np pq, .slice ha nh hq]] w fun e w' => ∃ pa' pq' ha' hq', e = .returned (.agg #[.int .u32 id, .bool th, .slice pa' np pq', .slice ha' nh hq']) ∧
      Lies (fun g => g < w.heap.size) w' 4 (.slice pa' np pq') np pcs ∧ Lies (fun g => g < w.heap.size) w' 4 (.slice ha' nh hq') nh hcs ∧ Kept (fun _ => False) w w' := by
  have HP := hid hp; have HH := hid hh
  have h1p : ∀ u ∈ pcs, u.oneCell' = true := hp.src.choose_spec.choose_spec.2.2.2.2
  have h1h : ∀ u ∈ hcs, u.oneCell' = true := hh.src.choose_spec.choose_spec.2.2.2.2
  have H1P := hid h1p; have H1H := hid h1h
  clear hp hh h1p h1h
  have htw := two_new w (.cells #[.int .u32 id, .bool th, .slice pa np pq, .slice ha nh hq] 89) (.cells #[.int .u32 0, .bool false, .slice none 0 0, .slice none 0 0] 89)
  have hk1 := ((Kept.refl (fun _ => False) w).alloc (.cells #[.int .u32 id, .bool th, .slice pa np pq, .slice ha nh hq] 89)).alloc (.cells #[.int .u32 0, .bool false, .slice none 0 0, .slice none 0 0] 89)
  go_enter Try.func28, Try.ntmps28
  go_upto_region 1 with fail
  obtain ⟨w1, hw1⟩ : ∃ w1, (w.alloc (.cells #[.int .u32 id, .bool th, .slice pa np pq, .slice ha nh hq] 89)).alloc (.cells #[.int .u32 0, .bool false, .slice none 0 0, .slice none 0 0] 89) = w1 := ⟨_, rfl⟩
  obtain ⟨b, hb⟩ : ∃ b, w.heap.size = b := ⟨_, rfl⟩
  rw [hw1] at htw hk1
  rw [hb] at htw
  try rw [hw1]
  try rw [hb]
  have HB := hid hb
  have R0 := hid htw.1; have R1 := hid htw.2; have K1 := hid hk1
  have c2 : ∀ o, (w1.alloc o).cell? ⟨b, 2, none⟩ = some (.slice pa np pq) := fun o => by rw [row_cell (row_old R0.out o)]; rfl
  clear htw hk1 hw1 hb
  go_wp2_with ((with_reducible refine wpList_at 6 ?_); refine Hid.out ?_)
  refine hid ?_
  refine wpList_app rfl _ _ 86 rfl 105 (.agg #[.int .u8 0, .int .u8 0, .int .i64 0, .string ByteArray.empty]) 4 40 Try.underlying86 infoPr rfl (by decide) (.slice (some ⟨w1.heap.size, 0, none⟩) 0 0) 0 [] rfl (by exact own_empty w1 _ 4) (.slice pa np pq) rfl np pcs (by exact (HP.out.same (K1.out.alloc _)).src) (by unfold maxLen; omega) (by omega) ?_
  intro a2 q2 w2 ho2 hk2 hf2 _
  rw [Nat.zero_add] at ho2 hf2 ⊢
  have l0 := row_lt R0.out
  have l1 := row_lt R1.out
  have lb := HB.out
  have R02 := hid ((hk2.block b (row_lt (row_old R0.out _)) (by simp [Value.ownBlock]; omega)).trans (row_old R0.out _))
  have R12 := hid ((hk2.block (b + 1) (row_lt (row_old R1.out _)) (by simp [Value.ownBlock]; omega)).trans (row_old R1.out _))
  have HO2 := hid ho2
  have K2 := hid ((K1.out.alloc (.cells #[] 105)).trans' hk2 (fun i hi => by simp [Value.ownBlock] at hi; right; have := K1.out.size; omega))
  have HF2 := hid (fun g (hg : (Value.slice a2 np q2).ownBlock = some g) => show b + 2 ≤ g from (hf2 g hg).elim (fun h => by simp [Value.ownBlock] at h; omega) (fun h => by simp at h; omega))
  clear ho2 hk2 hf2
  go_wp2_with (refine wpList_store_cell rfl 86 (.tmp 7) (.tmp 6) rfl (by kernel_rfl) b 2 rfl (.slice a2 np q2) rfl rfl R02.out (by simp) ?_; intro w3 hr3 hk3; have R03 := hid hr3.out; have K23 := hid hk3.out; have c3 : ∀ o, (w3.alloc o).cell? ⟨b, 3, none⟩ = some (.slice ha nh hq) := (fun o => by rw [row_cell (row_old R03.out o)]; rfl); refine Hid.out ?_)
  refine hid ?_
  have R13 := hid ((K23.out.block (b + 1) (row_lt R12.out) (by omega)).trans R12.out)
  have K3 := hid (K2.out.trans' K23.out (fun i hi => .inr (by omega)))
  have HO3 := hid (HO2.out.kept K23.out (fun g hg e => by have := HF2.out g hg; omega))
  clear c2
  go_wp2_with ((with_reducible refine wpList_at 11 ?_); refine Hid.out ?_)
  refine hid ?_
  refine wpList_app rfl _ _ 87 rfl 107 (.agg #[.int .u32 0, .int .u8 0, .int .i64 0, .string ByteArray.empty]) 4 40 Try.underlying87 infoHa rfl (by decide) (.slice (some ⟨w3.heap.size, 0, none⟩) 0 0) 0 [] rfl (by exact own_empty w3 _ 4) (.slice ha nh hq) rfl nh hcs (by exact (HH.out.same (K3.out.alloc _)).src) (by unfold maxLen; omega) (by omega) ?_
  intro a4 q4 w4 ho4 hk4 hf4 _
  rw [Nat.zero_add] at ho4 hf4 ⊢
  have l3 := row_lt R03.out
  have l4 := row_lt R13.out
  have R04 := hid ((hk4.block b (row_lt (row_old R03.out _)) (by simp [Value.ownBlock]; omega)).trans (row_old R03.out _))
  have R14 := hid ((hk4.block (b + 1) (row_lt (row_old R13.out _)) (by simp [Value.ownBlock]; omega)).trans (row_old R13.out _))
  have HO4 := hid ho4
  have K4 := hid ((K3.out.alloc (.cells #[] 107)).trans' hk4 (fun i hi => by simp [Value.ownBlock] at hi; right; have := K3.out.size; omega))
  have HF4 := hid (fun g (hg : (Value.slice a4 nh q4).ownBlock = some g) => show b + 2 ≤ g from (hf4 g hg).elim (fun h => by simp [Value.ownBlock] at h; omega) (fun h => by simp at h; omega))
  have HO34 := hid ((HO3.out.alloc (.cells #[] 107)).kept hk4 (fun g hg e => by simp [Value.ownBlock] at e; have := HO3.out.lt hg; omega))
  clear ho4 hk4 hf4 c3
  go_wp2_with (refine wpList_store_cell rfl 87 (.tmp 12) (.tmp 11) rfl (by kernel_rfl) b 3 rfl (.slice a4 nh q4) rfl rfl R04.out (by simp) ?_; intro w5 hr5 hk5; have R05 := hid hr5.out; have K45 := hid hk5.out; refine Hid.out ?_)
  refine hid ?_
  have hr5 := R05.out
  simp only [List.setIfInBounds_toArray, List.set_cons_zero, List.set_cons_succ] at hr5
  have R15 := hid ((K45.out.block (b + 1) (row_lt R14.out) (by omega)).trans R14.out)
  have K5 := hid (K4.out.trans' K45.out (fun i hi => .inr (by omega)))
  have HP5 := hid (HO34.out.kept K45.out (fun g hg e => by have := HF2.out g hg; omega))
  have HH5 := hid (HO4.out.kept K45.out (fun g hg e => by have := HF4.out g hg; omega))
  obtain ⟨y0, y1, y2, y3, yf⟩ := cells4 hr5
  clear hr5
  go_wp2_with (refine wpList_store_row rfl 89 (.tmp 2) (.tmp 13) rfl #[.int .u32 id, .bool th, .slice a2 np q2, .slice a4 nh q4] #[.int .u32 0, .bool false, .slice none 0 0, .slice none 0 0] (by rfl) (by rfl) (by exact R15.out) rfl infoVxs (by simp [Value.oneCell']) ?_; intro w6 hb6 hk6; have HB6 := hid hb6; have K56 := hid hk6; clear hb6 hk6)
  refine bodyPost_ret (results_row (fn := Try.f28) rfl (by rfl) HB6.out Try.underlying89 rfl (by exact infoVxs)) rfl ⟨a2, q2, a4, q4, rfl, ?_, ?_, ?_⟩
  · exact ((HP5.out.lies (F := fun g => g < b + 2) H1P.out (fun g hg => by have := HF2.out g hg; omega)).kept K56.out (fun g _ e => by omega)).mono (fun g _ e => by omega)
  · exact ((HH5.out.lies (F := fun g => g < b + 2) H1H.out (fun g hg => by have := HF4.out g hg; omega)).kept K56.out (fun g _ e => by omega)).mono (fun g _ e => by omega)
  · exact K5.out.trans' K56.out (fun i e => .inr (by omega))
end Go.Proofs.Ytnlbdlbinoebgaa
