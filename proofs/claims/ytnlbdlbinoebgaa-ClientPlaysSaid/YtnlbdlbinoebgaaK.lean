/- gussetref09.Twin: the walk. -/
import Derived.Test.YtnlbdlbinoebgaaJ
namespace Go.Proofs.Ytnlbdlbinoebgaa
open Go.RowKit
theorem infoVa : (Try.prog.info? 75).map (fun i => (i.zero, i.size, i.bytes)) = some (some (.agg #[.int .u8 0, .int .i64 0, .string ByteArray.empty]), 3, 32) := by kernel_rfl
theorem infoNu : (Try.prog.info? 28).map (fun i => (i.zero, i.size, i.bytes)) = some (some (.int .u32 0), 1, 4) := by kernel_rfl
theorem infoWa : (Try.prog.info? 93).map (fun i => (i.zero, i.size, i.bytes)) = some (some (.agg #[.int .u32 0, .int .u8 0]), 2, 8) := by kernel_rfl
theorem infoEn : (Try.prog.info? 96).map (fun i => (i.zero, i.size, i.bytes)) = some (some (.agg #[.int .u32 0, .int .u8 0, .int .u32 0]), 3, 12) := by kernel_rfl
-- a field that is a slice: $1 the append's slot, $2 the slice's type, $3 the element's type, $4 its zero, $5 its size, $6 its bytes, $7 the fact of info
set_option maxRecDepth 100000 in
set_option maxHeartbeats 4000000 in
theorem twin_msg {F : Nat → Prop} {w : World} {m0 m1 m2 m3 m4 m5 m6 m7 m8 m9 rk rv rn rt ae ap m23 m24 m25 : Int} {ops : List O} {oa va la wa xa da na : Option Addr} {oq vn vq ln lq wn wq xq dn dq nn nq : Nat} {vc lc wc dc nc : List Value} {X : List Vx}
    (ho : ReqIn F w (.slice oa ops.length oq) ⟨rk, ops, rv, rn, rt⟩) (hv : Lies F w 3 (.slice va vn vq) vn vc) (hl : Lies F w 1 (.slice la ln lq) ln lc) (hw : Lies F w 2 (.slice wa wn wq) wn wc) (hx : VertsIn F w (.slice xa X.length xq) X) (hd : Lies F w 3 (.slice da dn dq) dn dc) (hn : Lies F w 1 (.slice na nn nq) nn nc)
    (bv : vn * 32 ≤ 140737488351232) (bl : ln * 4 ≤ 140737488351232) (bw : wn * 8 ≤ 140737488351232) (bd : dn * 12 ≤ 140737488351232) (bn : nn ≤ 140737488351232) :
    Calls Try.prog 14 #[.agg #[.int .u8 m0, .int .u8 m1, .int .u8 m2, .int .u8 m3, .int .u32 m4, .int .u32 m5, .int .u64 m6, .int .u32 m7, .int .u8 m8, .int .u32 m9, .int .u8 rk, .slice oa ops.length oq, .int .u32 rv, .int .i64 rn, .int .i64 rt, .int .i64 ae, .int .i64 ap, .slice va vn vq, .slice la ln lq, .slice wa wn wq, .slice xa X.length xq, .slice da dn dq, .slice na nn nq, .int .u64 m23, .int .u64 m24, .int .i64 m25]] w fun e w' => ∃ oa' oq' va' vq' la' lq' wa' wq' xa' xq' da' dq' na' nq',
      e = .returned (.agg #[.int .u8 m0, .int .u8 m1, .int .u8 m2, .int .u8 m3, .int .u32 m4, .int .u32 m5, .int .u64 m6, .int .u32 m7, .int .u8 m8, .int .u32 m9, .int .u8 rk, .slice oa' ops.length oq', .int .u32 rv, .int .i64 rn, .int .i64 rt, .int .i64 ae, .int .i64 ap, .slice va' vn vq', .slice la' ln lq', .slice wa' wn wq', .slice xa' X.length xq', .slice da' dn dq', .slice na' nn nq', .int .u64 m23, .int .u64 m24, .int .i64 m25]) ∧
      ReqIn (fun g => g < w.heap.size) w' (.slice oa' ops.length oq') ⟨rk, ops, rv, rn, rt⟩ ∧ Lies (fun g => g < w.heap.size) w' 3 (.slice va' vn vq') vn vc ∧ Lies (fun g => g < w.heap.size) w' 1 (.slice la' ln lq') ln lc ∧ Lies (fun g => g < w.heap.size) w' 2 (.slice wa' wn wq') wn wc ∧
      VertsIn (fun g => g < w.heap.size) w' (.slice xa' X.length xq') X ∧ Lies (fun g => g < w.heap.size) w' 3 (.slice da' dn dq') dn dc ∧ Lies (fun g => g < w.heap.size) w' 1 (.slice na' nn nq') nn nc ∧ Kept (fun _ => False) w w' := by
  have HO := hid ho; have HV := hid hv; have HL := hid hl; have HW := hid hw; have HX := hid hx; have HD := hid hd; have HN := hid hn
  have H1V := hid (show ∀ u ∈ vc, u.oneCell' = true from hv.src.choose_spec.choose_spec.2.2.2.2)
  have H1L := hid (show ∀ u ∈ lc, u.oneCell' = true from hl.src.choose_spec.choose_spec.2.2.2.2)
  have H1W := hid (show ∀ u ∈ wc, u.oneCell' = true from hw.src.choose_spec.choose_spec.2.2.2.2)
  have H1D := hid (show ∀ u ∈ dc, u.oneCell' = true from hd.src.choose_spec.choose_spec.2.2.2.2)
  clear ho hv hl hw hx hd hn
  have htw := two_new w (.cells #[.int .u8 m0, .int .u8 m1, .int .u8 m2, .int .u8 m3, .int .u32 m4, .int .u32 m5, .int .u64 m6, .int .u32 m7, .int .u8 m8, .int .u32 m9, .int .u8 rk, .slice oa ops.length oq, .int .u32 rv, .int .i64 rn, .int .i64 rt, .int .i64 ae, .int .i64 ap, .slice va vn vq, .slice la ln lq, .slice wa wn wq, .slice xa X.length xq, .slice da dn dq, .slice na nn nq, .int .u64 m23, .int .u64 m24, .int .i64 m25] 44) (.cells msgZero.toArray 44)
  have hk1 := ((Kept.refl (fun _ => False) w).alloc (.cells #[.int .u8 m0, .int .u8 m1, .int .u8 m2, .int .u8 m3, .int .u32 m4, .int .u32 m5, .int .u64 m6, .int .u32 m7, .int .u8 m8, .int .u32 m9, .int .u8 rk, .slice oa ops.length oq, .int .u32 rv, .int .i64 rn, .int .i64 rt, .int .i64 ae, .int .i64 ap, .slice va vn vq, .slice la ln lq, .slice wa wn wq, .slice xa X.length xq, .slice da dn dq, .slice na nn nq, .int .u64 m23, .int .u64 m24, .int .i64 m25] 44)).alloc (.cells msgZero.toArray 44)
  go_enter Try.func14, Try.ntmps14
  go_upto_region 1 with fail
  obtain ⟨w1, hw1⟩ : ∃ w1, (w.alloc (.cells #[.int .u8 m0, .int .u8 m1, .int .u8 m2, .int .u8 m3, .int .u32 m4, .int .u32 m5, .int .u64 m6, .int .u32 m7, .int .u8 m8, .int .u32 m9, .int .u8 rk, .slice oa ops.length oq, .int .u32 rv, .int .i64 rn, .int .i64 rt, .int .i64 ae, .int .i64 ap, .slice va vn vq, .slice la ln lq, .slice wa wn wq, .slice xa X.length xq, .slice da dn dq, .slice na nn nq, .int .u64 m23, .int .u64 m24, .int .i64 m25] 44)).alloc (.cells msgZero.toArray 44) = w1 := ⟨_, rfl⟩
  obtain ⟨b, hb⟩ : ∃ b, w.heap.size = b := ⟨_, rfl⟩
  rw [hw1] at htw hk1
  rw [hb] at htw
  unfold msgZero at hw1
  rw [hw1]
  try rw [hb]
  have HB := hid hb
  have R0 := hid htw.1; have R1 := hid htw.2; have K1 := hid hk1
  have l0 := row_lt R0.out
  have l1 := row_lt R1.out
  have c10 : w1.cell? ⟨b, 10, none⟩ = some (.int .u8 rk) := by rw [row_cell R0.out]; rfl
  have c11 : w1.cell? ⟨b, 11, none⟩ = some (.slice oa ops.length oq) := by rw [row_cell R0.out]; rfl
  have c12 : w1.cell? ⟨b, 12, none⟩ = some (.int .u32 rv) := by rw [row_cell R0.out]; rfl
  have c13 : w1.cell? ⟨b, 13, none⟩ = some (.int .i64 rn) := by rw [row_cell R0.out]; rfl
  have c14 : w1.cell? ⟨b, 14, none⟩ = some (.int .i64 rt) := by rw [row_cell R0.out]; rfl
  clear htw hk1 hw1 hb
  go_wp2_with fail
  refine (twinreq_any (R := ⟨rk, ops, rv, rn, rt⟩) (HO.out.same K1.out)).mono ?_
  rintro e w2 ⟨oa', oq', rfl, hro, hk2⟩
  have HRO := hid hro; have K12 := hid hk2
  have R02 := hid ((hk2.block b l0 id).trans R0.out); have R12 := hid ((hk2.block (b + 1) l1 id).trans R1.out)
  have K2 := hid (K1.out.trans hk2)
  clear hro hk2 c10 c11 c12 c13 c14
  simp only []
  go_wp2_with (refine wpList_store_midr rfl 31 (.tmp 9) (.tmp 8) rfl 10 #[.int .u8 rk, .slice oa' ops.length oq', .int .u32 rv, .int .i64 rn, .int .i64 rt] #[.int .u8 m0, .int .u8 m1, .int .u8 m2, .int .u8 m3, .int .u32 m4, .int .u32 m5, .int .u64 m6, .int .u32 m7, .int .u8 m8, .int .u32 m9, .int .u8 rk, .slice oa ops.length oq, .int .u32 rv, .int .i64 rn, .int .i64 rt, .int .i64 ae, .int .i64 ap, .slice va vn vq, .slice la ln lq, .slice wa wn wq, .slice xa X.length xq, .slice da dn dq, .slice na nn nq, .int .u64 m23, .int .u64 m24, .int .i64 m25] rfl rfl R02.out (by simp) infoR (by simp [Value.oneCell']) ?_; intro w3 hr3 hk3; have RX := hid hr3; have KX := hid hk3; clear hr3 hk3; refine Hid.out ?_)
  refine hid ?_
  have lb := HB.out
  have R03 := hid (show w3.heap[b]? = some (Obj.cells #[.int .u8 m0, .int .u8 m1, .int .u8 m2, .int .u8 m3, .int .u32 m4, .int .u32 m5, .int .u64 m6, .int .u32 m7, .int .u8 m8, .int .u32 m9, .int .u8 rk, .slice oa' ops.length oq', .int .u32 rv, .int .i64 rn, .int .i64 rt, .int .i64 ae, .int .i64 ap, .slice va vn vq, .slice la ln lq, .slice wa wn wq, .slice xa X.length xq, .slice da dn dq, .slice na nn nq, .int .u64 m23, .int .u64 m24, .int .i64 m25] 44 (0, 0)) from RX.out)
  have R13 := hid ((KX.out.block (b + 1) (row_lt R12.out) (by omega)).trans R12.out)
  have K13 := hid ((K12.out.mono (G := fun i => i = b) (fun _ _ h => h.elim)).trans KX.out)
  have K3 := hid (K2.out.trans' KX.out (fun i e => .inr (by omega)))
  have HO3 := hid (((show ReqIn (fun g => g < w1.heap.size) w2 (.slice oa' ops.length oq') ⟨rk, ops, rv, rn, rt⟩ from HRO.out).kept KX.out (fun g _ e => by omega)).mono (G := fun g => g < b + 2) (fun g _ e => by omega))
  clear RX KX R02 R12 K2 K12 HRO R0 R1
  have c17 : ∀ o, (w3.alloc o).cell? ⟨b, 17, none⟩ = some (.slice va vn vq) := fun o => by rw [row_cell (row_old R03.out o)]; rfl
  go_wp2_with ((with_reducible refine wpList_at 14 ?_); refine Hid.out ?_)
  refine hid ?_
  refine wpList_app rfl _ _ 35 rfl 75 (.agg #[.int .u8 0, .int .i64 0, .string ByteArray.empty]) 3 32 Try.underlying35 infoVa rfl (by decide) (.slice (some ⟨w3.heap.size, 0, none⟩) 0 0) 0 [] rfl (by exact own_empty w3 _ 3) (.slice va vn vq) rfl vn vc (by exact (HV.out.same (K3.out.alloc _)).src) (by unfold maxLen; omega) (by omega) ?_
  intro va' vq' u3 ho hk hf _
  rw [Nat.zero_add] at ho hf ⊢
  have l3 := Nat.lt_of_lt_of_le l1 K13.out.size
  have RU := hid ((hk.block b (row_lt (row_old R03.out _)) (by simp [Value.ownBlock]; omega)).trans (row_old R03.out _))
  have RV := hid ((hk.block (b + 1) (row_lt (row_old R13.out _)) (by simp [Value.ownBlock]; omega)).trans (row_old R13.out _))
  have HOU := hid ho
  have KU := hid (((Kept.refl (fun _ => False) w3).alloc (.cells #[] 75)).trans' hk (fun i hi => by simp [Value.ownBlock] at hi; right; omega))
  have HFU := hid (fun g (hg : (Value.slice va' vn vq').ownBlock = some g) => show w3.heap.size ≤ g from (hf g hg).elim (fun h => by simp [Value.ownBlock] at h; omega) (fun h => by (try simp at h); omega))
  clear ho hk hf c17
  go_wp2_with (refine wpList_store_cell rfl 35 (.tmp 16) (.tmp 14) rfl (by kernel_rfl) b 17 rfl (.slice va' vn vq') rfl rfl RU.out (by simp) ?_; intro w4 hr hk; have RX := hid hr.out; have KX := hid hk.out; clear hr hk; refine Hid.out ?_)
  refine hid ?_
  have R04 := hid (show w4.heap[b]? = some (Obj.cells #[.int .u8 m0, .int .u8 m1, .int .u8 m2, .int .u8 m3, .int .u32 m4, .int .u32 m5, .int .u64 m6, .int .u32 m7, .int .u8 m8, .int .u32 m9, .int .u8 rk, .slice oa' ops.length oq', .int .u32 rv, .int .i64 rn, .int .i64 rt, .int .i64 ae, .int .i64 ap, .slice va' vn vq', .slice la ln lq, .slice wa wn wq, .slice xa X.length xq, .slice da dn dq, .slice na nn nq, .int .u64 m23, .int .u64 m24, .int .i64 m25] 44 (0, 0)) from RX.out)
  have R14 := hid ((KX.out.block (b + 1) (row_lt RV.out) (by omega)).trans RV.out)
  have KS := hid (show Kept (fun i => i = b) w3 w4 from (KU.out.mono (fun _ _ h => h.elim)).trans KX.out)
  have K14 := hid (K13.out.trans KS.out)
  have K4 := hid (K3.out.trans' KS.out (fun i e => .inr (by omega)))
  have HO4 := hid (HO3.out.kept KS.out (fun g _ e => by omega))
  have HV4 := hid ((HOU.out.lies (F := fun g => g < b + 2) H1V.out (fun g hg => by have := HFU.out g hg; omega)).kept KX.out (fun g _ e => by omega))
  clear RU RV HOU KU HFU RX KX KS R03 R13 K3 K13 HO3
  have c18 : ∀ o, (w4.alloc o).cell? ⟨b, 18, none⟩ = some (.slice la ln lq) := fun o => by rw [row_cell (row_old R04.out o)]; rfl
  go_wp2_with ((with_reducible refine wpList_at 21 ?_); refine Hid.out ?_)
  refine hid ?_
  refine wpList_app rfl _ _ 36 rfl 28 (.int .u32 0) 1 4 Try.underlying36 infoNu rfl (by decide) (.slice (some ⟨w4.heap.size, 0, none⟩) 0 0) 0 [] rfl (by exact own_empty w4 _ 1) (.slice la ln lq) rfl ln lc (by exact (HL.out.same (K4.out.alloc _)).src) (by unfold maxLen; omega) (by omega) ?_
  intro la' lq' u4 ho hk hf _
  rw [Nat.zero_add] at ho hf ⊢
  have l4 := Nat.lt_of_lt_of_le l1 K14.out.size
  have RU := hid ((hk.block b (row_lt (row_old R04.out _)) (by simp [Value.ownBlock]; omega)).trans (row_old R04.out _))
  have RV := hid ((hk.block (b + 1) (row_lt (row_old R14.out _)) (by simp [Value.ownBlock]; omega)).trans (row_old R14.out _))
  have HOU := hid ho
  have KU := hid (((Kept.refl (fun _ => False) w4).alloc (.cells #[] 28)).trans' hk (fun i hi => by simp [Value.ownBlock] at hi; right; omega))
  have HFU := hid (fun g (hg : (Value.slice la' ln lq').ownBlock = some g) => show w4.heap.size ≤ g from (hf g hg).elim (fun h => by simp [Value.ownBlock] at h; omega) (fun h => by (try simp at h); omega))
  clear ho hk hf c18
  go_wp2_with (refine wpList_store_cell rfl 36 (.tmp 23) (.tmp 21) rfl (by kernel_rfl) b 18 rfl (.slice la' ln lq') rfl rfl RU.out (by simp) ?_; intro w5 hr hk; have RX := hid hr.out; have KX := hid hk.out; clear hr hk; refine Hid.out ?_)
  refine hid ?_
  have R05 := hid (show w5.heap[b]? = some (Obj.cells #[.int .u8 m0, .int .u8 m1, .int .u8 m2, .int .u8 m3, .int .u32 m4, .int .u32 m5, .int .u64 m6, .int .u32 m7, .int .u8 m8, .int .u32 m9, .int .u8 rk, .slice oa' ops.length oq', .int .u32 rv, .int .i64 rn, .int .i64 rt, .int .i64 ae, .int .i64 ap, .slice va' vn vq', .slice la' ln lq', .slice wa wn wq, .slice xa X.length xq, .slice da dn dq, .slice na nn nq, .int .u64 m23, .int .u64 m24, .int .i64 m25] 44 (0, 0)) from RX.out)
  have R15 := hid ((KX.out.block (b + 1) (row_lt RV.out) (by omega)).trans RV.out)
  have KS := hid (show Kept (fun i => i = b) w4 w5 from (KU.out.mono (fun _ _ h => h.elim)).trans KX.out)
  have K15 := hid (K14.out.trans KS.out)
  have K5 := hid (K4.out.trans' KS.out (fun i e => .inr (by omega)))
  have HO5 := hid (HO4.out.kept KS.out (fun g _ e => by omega))
  have HV5 := hid (HV4.out.kept KS.out (fun g _ e => by omega))
  have HL5 := hid ((HOU.out.lies (F := fun g => g < b + 2) H1L.out (fun g hg => by have := HFU.out g hg; omega)).kept KX.out (fun g _ e => by omega))
  clear RU RV HOU KU HFU RX KX KS R04 R14 K4 K14 HO4 HV4
  have c19 : ∀ o, (w5.alloc o).cell? ⟨b, 19, none⟩ = some (.slice wa wn wq) := fun o => by rw [row_cell (row_old R05.out o)]; rfl
  go_wp2_with ((with_reducible refine wpList_at 27 ?_); refine Hid.out ?_)
  refine hid ?_
  refine wpList_app rfl _ _ 39 rfl 93 (.agg #[.int .u32 0, .int .u8 0]) 2 8 Try.underlying39 infoWa rfl (by decide) (.slice (some ⟨w5.heap.size, 0, none⟩) 0 0) 0 [] rfl (by exact own_empty w5 _ 2) (.slice wa wn wq) rfl wn wc (by exact (HW.out.same (K5.out.alloc _)).src) (by unfold maxLen; omega) (by omega) ?_
  intro wa' wq' u5 ho hk hf _
  rw [Nat.zero_add] at ho hf ⊢
  have l5 := Nat.lt_of_lt_of_le l1 K15.out.size
  have RU := hid ((hk.block b (row_lt (row_old R05.out _)) (by simp [Value.ownBlock]; omega)).trans (row_old R05.out _))
  have RV := hid ((hk.block (b + 1) (row_lt (row_old R15.out _)) (by simp [Value.ownBlock]; omega)).trans (row_old R15.out _))
  have HOU := hid ho
  have KU := hid (((Kept.refl (fun _ => False) w5).alloc (.cells #[] 93)).trans' hk (fun i hi => by simp [Value.ownBlock] at hi; right; omega))
  have HFU := hid (fun g (hg : (Value.slice wa' wn wq').ownBlock = some g) => show w5.heap.size ≤ g from (hf g hg).elim (fun h => by simp [Value.ownBlock] at h; omega) (fun h => by (try simp at h); omega))
  clear ho hk hf c19
  go_wp2_with (refine wpList_store_cell rfl 39 (.tmp 28) (.tmp 27) rfl (by kernel_rfl) b 19 rfl (.slice wa' wn wq') rfl rfl RU.out (by simp) ?_; intro w6 hr hk; have RX := hid hr.out; have KX := hid hk.out; clear hr hk; refine Hid.out ?_)
  refine hid ?_
  have R06 := hid (show w6.heap[b]? = some (Obj.cells #[.int .u8 m0, .int .u8 m1, .int .u8 m2, .int .u8 m3, .int .u32 m4, .int .u32 m5, .int .u64 m6, .int .u32 m7, .int .u8 m8, .int .u32 m9, .int .u8 rk, .slice oa' ops.length oq', .int .u32 rv, .int .i64 rn, .int .i64 rt, .int .i64 ae, .int .i64 ap, .slice va' vn vq', .slice la' ln lq', .slice wa' wn wq', .slice xa X.length xq, .slice da dn dq, .slice na nn nq, .int .u64 m23, .int .u64 m24, .int .i64 m25] 44 (0, 0)) from RX.out)
  have R16 := hid ((KX.out.block (b + 1) (row_lt RV.out) (by omega)).trans RV.out)
  have KS := hid (show Kept (fun i => i = b) w5 w6 from (KU.out.mono (fun _ _ h => h.elim)).trans KX.out)
  have K16 := hid (K15.out.trans KS.out)
  have K6 := hid (K5.out.trans' KS.out (fun i e => .inr (by omega)))
  have HO6 := hid (HO5.out.kept KS.out (fun g _ e => by omega))
  have HV6 := hid (HV5.out.kept KS.out (fun g _ e => by omega))
  have HL6 := hid (HL5.out.kept KS.out (fun g _ e => by omega))
  have HW6 := hid ((HOU.out.lies (F := fun g => g < b + 2) H1W.out (fun g hg => by have := HFU.out g hg; omega)).kept KX.out (fun g _ e => by omega))
  clear RU RV HOU KU HFU RX KX KS R05 R15 K5 K15 HO5 HV5 HL5
  have c21 : ∀ o, (w6.alloc o).cell? ⟨b, 21, none⟩ = some (.slice da dn dq) := fun o => by rw [row_cell (row_old R06.out o)]; rfl
  go_wp2_with ((with_reducible refine wpList_at 32 ?_); refine Hid.out ?_)
  refine hid ?_
  refine wpList_app rfl _ _ 41 rfl 96 (.agg #[.int .u32 0, .int .u8 0, .int .u32 0]) 3 12 Try.underlying41 infoEn rfl (by decide) (.slice (some ⟨w6.heap.size, 0, none⟩) 0 0) 0 [] rfl (by exact own_empty w6 _ 3) (.slice da dn dq) rfl dn dc (by exact (HD.out.same (K6.out.alloc _)).src) (by unfold maxLen; omega) (by omega) ?_
  intro da' dq' u6 ho hk hf _
  rw [Nat.zero_add] at ho hf ⊢
  have l6 := Nat.lt_of_lt_of_le l1 K16.out.size
  have RU := hid ((hk.block b (row_lt (row_old R06.out _)) (by simp [Value.ownBlock]; omega)).trans (row_old R06.out _))
  have RV := hid ((hk.block (b + 1) (row_lt (row_old R16.out _)) (by simp [Value.ownBlock]; omega)).trans (row_old R16.out _))
  have HOU := hid ho
  have KU := hid (((Kept.refl (fun _ => False) w6).alloc (.cells #[] 96)).trans' hk (fun i hi => by simp [Value.ownBlock] at hi; right; omega))
  have HFU := hid (fun g (hg : (Value.slice da' dn dq').ownBlock = some g) => show w6.heap.size ≤ g from (hf g hg).elim (fun h => by simp [Value.ownBlock] at h; omega) (fun h => by (try simp at h); omega))
  clear ho hk hf c21
  go_wp2_with (refine wpList_store_cell rfl 41 (.tmp 33) (.tmp 32) rfl (by kernel_rfl) b 21 rfl (.slice da' dn dq') rfl rfl RU.out (by simp) ?_; intro w7 hr hk; have RX := hid hr.out; have KX := hid hk.out; clear hr hk; refine Hid.out ?_)
  refine hid ?_
  have R07 := hid (show w7.heap[b]? = some (Obj.cells #[.int .u8 m0, .int .u8 m1, .int .u8 m2, .int .u8 m3, .int .u32 m4, .int .u32 m5, .int .u64 m6, .int .u32 m7, .int .u8 m8, .int .u32 m9, .int .u8 rk, .slice oa' ops.length oq', .int .u32 rv, .int .i64 rn, .int .i64 rt, .int .i64 ae, .int .i64 ap, .slice va' vn vq', .slice la' ln lq', .slice wa' wn wq', .slice xa X.length xq, .slice da' dn dq', .slice na nn nq, .int .u64 m23, .int .u64 m24, .int .i64 m25] 44 (0, 0)) from RX.out)
  have R17 := hid ((KX.out.block (b + 1) (row_lt RV.out) (by omega)).trans RV.out)
  have KS := hid (show Kept (fun i => i = b) w6 w7 from (KU.out.mono (fun _ _ h => h.elim)).trans KX.out)
  have K17 := hid (K16.out.trans KS.out)
  have K7 := hid (K6.out.trans' KS.out (fun i e => .inr (by omega)))
  have HO7 := hid (HO6.out.kept KS.out (fun g _ e => by omega))
  have HV7 := hid (HV6.out.kept KS.out (fun g _ e => by omega))
  have HL7 := hid (HL6.out.kept KS.out (fun g _ e => by omega))
  have HW7 := hid (HW6.out.kept KS.out (fun g _ e => by omega))
  have HD7 := hid ((HOU.out.lies (F := fun g => g < b + 2) H1D.out (fun g hg => by have := HFU.out g hg; omega)).kept KX.out (fun g _ e => by omega))
  clear RU RV HOU KU HFU RX KX KS R06 R16 K6 K16 HO6 HV6 HL6 HW6

  have c22 : w7.cell? ⟨b, 22, none⟩ = some (.slice na nn nq) := by rw [row_cell R07.out]; rfl
  go_wp2_with fail
  refine (twin_by (HN.out.same K7.out) bn).mono ?_
  rintro e w8 ⟨na', nq', rfl, hnn, hk8⟩
  have HN8 := hid hnn; have K78 := hid hk8
  have R08 := hid ((hk8.block b (row_lt R07.out) id).trans R07.out); have R18 := hid ((hk8.block (b + 1) (row_lt R17.out) id).trans R17.out)
  have K8 := hid (K7.out.trans hk8)
  have l7 := Nat.lt_of_lt_of_le l1 K17.out.size
  clear hnn hk8 c22
  go_wp2_with (refine wpList_store_cell rfl 42 (.tmp 37) (.tmp 36) rfl (by kernel_rfl) b 22 rfl (.slice na' nn nq') rfl rfl R08.out (by simp) ?_; intro w9 hr hk; have RX := hid hr.out; have KX := hid hk.out; clear hr hk; refine Hid.out ?_)
  refine hid ?_
  have R09 := hid (show w9.heap[b]? = some (Obj.cells #[.int .u8 m0, .int .u8 m1, .int .u8 m2, .int .u8 m3, .int .u32 m4, .int .u32 m5, .int .u64 m6, .int .u32 m7, .int .u8 m8, .int .u32 m9, .int .u8 rk, .slice oa' ops.length oq', .int .u32 rv, .int .i64 rn, .int .i64 rt, .int .i64 ae, .int .i64 ap, .slice va' vn vq', .slice la' ln lq', .slice wa' wn wq', .slice xa X.length xq, .slice da' dn dq', .slice na' nn nq', .int .u64 m23, .int .u64 m24, .int .i64 m25] 44 (0, 0)) from RX.out)
  have R19 := hid ((KX.out.block (b + 1) (row_lt R18.out) (by omega)).trans R18.out)
  have KS := hid (show Kept (fun i => i = b) w7 w9 from (K78.out.mono (fun _ _ h => h.elim)).trans KX.out)
  have K9 := hid (K8.out.trans' KX.out (fun i e => .inr (by omega)))
  have HO9 := hid (HO7.out.kept KS.out (fun g _ e => by omega)); have HV9 := hid (HV7.out.kept KS.out (fun g _ e => by omega)); have HL9 := hid (HL7.out.kept KS.out (fun g _ e => by omega)); have HW9 := hid (HW7.out.kept KS.out (fun g _ e => by omega)); have HD9 := hid (HD7.out.kept KS.out (fun g _ e => by omega))
  have HN9 := hid ((HN8.out.mono (G := fun g => g < b + 2) (fun g _ e => by omega)).kept KX.out (fun g _ e => by omega))
  have HX9 := hid (HX.out.same K9.out)
  have l9 : b + 1 < w9.heap.size := row_lt R19.out
  have c20 : w9.cell? ⟨b, 20, none⟩ = some (.slice xa X.length xq) := by rw [row_cell R09.out]; rfl
  have hxl : X.length ≤ 2513169434916 := by have := HX9.out.b; omega
  clear RX KX KS R08 R18 R07 R17 K7 K17 K8 K78 HO7 HV7 HL7 HW7 HD7 HN8
  go_wp2_with fail
  go_loopw [3, 41] (fun o i wr => ∃ (k : Nat) (a : Option Addr) (q : Nat) (P : List (Value × Value)), k ≤ X.length ∧ i = .int .i64 k ∧ o = .slice a k q ∧ P.length = k ∧ Own wr 89 4 (.slice a k q) k (flatx (X.take k) P) ∧ (∀ g, (Value.slice a k q).ownBlock = some g → w9.heap.size ≤ g) ∧
      (∀ (i : Nat) x p, X[i]? = some x → P[i]? = some p → VxIn (fun g => g < b + 2 ∨ (Value.slice a k q).ownBlock = some g) wr x p) ∧ Kept (fun _ => False) w9 wr) (fun _ i _ => X.length - (RowKit.intOf i).toNat)
  case atStart => exact ⟨0, none, 0, [], Nat.zero_le _, rfl, rfl, rfl, Own.nil _ _ _, fun g hg => by simp [Value.ownBlock] at hg, fun i x p _ hp => by simp at hp, Kept.refl _ _⟩
  case round =>
    rename World => wr
    obtain ⟨k, a, q, P, hk, rfl, rfl, hPl, hown, hbl, hin, hkp⟩ := hrel
    have HPL := hid hPl; have HOW := hid hown; have HBL := hid hbl; have HIN := hid hin; have KR := hid hkp
    clear hPl hown hbl hin hkp
    by_cases hlt : k < X.length
    · have hltI : (k : Int) < (X.length : Int) := by omega
      obtain ⟨P0, hP0, hl0, hin0⟩ := (HX9.out.same KR.out).ex
      obtain ⟨x, hxk⟩ : ∃ x, X[k]? = some x := ⟨_, List.getElem?_eq_getElem hlt⟩
      obtain ⟨⟨pv, hv⟩, hpk⟩ : ∃ p, P0[k]? = some p := ⟨_, List.getElem?_eq_getElem (by omega)⟩
      have hvx := hin0 k x (pv, hv) hxk hpk
      obtain ⟨pa, pq, ep⟩ := hvx.lp.isSlice
      obtain ⟨ha, hq, eh⟩ := hvx.lh.isSlice
      simp only at ep eh
      subst ep eh
      obtain ⟨gx, ox, q', ex, _, hcap, _, _, hcx⟩ := hl0.cell (by omega)
      simp only [Value.slice.injEq] at ex
      obtain ⟨rfl, _, rfl⟩ := ex
      have e0 := hcx (k * 4 + 0) _ ((flatx_at hxk hpk (by decide)).trans rfl)
      have e1 := hcx (k * 4 + 1) _ ((flatx_at hxk hpk (by decide)).trans rfl)
      have e2 := hcx (k * 4 + 2) _ ((flatx_at hxk hpk (by decide)).trans rfl)
      have e3 := hcx (k * 4 + 3) _ ((flatx_at hxk hpk (by decide)).trans rfl)
      simp only [← Nat.add_assoc, Nat.add_zero] at e0 e1 e2 e3
      unfold maxLen at hcap
      have HVX := hid hvx; have HXK := hid hxk
      have HTK := hid (show X.take (k + 1) = X.take k ++ [x] by rw [List.take_add_one, hxk]; rfl)
      clear hP0 hl0 hin0 hpk hvx hcx hxk
      obtain ⟨xid, xth, np, pcs, nh, hcs⟩ := x
      simp only at e0 e1 e2 e3 HVX
      go_wp2_with (first | (refine wpList_store_row rfl 89 (.tmp 5) (.tmp 44) rfl #[.int .u32 xid, .bool xth, .slice pa np pq, .slice ha nh hq] #[.int .u32 0, .bool false, .slice none 0 0, .slice none 0 0] (by rfl) (by rfl) (by exact row_new _ _) rfl infoVxs (by simp [Value.oneCell']) ?_; intro wA hb3 hk3; obtain ⟨y0, y1, y2, y3, y4⟩ := cells4 hb3; have KA := hid (((Kept.refl (fun _ => False) wr).alloc (.cells #[.int .u32 0, .bool false, .slice none 0 0, .slice none 0 0] 89)).trans' hk3 (fun i e => .inr (by rw [e]; exact Nat.le_refl _))); clear hb3 hk3))
      clear e0 e1 e2 e3
      refine (twin_vx (HVX.out.lp.same KA.out) (HVX.out.lh.same KA.out) HVX.out.bp HVX.out.bh).mono ?_
      rintro e wB ⟨pa', pq', ha', hq', rfl, hp', hh', hkB⟩
      have HPB := hid hp'; have HHB := hid hh'; have KB := hid (KA.out.trans hkB)
      have KWB := hid (KR.out.trans KB.out)
      have HOWB := hid (HOW.out.kept KB.out (fun _ _ => id))
      have SA := hid KA.out.size
      clear hp' hh' hkB y0 y1 y2 y3 y4 KA
      go_wp2_with ((with_reducible refine wpList_at 49 ?_); refine Hid.out ?_)
      refine hid ?_
      refine wpList_app rfl _ _ 40 rfl 89 (.agg #[.int .u32 0, .bool false, .slice none 0 0, .slice none 0 0]) 4 56 Try.underlying40 infoVx rfl (by decide) (.slice a k q) k (flatx (X.take k) P) rfl (by exact HOWB.out.alloc _) (.slice (some ⟨wB.heap.size, 0, none⟩) 1 1) rfl 1 (vxC ⟨xid, xth, np, pcs, nh, hcs⟩ (.slice pa' np pq', .slice ha' nh hq')) (by exact src_row rfl (fun j u hu => by rw [row_cell (row_new wB _)]; simpa [vxC] using hu) (by simp [vxC, Value.oneCell'])) (by unfold maxLen; omega) (by omega) ?_
      intro a' q' wC ho hk hf _
      have HOC := hid ho; have KBC := hid hk; have HFC := hid hf
      have SB := hid KWB.out.size
      have hbw : ∀ g, (Value.slice a k q).ownBlock = some g → g < wr.heap.size := fun g hg => HOW.out.lt hg
      have HBW := hid hbw
      have hsr := KR.out.size
      have HINC := hid (show ∀ (i : Nat) x p, X[i]? = some x → (P ++ [(Value.slice pa' np pq', Value.slice ha' nh hq')])[i]? = some p → VxIn (fun g => g < b + 2 ∨ (Value.slice a' (k + 1) q').ownBlock = some g) wC x p from fun i x p hx hp => by
        have hBC : wB.heap.size ≤ (wB.alloc (.cells #[.int .u32 xid, .bool xth, .slice pa' np pq', .slice ha' nh hq'] 89)).heap.size := by simp
        have key : ∀ {x p} (G : Nat → Prop), (∀ g, G g ↔ g < b + 2 ∨ (Value.slice a k q).ownBlock = some g) → VxIn G wB x p → VxIn (fun g => g < b + 2 ∨ (Value.slice a' (k + 1) q').ownBlock = some g) wC x p := fun {x p} G hG h => by
          have h1 := (h.kept ((Kept.refl (fun _ => False) wB).alloc (.cells #[.int .u32 xid, .bool xth, .slice pa' np pq', .slice ha' nh hq'] 89)) (fun _ _ h => h.elim))
          have h0 := h.mono (G := fun g => g < b + 2 ∨ (Value.slice a k q).ownBlock = some g ∨ (Value.slice a' (k + 1) q').ownBlock = some g) (fun g hg e => (hG g).2 (by
            rcases e with e | e | e
            · exact .inl e
            · exact .inr e
            · rcases HFC.out g e with e2 | e2
              · exact .inr e2
              · exfalso; simp at e2; omega))
          exact ((h0.kept ((Kept.refl (fun _ => False) wB).alloc (.cells #[.int .u32 xid, .bool xth, .slice pa' np pq', .slice ha' nh hq'] 89)) (fun _ _ h => h.elim)).kept KBC.out (fun g _ e => .inr (.inl e))).mono (fun g _ e => e.elim .inl (fun e => .inr (.inr e)))
        by_cases hik : i < k
        · rw [List.getElem?_append_left (by rw [HPL.out]; exact hik)] at hp
          exact key _ (fun _ => Iff.rfl) ((HIN.out i x p hx hp).kept KB.out (fun _ _ h => h.elim))
        · have hpl : (P ++ [(Value.slice pa' np pq', Value.slice ha' nh hq')]).length = k + 1 := by rw [List.length_append, HPL.out]; rfl
          have hil := (List.getElem?_eq_some_iff.1 hp).1
          have hik2 : i = k := by omega
          subst hik2
          rw [List.getElem?_append_right (by rw [HPL.out]; exact Nat.le_refl _), HPL.out, Nat.sub_self] at hp
          rw [HXK.out] at hx
          simp only [List.getElem?_cons_zero, Option.some.injEq] at hp hx
          subst hp hx
          refine key _ (fun _ => Iff.rfl) (⟨HPB.out.mono (fun g _ e => ?_), HHB.out.mono (fun g _ e => ?_), HVX.out.bp, HVX.out.bh⟩)
          · have := SA.out; rcases e with e | e
            · omega
            · have := HBW.out g e; omega
          · have := SA.out; rcases e with e | e
            · omega
            · have := HBW.out g e; omega)
      have HFL := hid (show flatx (X.take (k + 1)) (P ++ [(Value.slice pa' np pq', Value.slice ha' nh hq')]) = flatx (X.take k) P ++ vxC ⟨xid, xth, np, pcs, nh, hcs⟩ (.slice pa' np pq', .slice ha' nh hq') by rw [HTK.out]; exact flatx_snoc (by rw [HPL.out, List.length_take]; omega) _ _)
      have KC := hid (show Kept (fun _ => False) w9 wC from (KWB.out.alloc _).trans' KBC.out (fun i hi => .inr (HBL.out i hi)))
      have HBC := hid (show ∀ g, (Value.slice a' (k + 1) q').ownBlock = some g → w9.heap.size ≤ g from fun g hg => (HFC.out g hg).elim (fun h => HBL.out g h) (fun h => by have := SB.out; (try simp at h); omega))
      clear ho hk hf hbw
      go_wp2
      go_roundw
      case rel => exact ⟨k + 1, a', q', P ++ [(Value.slice pa' np pq', Value.slice ha' nh hq')], by omega, by go_num, rfl, by rw [List.length_append, HPL.out]; rfl, by rw [HFL.out]; exact HOC.out, HBC.out, HINC.out, KC.out⟩
      case measure => (simp only [RowKit.intOf]; omega)
    · obtain rfl : k = X.length := by omega
      have R0r := hid ((KR.out.block b (row_lt R09.out) id).trans R09.out); have R1r := hid ((KR.out.block (b + 1) l9 id).trans R19.out)
      have htk : X.take X.length = X := List.take_length
      rw [htk] at HOW
      have HVO := hid (show VertsIn (fun g => g < b + 2) wr (.slice a X.length q) X from ⟨⟨P, HPL.out, HOW.out.lies (fun u hu => by
        unfold flatx at hu
        obtain ⟨e, he, hu⟩ := List.mem_flatMap.1 hu
        obtain ⟨i, hi⟩ := List.getElem?_of_mem he
        obtain ⟨h1, h2⟩ := List.getElem?_zip_eq_some.1 hi
        have h3 := HIN.out i e.1 e.2 h1 h2
        simp [vxC] at hu
        rcases hu with rfl | rfl | rfl | rfl
        · rfl
        · rfl
        · exact h3.lp.one
        · exact h3.lh.one) (fun g hg => by have := HBL.out g hg; omega), fun i x p hx hp => (HIN.out i x p hx hp).mono (fun g _ e => .inl e)⟩, HX9.out.b⟩)
      clear HOW HIN htk
      go_wp2_with (first
        | (refine wpList_store_cell rfl 40 (.tmp 52) (.tmp 51) rfl (by kernel_rfl) b 20 rfl (.slice a X.length q) rfl rfl R0r.out (by simp) ?_; intro wD hr hk; have RX := hid hr.out; have KX := hid hk.out; clear hr hk; have R0D := hid (show wD.heap[b]? = some (Obj.cells #[.int .u8 m0, .int .u8 m1, .int .u8 m2, .int .u8 m3, .int .u32 m4, .int .u32 m5, .int .u64 m6, .int .u32 m7, .int .u8 m8, .int .u32 m9, .int .u8 rk, .slice oa' ops.length oq', .int .u32 rv, .int .i64 rn, .int .i64 rt, .int .i64 ae, .int .i64 ap, .slice va' vn vq', .slice la' ln lq', .slice wa' wn wq', .slice a X.length q, .slice da' dn dq', .slice na' nn nq', .int .u64 m23, .int .u64 m24, .int .i64 m25] 44 (0, 0)) from RX.out); have R1D := hid ((KX.out.block (b + 1) (row_lt R1r.out) (by omega)).trans R1r.out))
        | (refine wpList_load_rowc rfl 44 (.tmp 1) rfl _ rfl R0D.out Try.underlying44 rfl infoM ?_)
        | (refine wpList_store_row rfl 44 (.tmp 2) (.tmp 53) rfl #[.int .u8 m0, .int .u8 m1, .int .u8 m2, .int .u8 m3, .int .u32 m4, .int .u32 m5, .int .u64 m6, .int .u32 m7, .int .u8 m8, .int .u32 m9, .int .u8 rk, .slice oa' ops.length oq', .int .u32 rv, .int .i64 rn, .int .i64 rt, .int .i64 ae, .int .i64 ap, .slice va' vn vq', .slice la' ln lq', .slice wa' wn wq', .slice a X.length q, .slice da' dn dq', .slice na' nn nq', .int .u64 m23, .int .u64 m24, .int .i64 m25] msgZero.toArray (by rfl) (by rfl) (by exact R1D.out) rfl infoM (by simp [Value.oneCell']) ?_; intro wE hb6 hk6; have HBE := hid hb6; have KDE := hid hk6; clear hb6 hk6))
      have KRE := hid (show Kept (fun i => i = b ∨ i = b + 1) w9 wE from (KR.out.mono (fun _ _ h => h.elim)).trans ((KX.out.mono (fun _ _ h => .inl h)).trans (KDE.out.mono (fun _ _ h => .inr h))))
      refine bodyPost_ret (results_row (fn := Try.f14) rfl (by rfl) HBE.out Try.underlying44 rfl (by exact infoM)) rfl ⟨oa', oq', va', vq', la', lq', wa', wq', a, q, da', dq', na', nq', rfl, ?_, ?_, ?_, ?_, ?_, ?_, ?_, ?_⟩
      · exact (HO9.out.kept KRE.out (fun g _ e => by omega)).mono (fun g _ e => by omega)
      · exact (HV9.out.kept KRE.out (fun g _ e => by omega)).mono (fun g _ e => by omega)
      · exact (HL9.out.kept KRE.out (fun g _ e => by omega)).mono (fun g _ e => by omega)
      · exact (HW9.out.kept KRE.out (fun g _ e => by omega)).mono (fun g _ e => by omega)
      · exact ((HVO.out.kept (KX.out.mono (G := fun i => i = b ∨ i = b + 1) (fun _ _ h => .inl h)) (fun g _ e => by omega)).kept KDE.out (fun g _ e => by omega)).mono (fun g _ e => by omega)
      · exact (HD9.out.kept KRE.out (fun g _ e => by omega)).mono (fun g _ e => by omega)
      · exact (HN9.out.kept KRE.out (fun g _ e => by omega)).mono (fun g _ e => by omega)
      · exact K9.out.trans' KRE.out (fun i e => .inr (by omega))
end Go.Proofs.Ytnlbdlbinoebgaa
