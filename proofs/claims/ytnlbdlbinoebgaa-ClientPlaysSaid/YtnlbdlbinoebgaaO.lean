/- gussetref09.Same. -/
import Derived.Test.YtnlbdlbinoebgaaN
namespace Go.Proofs.Ytnlbdlbinoebgaa
open Go.RowKit
def ubC (x : Int) : List Value := [.int .u8 x]
set_option maxRecDepth 100000 in
set_option maxHeartbeats 1000000 in
theorem same_by {F F' : Nat → Prop} {w : World} {a b : Option Addr} {N c d : Nat} {L : List Int} (ha : Lies F w 1 (.slice a N c) N (L.flatMap ubC)) (hb : Lies F' w 1 (.slice b N d) N (L.flatMap ubC)) (hLN : L.length = N) :
    Calls Try.prog 29 #[.slice a N c, .slice b N d] w fun e w' => e = .returned (.bool true) ∧ Kept (fun _ => False) w w' := by
  obtain ⟨m1, m2⟩ := cap_of ha
  obtain ⟨m3, m4⟩ := cap_of hb
  have HA := hid ha; have HB := hid hb; have HN := hid hLN
  clear ha hb hLN
  go_enter Try.func29, Try.ntmps29
  go_wp2_with fail
  go_loopw [13] (fun i wr => ∃ k : Nat, k ≤ N ∧ i = .int .i64 k ∧ Kept (fun _ => False) w wr) (fun i _ => N - (RowKit.intOf i).toNat)
  case atStart => exact ⟨0, Nat.zero_le _, rfl, Kept.refl _ _⟩
  case round =>
    rename World => wr
    obtain ⟨k, hk, rfl, hkp⟩ := hrel
    have KR := hid hkp
    clear hkp
    by_cases hlt : k < N
    · have hltI : (k : Int) < (N : Int) := by omega
      obtain ⟨x, hx⟩ : ∃ x, L[k]? = some x := ⟨_, List.getElem?_eq_getElem (by have := HN.out; omega)⟩
      obtain ⟨g1, o1, rfl, f1⟩ := Lies.el (enc := ubC) (fun _ => rfl) HA.out HN.out KR.out hx
      obtain ⟨g2, o2, rfl, f2⟩ := Lies.el (enc := ubC) (fun _ => rfl) HB.out HN.out KR.out hx
      clear hx
      have p0 := f1 0 _ rfl; have r0 := f2 0 _ rfl
      simp only [Nat.add_zero, Nat.mul_one] at p0 r0
      clear f1 f2
      go_wp2_with fail
      go_quiet (fail)
      have K1 := hid (KR.out.trans (kdr wr nq))
      go_wp2
      go_roundw
      case rel => exact ⟨k + 1, by omega, by go_num, K1.out⟩
      case measure => (simp only [RowKit.intOf]; omega)
    · go_wp2
      go_ret
      exact ⟨rfl, KR.out⟩
structure Vt where
  id : Int
  th : Bool
  ps : List Pr
  hs : List Pr
def vxOf (x : Vt) : Vx := ⟨x.id, x.th, x.ps.length, x.ps.flatMap prC, x.hs.length, x.hs.flatMap haC⟩
theorem VertsIn.at {F : Nat → Prop} {w w' : World} {a : Option Addr} {n q : Nat} {X : List Vt} (h : VertsIn F w (.slice a n q) (X.map vxOf)) (k : Kept (fun _ => False) w w') {i : Nat} {x : Vt} (hx : X[i]? = some x) :
    ∃ g o pa pq ha hq, a = some ⟨g, o, none⟩ ∧ w'.cell? ⟨g, o + i * 4, none⟩ = some (.int .u32 x.id) ∧ w'.cell? ⟨g, o + i * 4 + 1, none⟩ = some (.bool x.th) ∧ w'.cell? ⟨g, o + i * 4 + 2, none⟩ = some (.slice pa x.ps.length pq) ∧ w'.cell? ⟨g, o + i * 4 + 3, none⟩ = some (.slice ha x.hs.length hq) ∧
      Lies F w' 4 (.slice pa x.ps.length pq) x.ps.length (x.ps.flatMap prC) ∧ Lies F w' 4 (.slice ha x.hs.length hq) x.hs.length (x.hs.flatMap haC) := by
  obtain ⟨⟨P0, hP0, hl0, hin0⟩, _⟩ := h
  have hi := (List.getElem?_eq_some_iff.1 hx).1
  have hxk : (X.map vxOf)[i]? = some (vxOf x) := by rw [List.getElem?_map, hx]; rfl
  obtain ⟨⟨pv, hv⟩, hpk⟩ : ∃ p, P0[i]? = some p := ⟨_, List.getElem?_eq_getElem (by rw [hP0, List.length_map]; exact hi)⟩
  have hvx := hin0 i (vxOf x) (pv, hv) hxk hpk
  obtain ⟨pa, pq, ep⟩ := hvx.lp.isSlice
  obtain ⟨ha, hq, eh⟩ := hvx.lh.isSlice
  simp only at ep eh
  subst ep eh
  obtain ⟨gx, ox, q', ex, _, hcap, _, _, hcx⟩ := hl0.cell (by rw [List.length_map]; omega)
  simp only [Value.slice.injEq] at ex
  obtain ⟨rfl, _, _⟩ := ex
  have e0 := hcx (i * 4 + 0) _ ((flatx_at hxk hpk (by decide)).trans rfl)
  have e1 := hcx (i * 4 + 1) _ ((flatx_at hxk hpk (by decide)).trans rfl)
  have e2 := hcx (i * 4 + 2) _ ((flatx_at hxk hpk (by decide)).trans rfl)
  have e3 := hcx (i * 4 + 3) _ ((flatx_at hxk hpk (by decide)).trans rfl)
  exact ⟨gx, ox, pa, pq, ha, hq, rfl, k.cell e0 (fun h => h), k.cell e1 (fun h => h), k.cell e2 (fun h => h), k.cell e3 (fun h => h), hvx.lp.same k, hvx.lh.same k⟩
theorem VertsIn.cap {F : Nat → Prop} {w : World} {a : Option Addr} {n q : Nat} {X : List Vx} (h : VertsIn F w (.slice a n q) X) : n = X.length ∧ n ≤ q ∧ q ≤ 9223372036854775807 := by
  obtain ⟨⟨P0, hP0, hl0, hin0⟩, _⟩ := h
  obtain ⟨ao, c', e, h1, h2, _⟩ := hl0
  simp only [Value.slice.injEq] at e
  obtain ⟨_, rfl, rfl⟩ := e
  unfold maxLen at h2
  exact ⟨rfl, h1, by omega⟩
set_option maxRecDepth 100000 in
set_option maxHeartbeats 4000000 in
theorem same_msg0 {F F' : Nat → Prop} {w : World} {cs cs' : Array Value} {m0 m1 m2 m3 m4 m5 m6 m7 m8 m9 rk rv rn rt ae ap m23 m24 m25 : Int} {ops : List O} {oa va la wa xa da na oa' va' la' wa' xa' da' na' : Option Addr} {oq vn vq ln lq wn wq xq dn dq nn nq oq' vq' lq' wq' xq' dq' nq' : Nat} {V : List Val} {L : List Int} {WL : List (Int × Int)} {D : List (Int × Int × Int)} {NB : List Int} {X : List Vt}
    (hcs : Hid (cs = #[.int .u8 m0, .int .u8 m1, .int .u8 m2, .int .u8 m3, .int .u32 m4, .int .u32 m5, .int .u64 m6, .int .u32 m7, .int .u8 m8, .int .u32 m9, .int .u8 rk, .slice oa ops.length oq, .int .u32 rv, .int .i64 rn, .int .i64 rt, .int .i64 ae, .int .i64 ap, .slice va vn vq, .slice la ln lq, .slice wa wn wq, .slice xa X.length xq, .slice da dn dq, .slice na nn nq, .int .u64 m23, .int .u64 m24, .int .i64 m25])) (hcs' : Hid (cs' = #[.int .u8 m0, .int .u8 m1, .int .u8 m2, .int .u8 m3, .int .u32 m4, .int .u32 m5, .int .u64 m6, .int .u32 m7, .int .u8 m8, .int .u32 m9, .int .u8 rk, .slice oa' ops.length oq', .int .u32 rv, .int .i64 rn, .int .i64 rt, .int .i64 ae, .int .i64 ap, .slice va' vn vq', .slice la' ln lq', .slice wa' wn wq', .slice xa' X.length xq', .slice da' dn dq', .slice na' nn nq', .int .u64 m23, .int .u64 m24, .int .i64 m25]))
    (ho : Lies F w 7 (.slice oa ops.length oq) ops.length (ocells ops)) (ho' : Lies F' w 7 (.slice oa' ops.length oq') ops.length (ocells ops))
    (hv : Lies F w 3 (.slice va vn vq) vn (V.flatMap vcell)) (hv' : Lies F' w 3 (.slice va' vn vq') vn (V.flatMap vcell)) (nv : V.length = vn)
    (hl : Lies F w 1 (.slice la ln lq) ln (L.flatMap nuC)) (hl' : Lies F' w 1 (.slice la' ln lq') ln (L.flatMap nuC)) (nl : L.length = ln)
    (hw : Lies F w 2 (.slice wa wn wq) wn (WL.flatMap wtC)) (hw' : Lies F' w 2 (.slice wa' wn wq') wn (WL.flatMap wtC)) (nw : WL.length = wn)
    (hx : VertsIn F w (.slice xa X.length xq) (X.map vxOf)) (hx' : VertsIn F' w (.slice xa' X.length xq') (X.map vxOf))
    (hd : Lies F w 3 (.slice da dn dq) dn (D.flatMap enC)) (hd' : Lies F' w 3 (.slice da' dn dq') dn (D.flatMap enC)) (nd : D.length = dn)
    (hn : Lies F w 1 (.slice na nn nq) nn (NB.flatMap ubC)) (hn' : Lies F' w 1 (.slice na' nn nq') nn (NB.flatMap ubC)) (nb : NB.length = nn) :
    Calls Try.prog 16 #[.agg cs, .agg cs'] w fun e w' => e = .returned (.bool true) ∧ Kept (fun _ => False) w w' := by
  have cw1 := cap_of hw; have cw2 := cap_of hw'; have cd1 := cap_of hd; have cd2 := cap_of hd'; obtain ⟨-, cx1⟩ := hx.cap; obtain ⟨-, cx2⟩ := hx'.cap
  have HO := hid ho; have HV := hid hv; have HL := hid hl; have HW := hid hw; have HX := hid hx; have HD := hid hd; have HN := hid hn
  have HO' := hid ho'; have HV' := hid hv'; have HL' := hid hl'; have HW' := hid hw'; have HX' := hid hx'; have HD' := hid hd'; have HN' := hid hn'
  have NV := hid nv; have NL := hid nl; have NW := hid nw; have ND := hid nd; have NB' := hid nb
  clear ho hv hl hw hx hd hn ho' hv' hl' hw' hx' hd' hn' nv nl nw nd nb
  have htw := two_new w (.cells cs 44) (.cells cs' 44)
  have hk1 := ((Kept.refl (fun _ => False) w).alloc (.cells cs 44)).alloc (.cells cs' 44)
  go_enter Try.func16, Try.ntmps16
  go_upto_region 1 with fail
  obtain ⟨w1, hw1⟩ : ∃ w1, (w.alloc (.cells cs 44)).alloc (.cells cs' 44) = w1 := ⟨_, rfl⟩
  obtain ⟨bx, hbx⟩ : ∃ bx, w.heap.size = bx := ⟨_, rfl⟩
  rw [hw1] at htw hk1
  rw [hbx] at htw
  try rw [hw1]
  try rw [hbx]
  have R0 := hid htw.1; have R1 := hid htw.2; have K1 := hid hk1
  clear htw hk1 hw1 hbx
  have htx := eq_tx m3 m4 m5
  have y0 : w1.cell? ⟨bx, 0, none⟩ = some (.int .u8 m0) := by rw [row_cell R0.out, hcs.out]; rfl
  have z0 : w1.cell? ⟨bx + 1, 0, none⟩ = some (.int .u8 m0) := by rw [row_cell R1.out, hcs'.out]; rfl
  have y1 : w1.cell? ⟨bx, 1, none⟩ = some (.int .u8 m1) := by rw [row_cell R0.out, hcs.out]; rfl
  have z1 : w1.cell? ⟨bx + 1, 1, none⟩ = some (.int .u8 m1) := by rw [row_cell R1.out, hcs'.out]; rfl
  have y2 : w1.cell? ⟨bx, 2, none⟩ = some (.int .u8 m2) := by rw [row_cell R0.out, hcs.out]; rfl
  have z2 : w1.cell? ⟨bx + 1, 2, none⟩ = some (.int .u8 m2) := by rw [row_cell R1.out, hcs'.out]; rfl
  have y3 : w1.cell? ⟨bx, 3, none⟩ = some (.int .u8 m3) := by rw [row_cell R0.out, hcs.out]; rfl
  have z3 : w1.cell? ⟨bx + 1, 3, none⟩ = some (.int .u8 m3) := by rw [row_cell R1.out, hcs'.out]; rfl
  have y4 : w1.cell? ⟨bx, 4, none⟩ = some (.int .u32 m4) := by rw [row_cell R0.out, hcs.out]; rfl
  have z4 : w1.cell? ⟨bx + 1, 4, none⟩ = some (.int .u32 m4) := by rw [row_cell R1.out, hcs'.out]; rfl
  have y5 : w1.cell? ⟨bx, 5, none⟩ = some (.int .u32 m5) := by rw [row_cell R0.out, hcs.out]; rfl
  have z5 : w1.cell? ⟨bx + 1, 5, none⟩ = some (.int .u32 m5) := by rw [row_cell R1.out, hcs'.out]; rfl
  have y6 : w1.cell? ⟨bx, 6, none⟩ = some (.int .u64 m6) := by rw [row_cell R0.out, hcs.out]; rfl
  have z6 : w1.cell? ⟨bx + 1, 6, none⟩ = some (.int .u64 m6) := by rw [row_cell R1.out, hcs'.out]; rfl
  have y7 : w1.cell? ⟨bx, 7, none⟩ = some (.int .u32 m7) := by rw [row_cell R0.out, hcs.out]; rfl
  have z7 : w1.cell? ⟨bx + 1, 7, none⟩ = some (.int .u32 m7) := by rw [row_cell R1.out, hcs'.out]; rfl
  have y8 : w1.cell? ⟨bx, 8, none⟩ = some (.int .u8 m8) := by rw [row_cell R0.out, hcs.out]; rfl
  have z8 : w1.cell? ⟨bx + 1, 8, none⟩ = some (.int .u8 m8) := by rw [row_cell R1.out, hcs'.out]; rfl
  have y9 : w1.cell? ⟨bx, 9, none⟩ = some (.int .u32 m9) := by rw [row_cell R0.out, hcs.out]; rfl
  have z9 : w1.cell? ⟨bx + 1, 9, none⟩ = some (.int .u32 m9) := by rw [row_cell R1.out, hcs'.out]; rfl
  have y23 : w1.cell? ⟨bx, 23, none⟩ = some (.int .u64 m23) := by rw [row_cell R0.out, hcs.out]; rfl
  have z23 : w1.cell? ⟨bx + 1, 23, none⟩ = some (.int .u64 m23) := by rw [row_cell R1.out, hcs'.out]; rfl
  have y24 : w1.cell? ⟨bx, 24, none⟩ = some (.int .u64 m24) := by rw [row_cell R0.out, hcs.out]; rfl
  have z24 : w1.cell? ⟨bx + 1, 24, none⟩ = some (.int .u64 m24) := by rw [row_cell R1.out, hcs'.out]; rfl
  have y25 : w1.cell? ⟨bx, 25, none⟩ = some (.int .i64 m25) := by rw [row_cell R0.out, hcs.out]; rfl
  have z25 : w1.cell? ⟨bx + 1, 25, none⟩ = some (.int .i64 m25) := by rw [row_cell R1.out, hcs'.out]; rfl
  have y10 : w1.cell? ⟨bx, 10, none⟩ = some (.int .u8 rk) := by rw [row_cell R0.out, hcs.out]; rfl
  have z10 : w1.cell? ⟨bx + 1, 10, none⟩ = some (.int .u8 rk) := by rw [row_cell R1.out, hcs'.out]; rfl
  have y11 : w1.cell? ⟨bx, 11, none⟩ = some (.slice oa ops.length oq) := by rw [row_cell R0.out, hcs.out]; rfl
  have z11 : w1.cell? ⟨bx + 1, 11, none⟩ = some (.slice oa' ops.length oq') := by rw [row_cell R1.out, hcs'.out]; rfl
  have y12 : w1.cell? ⟨bx, 12, none⟩ = some (.int .u32 rv) := by rw [row_cell R0.out, hcs.out]; rfl
  have z12 : w1.cell? ⟨bx + 1, 12, none⟩ = some (.int .u32 rv) := by rw [row_cell R1.out, hcs'.out]; rfl
  have y13 : w1.cell? ⟨bx, 13, none⟩ = some (.int .i64 rn) := by rw [row_cell R0.out, hcs.out]; rfl
  have z13 : w1.cell? ⟨bx + 1, 13, none⟩ = some (.int .i64 rn) := by rw [row_cell R1.out, hcs'.out]; rfl
  have y14 : w1.cell? ⟨bx, 14, none⟩ = some (.int .i64 rt) := by rw [row_cell R0.out, hcs.out]; rfl
  have z14 : w1.cell? ⟨bx + 1, 14, none⟩ = some (.int .i64 rt) := by rw [row_cell R1.out, hcs'.out]; rfl
  go_wp2_with fail
  refine (same_req (HO.out.same K1.out) (HO'.out.same K1.out) rfl).mono ?_
  rintro e w2 ⟨rfl, hk2⟩
  have K12 := hid hk2
  clear hk2 y0 z0 y1 z1 y2 z2 y3 z3 y4 z4 y5 z5 y6 z6 y7 z7 y8 z8 y9 z9 y23 z23 y24 z24 y25 z25 y10 z10 y11 z11 y12 z12 y13 z13 y14 z14 htx
  have y15 : w2.cell? ⟨bx, 15, none⟩ = some (.int .i64 ae) := by rw [row_cell ((K12.out.block _ (row_lt R0.out) (fun h => h)).trans R0.out), hcs.out]; rfl
  have z15 : w2.cell? ⟨bx + 1, 15, none⟩ = some (.int .i64 ae) := by rw [row_cell ((K12.out.block _ (row_lt R1.out) (fun h => h)).trans R1.out), hcs'.out]; rfl
  have y16 : w2.cell? ⟨bx, 16, none⟩ = some (.int .i64 ap) := by rw [row_cell ((K12.out.block _ (row_lt R0.out) (fun h => h)).trans R0.out), hcs.out]; rfl
  have z16 : w2.cell? ⟨bx + 1, 16, none⟩ = some (.int .i64 ap) := by rw [row_cell ((K12.out.block _ (row_lt R1.out) (fun h => h)).trans R1.out), hcs'.out]; rfl
  have y17 : w2.cell? ⟨bx, 17, none⟩ = some (.slice va vn vq) := by rw [row_cell ((K12.out.block _ (row_lt R0.out) (fun h => h)).trans R0.out), hcs.out]; rfl
  have z17 : w2.cell? ⟨bx + 1, 17, none⟩ = some (.slice va' vn vq') := by rw [row_cell ((K12.out.block _ (row_lt R1.out) (fun h => h)).trans R1.out), hcs'.out]; rfl
  have y18 : w2.cell? ⟨bx, 18, none⟩ = some (.slice la ln lq) := by rw [row_cell ((K12.out.block _ (row_lt R0.out) (fun h => h)).trans R0.out), hcs.out]; rfl
  have z18 : w2.cell? ⟨bx + 1, 18, none⟩ = some (.slice la' ln lq') := by rw [row_cell ((K12.out.block _ (row_lt R1.out) (fun h => h)).trans R1.out), hcs'.out]; rfl
  go_wp2_with fail
  refine (same_ans (HV.out.same (K1.out.trans K12.out)) (HV'.out.same (K1.out.trans K12.out)) NV.out (HL.out.same (K1.out.trans K12.out)) (HL'.out.same (K1.out.trans K12.out)) NL.out).mono ?_
  rintro e w3 ⟨rfl, hk3⟩
  have K13 := hid (K12.out.trans hk3)
  clear hk3 y15 z15 y16 z16 y17 z17 y18 z18
  have y19 : w3.cell? ⟨bx, 19, none⟩ = some (.slice wa wn wq) := by rw [row_cell ((K13.out.block _ (row_lt R0.out) (fun h => h)).trans R0.out), hcs.out]; rfl
  have z19 : w3.cell? ⟨bx + 1, 19, none⟩ = some (.slice wa' wn wq') := by rw [row_cell ((K13.out.block _ (row_lt R1.out) (fun h => h)).trans R1.out), hcs'.out]; rfl
  have y20 : w3.cell? ⟨bx, 20, none⟩ = some (.slice xa X.length xq) := by rw [row_cell ((K13.out.block _ (row_lt R0.out) (fun h => h)).trans R0.out), hcs.out]; rfl
  have z20 : w3.cell? ⟨bx + 1, 20, none⟩ = some (.slice xa' X.length xq') := by rw [row_cell ((K13.out.block _ (row_lt R1.out) (fun h => h)).trans R1.out), hcs'.out]; rfl
  have y21 : w3.cell? ⟨bx, 21, none⟩ = some (.slice da dn dq) := by rw [row_cell ((K13.out.block _ (row_lt R0.out) (fun h => h)).trans R0.out), hcs.out]; rfl
  have z21 : w3.cell? ⟨bx + 1, 21, none⟩ = some (.slice da' dn dq') := by rw [row_cell ((K13.out.block _ (row_lt R1.out) (fun h => h)).trans R1.out), hcs'.out]; rfl
  have y22 : w3.cell? ⟨bx, 22, none⟩ = some (.slice na nn nq) := by rw [row_cell ((K13.out.block _ (row_lt R0.out) (fun h => h)).trans R0.out), hcs.out]; rfl
  have z22 : w3.cell? ⟨bx + 1, 22, none⟩ = some (.slice na' nn nq') := by rw [row_cell ((K13.out.block _ (row_lt R1.out) (fun h => h)).trans R1.out), hcs'.out]; rfl
  go_wp2_with fail
  refine (same_by (HN.out.same (K1.out.trans K13.out)) (HN'.out.same (K1.out.trans K13.out)) NB'.out).mono ?_
  rintro e w4 ⟨rfl, hk4⟩
  have K14 := hid (K13.out.trans hk4)
  clear hk4 y19 z19 y20 z20 y21 z21 y22 z22
  have y19 : w4.cell? ⟨bx, 19, none⟩ = some (.slice wa wn wq) := by rw [row_cell ((K14.out.block _ (row_lt R0.out) (fun h => h)).trans R0.out), hcs.out]; rfl
  have z19 : w4.cell? ⟨bx + 1, 19, none⟩ = some (.slice wa' wn wq') := by rw [row_cell ((K14.out.block _ (row_lt R1.out) (fun h => h)).trans R1.out), hcs'.out]; rfl
  go_wp2_with fail
  clear y19 z19
  go_loopw [135] (fun i wr => ∃ k : Nat, k ≤ wn ∧ i = .int .i64 k ∧ Kept (fun _ => False) w1 wr) (fun i _ => wn - (RowKit.intOf i).toNat)
  case atStart => exact ⟨0, Nat.zero_le _, rfl, K14.out⟩
  case round =>
    rename World => wr
    obtain ⟨k, hk, rfl, hkp⟩ := hrel
    have KR := hid hkp
    clear hkp
    by_cases hlt : k < wn
    · have hltI : (k : Int) < (wn : Int) := by omega
      obtain ⟨x, hx⟩ : ∃ x, WL[k]? = some x := ⟨_, List.getElem?_eq_getElem (by have := NW.out; omega)⟩
      obtain ⟨g1, o1, rfl, f1⟩ := Lies.el (enc := wtC) (fun _ => rfl) (HW.out.same K1.out) NW.out KR.out hx
      obtain ⟨g2, o2, rfl, f2⟩ := Lies.el (enc := wtC) (fun _ => rfl) (HW'.out.same K1.out) NW.out KR.out hx
      clear hx
      have y19 : wr.cell? ⟨bx, 19, none⟩ = some (.slice (some ⟨g1, o1, none⟩) wn wq) := by rw [row_cell ((KR.out.block _ (row_lt R0.out) (fun h => h)).trans R0.out), hcs.out]; rfl
      have z19 : wr.cell? ⟨bx + 1, 19, none⟩ = some (.slice (some ⟨g2, o2, none⟩) wn wq') := by rw [row_cell ((KR.out.block _ (row_lt R1.out) (fun h => h)).trans R1.out), hcs'.out]; rfl
      obtain ⟨x1, x2⟩ := x
      have p0 := f1 0 _ rfl; have p1 := f1 1 _ rfl; have r0 := f2 0 _ rfl; have r1 := f2 1 _ rfl
      simp only [Nat.add_zero] at p0 p1 r0 r1
      have hq := eq_want x1 x2
      clear f1 f2
      go_wp2_with fail
      go_quiet (fail)
      have K1 := hid (KR.out.trans (kdr wr nq))
      go_wp2
      go_roundw
      case rel => exact ⟨k + 1, by omega, by go_num, K1.out⟩
      case measure => (simp only [RowKit.intOf]; omega)
    · rename World => w5
      have K15 := hid KR.out
      clear KR
      have y20 : w5.cell? ⟨bx, 20, none⟩ = some (.slice xa X.length xq) := by rw [row_cell ((K15.out.block _ (row_lt R0.out) (fun h => h)).trans R0.out), hcs.out]; rfl
      have z20 : w5.cell? ⟨bx + 1, 20, none⟩ = some (.slice xa' X.length xq') := by rw [row_cell ((K15.out.block _ (row_lt R1.out) (fun h => h)).trans R1.out), hcs'.out]; rfl
      go_wp2_with fail
      clear y20 z20
      go_loopw [153] (fun i wr => ∃ k : Nat, k ≤ X.length ∧ i = .int .i64 k ∧ Kept (fun _ => False) w1 wr) (fun i _ => X.length - (RowKit.intOf i).toNat)
      case atStart => exact ⟨0, Nat.zero_le _, rfl, K15.out⟩
      case round =>
        rename World => wr
        obtain ⟨k, hk, rfl, hkp⟩ := hrel
        have KR := hid hkp
        clear hkp
        by_cases hlt : k < X.length
        · have hltI : (k : Int) < (X.length : Int) := by omega
          obtain ⟨x, hx⟩ : ∃ x, X[k]? = some x := ⟨_, List.getElem?_eq_getElem hlt⟩
          obtain ⟨g1, o1, pa, pq, ha, hq, rfl, p0, p1, p2, p3, lp, lh⟩ := HX.out.at (K1.out.trans KR.out) hx
          obtain ⟨g2, o2, pa', pq', ha', hq', rfl, r0, r1, r2, r3, lp', lh'⟩ := HX'.out.at (K1.out.trans KR.out) hx
          obtain ⟨xi, xt, xps, xhs⟩ := x
          simp only at p0 p1 p2 p3 r0 r1 r2 r3 lp lh lp' lh'
          obtain ⟨np, hnp⟩ : ∃ n, xps.length = n := ⟨_, rfl⟩
          obtain ⟨nh, hnh⟩ : ∃ n, xhs.length = n := ⟨_, rfl⟩
          rw [hnp] at p2 r2 lp lp'
          rw [hnh] at p3 r3 lh lh'
          have LP := hid lp; have LH := hid lh; have LP' := hid lp'; have LH' := hid lh'
          have HNP := hid hnp; have HNH := hid hnh
          clear hx lp lh lp' lh' hnp hnh
          have y20 : wr.cell? ⟨bx, 20, none⟩ = some (.slice (some ⟨g1, o1, none⟩) X.length xq) := by rw [row_cell ((KR.out.block _ (row_lt R0.out) (fun h => h)).trans R0.out), hcs.out]; rfl
          have z20 : wr.cell? ⟨bx + 1, 20, none⟩ = some (.slice (some ⟨g2, o2, none⟩) X.length xq') := by rw [row_cell ((KR.out.block _ (row_lt R1.out) (fun h => h)).trans R1.out), hcs'.out]; rfl
          go_wp2_with fail
          have s1 : wr.drew.cell? ⟨bx, 20, none⟩ = some (.slice (some ⟨g1, o1, none⟩) X.length xq) ∧ wr.drew.cell? ⟨bx + 1, 20, none⟩ = some (.slice (some ⟨g2, o2, none⟩) X.length xq') ∧ wr.drew.cell? ⟨g1, o1 + k * 4, none⟩ = some (.int .u32 xi) ∧ wr.drew.cell? ⟨g1, o1 + k * 4 + 1, none⟩ = some (.bool xt) ∧ wr.drew.cell? ⟨g1, o1 + k * 4 + 2, none⟩ = some (.slice pa np pq) ∧ wr.drew.cell? ⟨g1, o1 + k * 4 + 3, none⟩ = some (.slice ha nh hq) ∧ wr.drew.cell? ⟨g2, o2 + k * 4, none⟩ = some (.int .u32 xi) ∧ wr.drew.cell? ⟨g2, o2 + k * 4 + 1, none⟩ = some (.bool xt) ∧ wr.drew.cell? ⟨g2, o2 + k * 4 + 2, none⟩ = some (.slice pa' np pq') ∧ wr.drew.cell? ⟨g2, o2 + k * 4 + 3, none⟩ = some (.slice ha' nh hq') := ⟨y20, z20, p0, p1, p2, p3, r0, r1, r2, r3⟩
          clear y20 z20 p0 p1 p2 p3 r0 r1 r2 r3
          have s2 := hid (fun (wB : World) (kp : Kept (fun _ => False) wr.drew wB) => show wB.cell? ⟨bx, 20, none⟩ = some (.slice (some ⟨g1, o1, none⟩) X.length xq) ∧ wB.cell? ⟨bx + 1, 20, none⟩ = some (.slice (some ⟨g2, o2, none⟩) X.length xq') ∧ wB.cell? ⟨g1, o1 + k * 4, none⟩ = some (.int .u32 xi) ∧ wB.cell? ⟨g1, o1 + k * 4 + 1, none⟩ = some (.bool xt) ∧ wB.cell? ⟨g1, o1 + k * 4 + 2, none⟩ = some (.slice pa np pq) ∧ wB.cell? ⟨g1, o1 + k * 4 + 3, none⟩ = some (.slice ha nh hq) ∧ wB.cell? ⟨g2, o2 + k * 4, none⟩ = some (.int .u32 xi) ∧ wB.cell? ⟨g2, o2 + k * 4 + 1, none⟩ = some (.bool xt) ∧ wB.cell? ⟨g2, o2 + k * 4 + 2, none⟩ = some (.slice pa' np pq') ∧ wB.cell? ⟨g2, o2 + k * 4 + 3, none⟩ = some (.slice ha' nh hq') from ⟨kp.cell s1.1 (fun h => h), kp.cell s1.2.1 (fun h => h), kp.cell s1.2.2.1 (fun h => h), kp.cell s1.2.2.2.1 (fun h => h), kp.cell s1.2.2.2.2.1 (fun h => h), kp.cell s1.2.2.2.2.2.1 (fun h => h), kp.cell s1.2.2.2.2.2.2.1 (fun h => h), kp.cell s1.2.2.2.2.2.2.2.1 (fun h => h), kp.cell s1.2.2.2.2.2.2.2.2.1 (fun h => h), kp.cell s1.2.2.2.2.2.2.2.2.2 (fun h => h)⟩)
          go_region_held3 (fun w' => w'.cell? ⟨bx, 20, none⟩ = some (.slice (some ⟨g1, o1, none⟩) X.length xq) ∧ w'.cell? ⟨bx + 1, 20, none⟩ = some (.slice (some ⟨g2, o2, none⟩) X.length xq') ∧ w'.cell? ⟨g1, o1 + k * 4, none⟩ = some (.int .u32 xi) ∧ w'.cell? ⟨g1, o1 + k * 4 + 1, none⟩ = some (.bool xt) ∧ w'.cell? ⟨g1, o1 + k * 4 + 2, none⟩ = some (.slice pa np pq) ∧ w'.cell? ⟨g1, o1 + k * 4 + 3, none⟩ = some (.slice ha nh hq) ∧ w'.cell? ⟨g2, o2 + k * 4, none⟩ = some (.int .u32 xi) ∧ w'.cell? ⟨g2, o2 + k * 4 + 1, none⟩ = some (.bool xt) ∧ w'.cell? ⟨g2, o2 + k * 4 + 2, none⟩ = some (.slice pa' np pq') ∧ w'.cell? ⟨g2, o2 + k * 4 + 3, none⟩ = some (.slice ha' nh hq')) (first | exact s1 | exact s2.out _ KC.out)
            (first
              | (go_at_call 30; refine (same_vx (LP.out.same (kdr _ 1)) (LP'.out.same (kdr _ 1)) HNP.out (LH.out.same (kdr _ 1)) (LH'.out.same (kdr _ 1)) HNH.out).mono ?_; rintro e w6 ⟨he, hk⟩; subst he; have KC := hid hk; clear hk))
          have K1 := hid (KR.out.trans ((kdr wr 1).trans KC.out))
          go_wp2
          go_roundw
          case rel => exact ⟨k + 1, by omega, by go_num, K1.out⟩
          case measure => (simp only [RowKit.intOf]; omega)
        · rename World => w7
          have K17 := hid KR.out
          clear KR
          have y21 : w7.cell? ⟨bx, 21, none⟩ = some (.slice da dn dq) := by rw [row_cell ((K17.out.block _ (row_lt R0.out) (fun h => h)).trans R0.out), hcs.out]; rfl
          have z21 : w7.cell? ⟨bx + 1, 21, none⟩ = some (.slice da' dn dq') := by rw [row_cell ((K17.out.block _ (row_lt R1.out) (fun h => h)).trans R1.out), hcs'.out]; rfl
          go_wp2_with fail
          clear y21 z21
          go_loopw [172] (fun i wr => ∃ k : Nat, k ≤ dn ∧ i = .int .i64 k ∧ Kept (fun _ => False) w1 wr) (fun i _ => dn - (RowKit.intOf i).toNat)
          case atStart => exact ⟨0, Nat.zero_le _, rfl, K17.out⟩
          case round =>
            rename World => wr
            obtain ⟨k, hk, rfl, hkp⟩ := hrel
            have KR := hid hkp
            clear hkp
            by_cases hlt : k < dn
            · have hltI : (k : Int) < (dn : Int) := by omega
              obtain ⟨x, hx⟩ : ∃ x, D[k]? = some x := ⟨_, List.getElem?_eq_getElem (by have := ND.out; omega)⟩
              obtain ⟨g1, o1, rfl, f1⟩ := Lies.el (enc := enC) (fun _ => rfl) (HD.out.same K1.out) ND.out KR.out hx
              obtain ⟨g2, o2, rfl, f2⟩ := Lies.el (enc := enC) (fun _ => rfl) (HD'.out.same K1.out) ND.out KR.out hx
              clear hx
              have y21 : wr.cell? ⟨bx, 21, none⟩ = some (.slice (some ⟨g1, o1, none⟩) dn dq) := by rw [row_cell ((KR.out.block _ (row_lt R0.out) (fun h => h)).trans R0.out), hcs.out]; rfl
              have z21 : wr.cell? ⟨bx + 1, 21, none⟩ = some (.slice (some ⟨g2, o2, none⟩) dn dq') := by rw [row_cell ((KR.out.block _ (row_lt R1.out) (fun h => h)).trans R1.out), hcs'.out]; rfl
              obtain ⟨x1, x2, x3⟩ := x
              have p0 := f1 0 _ rfl; have p1 := f1 1 _ rfl; have p2 := f1 2 _ rfl; have r0 := f2 0 _ rfl; have r1 := f2 1 _ rfl; have r2 := f2 2 _ rfl
              simp only [Nat.add_zero] at p0 p1 p2 r0 r1 r2
              have hq := eq_entry x1 x2 x3
              clear f1 f2
              go_wp2_with fail
              go_quiet (fail)
              have K1 := hid (KR.out.trans (kdr wr nq))
              go_wp2
              go_roundw
              case rel => exact ⟨k + 1, by omega, by go_num, K1.out⟩
              case measure => (simp only [RowKit.intOf]; omega)
            · go_wp2
              go_ret
              exact ⟨rfl, K1.out.trans KR.out⟩
theorem same_msg {F F' : Nat → Prop} {w : World} {m0 m1 m2 m3 m4 m5 m6 m7 m8 m9 rk rv rn rt ae ap m23 m24 m25 : Int} {ops : List O} {oa va la wa xa da na oa' va' la' wa' xa' da' na' : Option Addr} {oq vn vq ln lq wn wq xq dn dq nn nq oq' vq' lq' wq' xq' dq' nq' : Nat} {V : List Val} {L : List Int} {WL : List (Int × Int)} {D : List (Int × Int × Int)} {NB : List Int} {X : List Vt}
    (ho : Lies F w 7 (.slice oa ops.length oq) ops.length (ocells ops)) (ho' : Lies F' w 7 (.slice oa' ops.length oq') ops.length (ocells ops))
    (hv : Lies F w 3 (.slice va vn vq) vn (V.flatMap vcell)) (hv' : Lies F' w 3 (.slice va' vn vq') vn (V.flatMap vcell)) (nv : V.length = vn)
    (hl : Lies F w 1 (.slice la ln lq) ln (L.flatMap nuC)) (hl' : Lies F' w 1 (.slice la' ln lq') ln (L.flatMap nuC)) (nl : L.length = ln)
    (hw : Lies F w 2 (.slice wa wn wq) wn (WL.flatMap wtC)) (hw' : Lies F' w 2 (.slice wa' wn wq') wn (WL.flatMap wtC)) (nw : WL.length = wn)
    (hx : VertsIn F w (.slice xa X.length xq) (X.map vxOf)) (hx' : VertsIn F' w (.slice xa' X.length xq') (X.map vxOf))
    (hd : Lies F w 3 (.slice da dn dq) dn (D.flatMap enC)) (hd' : Lies F' w 3 (.slice da' dn dq') dn (D.flatMap enC)) (nd : D.length = dn)
    (hn : Lies F w 1 (.slice na nn nq) nn (NB.flatMap ubC)) (hn' : Lies F' w 1 (.slice na' nn nq') nn (NB.flatMap ubC)) (nb : NB.length = nn) :
    Calls Try.prog 16 #[.agg #[.int .u8 m0, .int .u8 m1, .int .u8 m2, .int .u8 m3, .int .u32 m4, .int .u32 m5, .int .u64 m6, .int .u32 m7, .int .u8 m8, .int .u32 m9, .int .u8 rk, .slice oa ops.length oq, .int .u32 rv, .int .i64 rn, .int .i64 rt, .int .i64 ae, .int .i64 ap, .slice va vn vq, .slice la ln lq, .slice wa wn wq, .slice xa X.length xq, .slice da dn dq, .slice na nn nq, .int .u64 m23, .int .u64 m24, .int .i64 m25], .agg #[.int .u8 m0, .int .u8 m1, .int .u8 m2, .int .u8 m3, .int .u32 m4, .int .u32 m5, .int .u64 m6, .int .u32 m7, .int .u8 m8, .int .u32 m9, .int .u8 rk, .slice oa' ops.length oq', .int .u32 rv, .int .i64 rn, .int .i64 rt, .int .i64 ae, .int .i64 ap, .slice va' vn vq', .slice la' ln lq', .slice wa' wn wq', .slice xa' X.length xq', .slice da' dn dq', .slice na' nn nq', .int .u64 m23, .int .u64 m24, .int .i64 m25]] w fun e w' => e = .returned (.bool true) ∧ Kept (fun _ => False) w w' :=
  same_msg0 (hid rfl) (hid rfl) ho ho' hv hv' nv hl hl' nl hw hw' nw hx hx' hd hd' nd hn hn' nb
end Go.Proofs.Ytnlbdlbinoebgaa
