/- SameReq, SameAnswer, SameVertex. -/
import Derived.Test.YtnlbdlbinoebgaaM
import Derived.Deep.CutBlock
namespace Go.Proofs.Ytnlbdlbinoebgaa
open Go.RowKit
set_option maxRecDepth 100000 in
set_option maxHeartbeats 2000000 in
theorem same_req {F F' : Nat → Prop} {w : World} {a b : Option Addr} {N c d : Nat} {L : List O} {kd v n t : Int} (ha : Lies F w 7 (.slice a N c) N (ocells L)) (hb : Lies F' w 7 (.slice b N d) N (ocells L)) (hLN : L.length = N) :
    Calls Try.prog 23 #[.agg #[.int .u8 kd, .slice a N c, .int .u32 v, .int .i64 n, .int .i64 t], .agg #[.int .u8 kd, .slice b N d, .int .u32 v, .int .i64 n, .int .i64 t]] w fun e w' => e = .returned (.bool true) ∧ Kept (fun _ => False) w w' := by
  obtain ⟨m1, m2⟩ := cap_of ha
  obtain ⟨m3, m4⟩ := cap_of hb
  have HA := hid ha; have HB := hid hb; have HN := hid hLN
  clear ha hb hLN
  have htw := two_new w (.cells #[.int .u8 kd, .slice a N c, .int .u32 v, .int .i64 n, .int .i64 t] 31) (.cells #[.int .u8 kd, .slice b N d, .int .u32 v, .int .i64 n, .int .i64 t] 31)
  have hk1 := ((Kept.refl (fun _ => False) w).alloc (.cells #[.int .u8 kd, .slice a N c, .int .u32 v, .int .i64 n, .int .i64 t] 31)).alloc (.cells #[.int .u8 kd, .slice b N d, .int .u32 v, .int .i64 n, .int .i64 t] 31)
  go_enter Try.func23, Try.ntmps23
  go_upto_region 1 with fail
  obtain ⟨w1, hw1⟩ : ∃ w1, (w.alloc (.cells #[.int .u8 kd, .slice a N c, .int .u32 v, .int .i64 n, .int .i64 t] 31)).alloc (.cells #[.int .u8 kd, .slice b N d, .int .u32 v, .int .i64 n, .int .i64 t] 31) = w1 := ⟨_, rfl⟩
  obtain ⟨bx, hbx⟩ : ∃ bx, w.heap.size = bx := ⟨_, rfl⟩
  rw [hw1] at htw hk1
  rw [hbx] at htw
  try rw [hw1]
  try rw [hbx]
  have R0 := hid htw.1; have R1 := hid htw.2; have K1 := hid hk1
  have HA1 := hid (HA.out.same hk1); have HB1 := hid (HB.out.same hk1)
  obtain ⟨y0, y1, y2, y3, y4, yf⟩ := cells5 R0.out
  obtain ⟨z0, z1, z2, z3, z4, zf⟩ := cells5 R1.out
  clear htw hk1 hw1 hbx yf zf HA HB
  go_wp2_with fail
  clear y0 y1 y2 y3 y4 z0 z1 z2 z3 z4
  go_loopw [44] (fun i wr => ∃ k : Nat, k ≤ N ∧ i = .int .i64 k ∧ Kept (fun _ => False) w1 wr) (fun i _ => N - (RowKit.intOf i).toNat)
  case atStart => exact ⟨0, Nat.zero_le _, rfl, Kept.refl _ _⟩
  case round =>
    rename World => wr
    obtain ⟨k, hk, rfl, hkp⟩ := hrel
    have KR := hid hkp
    clear hkp
    by_cases hlt : k < N
    · have hltI : (k : Int) < (N : Int) := by omega
      obtain ⟨x, hx⟩ : ∃ x, L[k]? = some x := ⟨_, List.getElem?_eq_getElem (by have := HN.out; omega)⟩
      obtain ⟨g1, o1, rfl, f1⟩ := Lies.el (enc := ocell) (fun _ => rfl) (show Lies F w1 7 (.slice a N c) N (L.flatMap ocell) from HA1.out) HN.out KR.out hx
      obtain ⟨g2, o2, rfl, f2⟩ := Lies.el (enc := ocell) (fun _ => rfl) (show Lies F' w1 7 (.slice b N d) N (L.flatMap ocell) from HB1.out) HN.out KR.out hx
      clear hx
      obtain ⟨y0, y1, y2, y3, y4, yf⟩ := cells5 ((KR.out.block bx (row_lt R0.out) id).trans R0.out)
      obtain ⟨z0, z1, z2, z3, z4, zf⟩ := cells5 ((KR.out.block (bx + 1) (row_lt R1.out) id).trans R1.out)
      clear y0 y2 y3 y4 yf z0 z2 z3 z4 zf
      obtain ⟨x1, x2, x3, x4, x5, x6, x7⟩ := x
      have p0 := f1 0 _ rfl; have p1 := f1 1 _ rfl; have p2 := f1 2 _ rfl; have p3 := f1 3 _ rfl; have p4 := f1 4 _ rfl; have p5 := f1 5 _ rfl; have p6 := f1 6 _ rfl
      have r0 := f2 0 _ rfl; have r1 := f2 1 _ rfl; have r2 := f2 2 _ rfl; have r3 := f2 3 _ rfl; have r4 := f2 4 _ rfl; have r5 := f2 5 _ rfl; have r6 := f2 6 _ rfl
      simp only [Nat.add_zero] at p0 p1 p2 p3 p4 p5 p6 r0 r1 r2 r3 r4 r5 r6
      have hq := eq_op ⟨x1, x2, x3, x4, x5, x6, x7⟩
      unfold ocell at hq
      clear f1 f2
      go_wp2_with fail
      go_quiet (fail)
      have K1 := hid (KR.out.trans (kdr wr nq))
      go_wp2
      go_roundw
      case rel => exact ⟨k + 1, by omega, by go_num, K1.out⟩
      case measure => (simp only [RowKit.intOf]; omega)
    · go_wp2
      go_ret
      exact ⟨rfl, K1.out.trans KR.out⟩
set_option maxRecDepth 100000 in
set_option maxHeartbeats 2000000 in
theorem same_ans {F F' : Nat → Prop} {w : World} {va vb la lb : Option Addr} {N c d M e f : Nat} {V : List Val} {L : List Int} {ae ap : Int} (hva : Lies F w 3 (.slice va N c) N (V.flatMap vcell)) (hvb : Lies F' w 3 (.slice vb N d) N (V.flatMap vcell)) (hV : V.length = N)
    (hla : Lies F w 1 (.slice la M e) M (L.flatMap nuC)) (hlb : Lies F' w 1 (.slice lb M f) M (L.flatMap nuC)) (hL : L.length = M) :
    Calls Try.prog 26 #[.agg #[.int .i64 ae, .int .i64 ap, .slice va N c, .slice la M e], .agg #[.int .i64 ae, .int .i64 ap, .slice vb N d, .slice lb M f]] w fun e w' => e = .returned (.bool true) ∧ Kept (fun _ => False) w w' := by
  have HVA := hid hva; have HVB := hid hvb; have HLA := hid hla; have HLB := hid hlb
  clear hva hvb hla hlb
  have htw := two_new w (.cells #[.int .i64 ae, .int .i64 ap, .slice va N c, .slice la M e] 38) (.cells #[.int .i64 ae, .int .i64 ap, .slice vb N d, .slice lb M f] 38)
  have hk1 := ((Kept.refl (fun _ => False) w).alloc (.cells #[.int .i64 ae, .int .i64 ap, .slice va N c, .slice la M e] 38)).alloc (.cells #[.int .i64 ae, .int .i64 ap, .slice vb N d, .slice lb M f] 38)
  go_enter Try.func26, Try.ntmps26
  go_upto_region 1 with fail
  obtain ⟨w1, hw1⟩ : ∃ w1, (w.alloc (.cells #[.int .i64 ae, .int .i64 ap, .slice va N c, .slice la M e] 38)).alloc (.cells #[.int .i64 ae, .int .i64 ap, .slice vb N d, .slice lb M f] 38) = w1 := ⟨_, rfl⟩
  obtain ⟨bx, hbx⟩ : ∃ bx, w.heap.size = bx := ⟨_, rfl⟩
  rw [hw1] at htw hk1
  rw [hbx] at htw
  try rw [hw1]
  try rw [hbx]
  have R0 := hid htw.1; have R1 := hid htw.2; have K1 := hid hk1
  obtain ⟨y0, y1, y2, y3, yf⟩ := cells4 R0.out
  obtain ⟨z0, z1, z2, z3, zf⟩ := cells4 R1.out
  clear htw hk1 hw1 hbx yf zf
  go_wp2_with fail
  refine (same_vals (HVA.out.same K1.out) (HVB.out.same K1.out) hV).mono ?_
  rintro e' w2 ⟨rfl, hk2⟩
  have K2 := hid (K1.out.trans hk2)
  clear y0 y1 y2 y3 z0 z1 z2 z3
  obtain ⟨y0, y1, y2, y3, yf⟩ := cells4 ((hk2.block bx (row_lt R0.out) id).trans R0.out)
  obtain ⟨z0, z1, z2, z3, zf⟩ := cells4 ((hk2.block (bx + 1) (row_lt R1.out) id).trans R1.out)
  clear hk2 yf zf
  go_wp2_with fail
  refine (same_nums (HLA.out.same K2.out) (HLB.out.same K2.out) hL).mono ?_
  rintro e' w3 ⟨rfl, hk3⟩
  have K3 := hid (K2.out.trans hk3)
  clear hk3 y0 y1 y2 y3 z0 z1 z2 z3
  go_wp2
  go_ret
  exact ⟨rfl, K3.out⟩
set_option maxRecDepth 100000 in
set_option maxHeartbeats 2000000 in
theorem same_vx {F F' : Nat → Prop} {w : World} {pa pb ha hb : Option Addr} {N c d M e f : Nat} {PL : List Pr} {HL : List Pr} {id : Int} {th : Bool} (hpa : Lies F w 4 (.slice pa N c) N (PL.flatMap prC)) (hpb : Lies F' w 4 (.slice pb N d) N (PL.flatMap prC)) (hP : PL.length = N)
    (hha : Lies F w 4 (.slice ha M e) M (HL.flatMap haC)) (hhb : Lies F' w 4 (.slice hb M f) M (HL.flatMap haC)) (hH : HL.length = M) :
    Calls Try.prog 30 #[.agg #[.int .u32 id, .bool th, .slice pa N c, .slice ha M e], .agg #[.int .u32 id, .bool th, .slice pb N d, .slice hb M f]] w fun e w' => e = .returned (.bool true) ∧ Kept (fun _ => False) w w' := by
  obtain ⟨m1, m2⟩ := cap_of hpa
  obtain ⟨m3, m4⟩ := cap_of hpb
  obtain ⟨m5, m6⟩ := cap_of hha
  obtain ⟨m7, m8⟩ := cap_of hhb
  have HPA := hid hpa; have HPB := hid hpb; have HHA := hid hha; have HHB := hid hhb
  have HPN := hid hP; have HHN := hid hH
  clear hpa hpb hha hhb hP hH
  have htw := two_new w (.cells #[.int .u32 id, .bool th, .slice pa N c, .slice ha M e] 89) (.cells #[.int .u32 id, .bool th, .slice pb N d, .slice hb M f] 89)
  have hk1 := ((Kept.refl (fun _ => False) w).alloc (.cells #[.int .u32 id, .bool th, .slice pa N c, .slice ha M e] 89)).alloc (.cells #[.int .u32 id, .bool th, .slice pb N d, .slice hb M f] 89)
  go_enter Try.func30, Try.ntmps30
  go_upto_region 1 with fail
  obtain ⟨w1, hw1⟩ : ∃ w1, (w.alloc (.cells #[.int .u32 id, .bool th, .slice pa N c, .slice ha M e] 89)).alloc (.cells #[.int .u32 id, .bool th, .slice pb N d, .slice hb M f] 89) = w1 := ⟨_, rfl⟩
  obtain ⟨bx, hbx⟩ : ∃ bx, w.heap.size = bx := ⟨_, rfl⟩
  rw [hw1] at htw hk1
  rw [hbx] at htw
  try rw [hw1]
  try rw [hbx]
  have R0 := hid htw.1; have R1 := hid htw.2; have K1 := hid hk1
  have HPA1 := hid (HPA.out.same hk1); have HPB1 := hid (HPB.out.same hk1); have HHA1 := hid (HHA.out.same hk1); have HHB1 := hid (HHB.out.same hk1)
  obtain ⟨y0, y1, y2, y3, yf⟩ := cells4 R0.out
  obtain ⟨z0, z1, z2, z3, zf⟩ := cells4 R1.out
  clear htw hk1 hw1 hbx yf zf HPA HPB HHA HHB
  go_wp2_with fail
  clear y0 y1 y2 y3 z0 z1 z2 z3
  go_loopw [40] (fun i wr => ∃ k : Nat, k ≤ N ∧ i = .int .i64 k ∧ Kept (fun _ => False) w1 wr) (fun i _ => N - (RowKit.intOf i).toNat)
  case atStart => exact ⟨0, Nat.zero_le _, rfl, Kept.refl _ _⟩
  case round =>
    rename World => wr
    obtain ⟨k, hk, rfl, hkp⟩ := hrel
    have KR := hid hkp
    clear hkp
    by_cases hlt : k < N
    · have hltI : (k : Int) < (N : Int) := by omega
      obtain ⟨x, hx⟩ : ∃ x, PL[k]? = some x := ⟨_, List.getElem?_eq_getElem (by have := HPN.out; omega)⟩
      obtain ⟨g1, o1, rfl, f1⟩ := Lies.el (enc := prC) (fun _ => rfl) HPA1.out HPN.out KR.out hx
      obtain ⟨g2, o2, rfl, f2⟩ := Lies.el (enc := prC) (fun _ => rfl) HPB1.out HPN.out KR.out hx
      clear hx
      obtain ⟨y0, y1, y2, y3, yf⟩ := cells4 ((KR.out.block bx (row_lt R0.out) (fun h => h)).trans R0.out)
      obtain ⟨z0, z1, z2, z3, zf⟩ := cells4 ((KR.out.block (bx + 1) (row_lt R1.out) (fun h => h)).trans R1.out)
      clear y0 y1 y3 yf z0 z1 z3 zf
      obtain ⟨x1, x2, x3, x4⟩ := x
      have p0 := f1 0 _ rfl; have p1 := f1 1 _ rfl; have p2 := f1 2 _ rfl; have p3 := f1 3 _ rfl
      have r0 := f2 0 _ rfl; have r1 := f2 1 _ rfl; have r2 := f2 2 _ rfl; have r3 := f2 3 _ rfl
      simp only [Nat.add_zero] at p0 p1 p2 p3 r0 r1 r2 r3
      have hq := eq_prop x1 x2 x3 x4
      clear f1 f2
      go_wp2_with fail
      go_quiet (fail)
      have K1 := hid (KR.out.trans (kdr wr nq))
      go_wp2
      go_roundw
      case rel => exact ⟨k + 1, by omega, by go_num, K1.out⟩
      case measure => (simp only [RowKit.intOf]; omega)
    · have K5 := hid KR.out
      obtain ⟨y0, y1, y2, y3, yf⟩ := cells4 ((KR.out.block bx (row_lt R0.out) (fun h => h)).trans R0.out)
      obtain ⟨z0, z1, z2, z3, zf⟩ := cells4 ((KR.out.block (bx + 1) (row_lt R1.out) (fun h => h)).trans R1.out)
      clear y0 y1 y2 yf z0 z1 z2 zf
      rename World => w5
      clear KR
      go_wp2_with fail
      clear y3 z3
      go_loopw [58] (fun i wr => ∃ k : Nat, k ≤ M ∧ i = .int .i64 k ∧ Kept (fun _ => False) w1 wr) (fun i _ => M - (RowKit.intOf i).toNat)
      case atStart => exact ⟨0, Nat.zero_le _, rfl, K5.out⟩
      case round =>
        rename World => wr
        obtain ⟨k, hk, rfl, hkp⟩ := hrel
        have KR := hid hkp
        clear hkp
        by_cases hlt : k < M
        · have hltI : (k : Int) < (M : Int) := by omega
          obtain ⟨x, hx⟩ : ∃ x, HL[k]? = some x := ⟨_, List.getElem?_eq_getElem (by have := HHN.out; omega)⟩
          obtain ⟨g1, o1, rfl, f1⟩ := Lies.el (enc := haC) (fun _ => rfl) HHA1.out HHN.out KR.out hx
          obtain ⟨g2, o2, rfl, f2⟩ := Lies.el (enc := haC) (fun _ => rfl) HHB1.out HHN.out KR.out hx
          clear hx
          obtain ⟨y0, y1, y2, y3, yf⟩ := cells4 ((KR.out.block bx (row_lt R0.out) (fun h => h)).trans R0.out)
          obtain ⟨z0, z1, z2, z3, zf⟩ := cells4 ((KR.out.block (bx + 1) (row_lt R1.out) (fun h => h)).trans R1.out)
          clear y0 y1 y2 yf z0 z1 z2 zf
          obtain ⟨x1, x2, x3, x4⟩ := x
          have p0 := f1 0 _ rfl; have p1 := f1 1 _ rfl; have p2 := f1 2 _ rfl; have p3 := f1 3 _ rfl
          have r0 := f2 0 _ rfl; have r1 := f2 1 _ rfl; have r2 := f2 2 _ rfl; have r3 := f2 3 _ rfl
          simp only [Nat.add_zero] at p0 p1 p2 p3 r0 r1 r2 r3
          have hq := eq_half x1 x2 x3 x4
          clear f1 f2
          go_wp2_with fail
          go_quiet (fail)
          have K1 := hid (KR.out.trans (kdr wr nq))
          go_wp2
          go_roundw
          case rel => exact ⟨k + 1, by omega, by go_num, K1.out⟩
          case measure => (simp only [RowKit.intOf]; omega)
        · go_wp2
          go_ret
          exact ⟨rfl, K1.out.trans KR.out⟩
end Go.Proofs.Ytnlbdlbinoebgaa
