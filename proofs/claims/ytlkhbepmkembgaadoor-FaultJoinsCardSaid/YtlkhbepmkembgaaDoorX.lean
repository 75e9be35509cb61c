/- Faults: FaultWraps' walk. -/
import Derived.Test.YtlkhbepmkembgaaDoorV
namespace Go.Proofs.YtlkhbepmkembgaaDoor
open Go.RowKit
/-- a slice of one link that lies behind B -/
def OwnLit (B : Nat) (w : World) (v : Value) (l : FL) : Prop := Own w 42 2 v 1 (lcell l) ∧ ∀ g, v.ownBlock = some g → B ≤ g
theorem ownLit_new {w9 x : World} (k : Kept (fun _ => False) w9 x) (l : FL) : OwnLit w9.heap.size (x.alloc (.cells #[.int .i64 l.1, .int .u32 l.2] 42)) (.slice (some ⟨x.heap.size, 0, none⟩) 1 1) l :=
  ⟨Own.mk (size := 2) (row_new x (.cells #[.int .i64 l.1, .int .u32 l.2] 42)) (Nat.le_refl 1) (by decide) rfl, fun g hg => by simp [Value.ownBlock] at hg; rw [← hg]; exact k.size⟩
theorem OwnLit.kept {B : Nat} {w w' : World} {v : Value} {l : FL} (h : OwnLit B w v l) (k : Kept (fun _ => False) w w') : OwnLit B w' v l := ⟨h.1.kept k (fun _ _ => id), h.2⟩
/-- append(one link, a list of them): one step of a region that draws its order -/
theorem step_join {ops : Array Oper} {o : Oper} {a : Act} {w : World} {K : Act → World → Prop} {Q : Exit → Act → World → Prop} {E : Prop} {tm : Array Value} (d : Option Tmp) (hd : o.dst = d) (hw : Region.wanted o (yielded ops tm) = true) (s x : Operand)
    (ho : o.op = .call { callee := .builtin .append, args := #[s, x], argTypes := #[22, 22] }) {w9 : World} (l : FL) (M : List FL) (v : Value) (hs : a.eval s = v) (hOL : OwnLit w9.heap.size w v l) (kc : Kept (fun _ => False) w9 w)
    (xv : Value) (hxv : a.eval x = xv) (hM : LL w xv M) (hb : M.length ≤ 1000)
    (h : ∀ a' c' w', LL w' (.slice a' (M.length + 1) c') (l :: M) → Kept (fun _ => False) w9 w' → K (a.put d (.slice a' (M.length + 1) c')) w') :
    if Region.wanted o (yielded ops tm) = true then Oper.wp Tryd.prog o a w K Q else E := by
  subst hd
  rw [if_pos hw]
  obtain ⟨i, hi1, hi2, hi3, hi4⟩ := info_parts linkInfoR
  obtain ⟨v', w', hr, h1, h2, h3, h4⟩ := run_append_grows (P := Tryd.prog) w 22 o.type 42 i _ 2 16 Tryd.underlying22 hi1 hi2 hi3 hi4 rfl (by decide) v 1 (lcell l) hOL.1 xv M.length (lcells M) hM.src (by unfold maxLen; omega) (by omega)
  obtain ⟨a', c', rfl⟩ := h1.isSlice
  rw [Nat.add_comm 1 M.length] at hr h1 h3 h4
  unfold Oper.wp
  simp only [execOp, ho, resolve, invoke, builtin, Sem.run_bind, Sem.run_pure, Result.andThen_ok, List.map_toArray, List.map_cons, List.map_nil, hs, hxv, hr]
  exact h a' c' w' (h1.lies (lcells_one (l :: M)) (fun _ _ => id)) (kc.trans' h2 (fun i hi => .inr (hOL.2 i hi)))
set_option maxHeartbeats 4000000 in
set_option maxRecDepth 100000 in
theorem wraps_walk {laid : List (String × DataW Unit)} (h1 : (laid.filter fun x => x.1 == "internal/strconv.uint64pow10") = [("internal/strconv.uint64pow10", Lib.tabData .u64 Lib.pow10Tab)])
    (h2 : (laid.filter fun x => x.1 == "errors.errorType") = [("errors.errorType", .iface "internal/reflectlite.rtype" (.agg [.ptr (.lit (.string [101, 114, 114, 111, 114]))]))]) (W : World) (args : Array Value) (hL : laidMetH Tryd.prog laid W) (h : RdAll Tryd.prog W Tryd.f4.params.toList args.toList) :
    Calls Tryd.prog 4 args W fun e W' => e = .returned (.bool true) ∧ Below W.heap.size W W' := by
  have HEnv := hid (env_of hL h1 h2)
  clear hL h1 h2
  rw [Tryd.params4] at h
  obtain ⟨v0, v1, v2, rfl⟩ : ∃ v0 v1 v2, args = #[v0, v1, v2] := by
    rcases args with ⟨_ | ⟨v0, _ | ⟨v1, _ | ⟨v2, _ | ⟨v3, l⟩⟩⟩⟩⟩ <;> simp [RdAll] at h
    exact ⟨v0, v1, v2, rfl⟩
  obtain ⟨r0, r1, r2, hrest⟩ := h
  obtain ⟨u, r, A, rfl, hA, hwl, hr0, hr1⟩ := chain_arg r0
  obtain ⟨⟨ao, aq⟩, rfl, hwa⟩ := link_arg r1
  obtain ⟨⟨bo, bq⟩, rfl, hwb⟩ := link_arg r2
  simp only
  clear r0 r1 r2 hrest
  obtain ⟨w1, hw1⟩ : ∃ w1, W.alloc (.cells #[u, .int .i64 r] 24) = w1 := ⟨_, rfl⟩
  obtain ⟨w2, hw2⟩ : ∃ w2, w1.alloc (.cells #[.int .i64 ao, .int .u32 aq] 42) = w2 := ⟨_, rfl⟩
  obtain ⟨w3, hw3⟩ : ∃ w3, w2.alloc (.cells #[.int .i64 bo, .int .u32 bq] 42) = w3 := ⟨_, rfl⟩
  have hk1 : Kept (fun _ => False) W w1 := hw1 ▸ (Kept.refl _ _).alloc _
  have hk2 : Kept (fun _ => False) w1 w2 := hw2 ▸ (Kept.refl _ _).alloc _
  have hk3 : Kept (fun _ => False) w2 w3 := hw3 ▸ (Kept.refl _ _).alloc _
  have hrc : w1.heap[W.heap.size]? = some (.cells #[u, .int .i64 r] 24 (0, 0)) := by rw [← hw1]; exact row_new _ _
  have hra : w2.heap[w1.heap.size]? = some (.cells #[.int .i64 ao, .int .u32 aq] 42 (0, 0)) := by rw [← hw2]; exact row_new _ _
  have hrb : w3.heap[w2.heap.size]? = some (.cells #[.int .i64 bo, .int .u32 bq] 42 (0, 0)) := by rw [← hw3]; exact row_new _ _
  have hrc := ((hk2.trans hk3).block _ (row_lt hrc) id).trans hrc
  have hra := (hk3.block _ (row_lt hra) id).trans hra
  obtain ⟨cb, hcb⟩ : ∃ cb, W.heap.size = cb := ⟨_, rfl⟩
  obtain ⟨ab, hab⟩ : ∃ cb, w1.heap.size = cb := ⟨_, rfl⟩
  obtain ⟨bb, hbb⟩ : ∃ cb, w2.heap.size = cb := ⟨_, rfl⟩
  rw [hcb] at hrc
  rw [hab] at hra
  rw [hbb] at hrb
  have K3 := hid ((hk1.trans hk2).trans hk3)
  have RC := hid hrc; have RA := hid hra; have RB := hid hrb
  have HAW := hid (awake_any w3 (HEnv.out.kept K3.out))
  have HA := hid hA; have HWL := hid (cut_wl hwl); have HR := hid (And.intro hr0 hr1); have HWA := hid hwa
  have HLC := hid (cut_len A)
  obtain ⟨uo, uc, rfl⟩ := hA.isSlice
  clear hA hwl hr0 hr1 hk1 hk2 hk3 hrc hra hrb hwa hwb
  go_enter Tryd.func4, Tryd.ntmps4
  go_wp2_with fail
  clear hw1 hw2 hw3 hcb hab hbb
  refine HAW.out.mono ?_; rintro e w4 ⟨rfl, hk4⟩
  have K4 := hid (K3.out.trans hk4)
  have J4 := hid hk4
  have hrc4 := (hk4.block cb (row_lt RC.out) id).trans RC.out
  have c0 := row_cell hrc4 0
  have c1 := row_cell hrc4 1
  simp at c0 c1
  have HB := hid (build_any r (HA.out.same K4.out))
  clear hk4 hrc4 HAW
  by_cases hr : r = 0
  · have hrb : (r == 0) = true := by simpa using hr
    clear hr
    go_wp2_with fail
    go_ret
    exact ⟨rfl, K4.out.below (Nat.le_refl _) (fun _ h => h.elim)⟩
  have hrb : (r == 0) = false := by simpa using hr
  have HZ := hid hr
  clear hr
  go_wp2_with fail
  refine HB.out.mono ?_; rintro e w5 ⟨x, d, rfl, hE, hd, hk5⟩
  obtain ⟨w6, hw6⟩ : ∃ w6, w5.alloc (.cells #[d, .int .i64 r] 24) = w6 := ⟨_, rfl⟩
  have hk6 : Kept (fun _ => False) w5 w6 := hw6 ▸ (Kept.refl _ _).alloc _
  have hrd : w6.heap[w5.heap.size]? = some (.cells #[d, .int .i64 r] 24 (0, 0)) := by rw [← hw6]; exact row_new _ _
  obtain ⟨db, hdb⟩ : ∃ db, w5.heap.size = db := ⟨_, rfl⟩
  rw [hdb] at hrd
  have K6 := hid (K4.out.trans (hk5.trans hk6))
  have J6 := hid (J4.out.trans (hk5.trans hk6))
  have RD := hid hrd
  have HER := hid ((hE.kept hk6).err HZ.out)
  have HD := hid (hd.same hk6)
  obtain ⟨dO, dC, rfl⟩ := hd.isSlice
  obtain ⟨te, pe, rfl⟩ := HER.out.iface
  clear c0 c1 hE hd hk5 hk6 hrd HB HA
  -- what holds as long as nothing older is written
  have HS := hid (show ∀ w', Kept (fun _ => False) w6 w' → w'.cell? ⟨cb, 1, none⟩ = some (.int .i64 r) ∧ w'.cell? ⟨db, 0, none⟩ = some (.slice dO (cut A).length dC) ∧ w'.cell? ⟨ab, 0, none⟩ = some (.int .i64 ao) ∧ w'.cell? ⟨ab, 1, none⟩ = some (.int .u32 aq) ∧ w'.cell? ⟨bb, 0, none⟩ = some (.int .i64 bo) ∧ w'.cell? ⟨bb, 1, none⟩ = some (.int .u32 bq) from fun w' k =>
    ⟨(J6.out.trans k).cell (row_cell RC.out 1) id, k.cell (row_cell RD.out 0) id, (J6.out.trans k).cell (row_cell RA.out 0) id, (J6.out.trans k).cell (row_cell RA.out 1) id, (J6.out.trans k).cell (row_cell RB.out 0) id, (J6.out.trans k).cell (row_cell RB.out 1) id⟩)
  have HWRA := hid (fun w' k => wrap_some (HER.out.kept (w' := w') (F := fun _ => False) k (fun _ _ => id)) ((ao, aq) : FL))
  have HWRB := hid (fun w' k => wrap_some (HER.out.kept (w' := w') (F := fun _ => False) k (fun _ _ => id)) ((bo, bq) : FL))
  simp only at HWRA HWRB
  have k0 : Kept (fun _ => False) w6 w6.drew := (Kept.refl _ _).drew
  have s0 := HS.out _ k0
  go_wp2_with fail
  clear hw6 hdb
  go_region_held3 (fun w' => w'.cell? ⟨cb, 1, none⟩ = some (.int .i64 r) ∧ w'.cell? ⟨db, 0, none⟩ = some (.slice dO (cut A).length dC) ∧ w'.cell? ⟨ab, 0, none⟩ = some (.int .i64 ao) ∧ w'.cell? ⟨ab, 1, none⟩ = some (.int .u32 aq) ∧ w'.cell? ⟨bb, 0, none⟩ = some (.int .i64 bo) ∧ w'.cell? ⟨bb, 1, none⟩ = some (.int .u32 bq)) (first | exact s0 | exact s1 | exact s2)
    (first
      | (go_at_call 16; refine (HWRA.out _ k0).mono ?_; rintro e w7 ⟨y1, rfl, he, hk⟩; have K7 := hid (k0.trans hk); have s1 := HS.out _ K7.out; have HX7 := hid he; clear hk he s0 k0 HWRA)
      | (go_at_call 16; refine (HWRB.out _ K7.out).mono ?_; rintro e w8 ⟨y2, rfl, he, hk⟩; have K8 := hid (K7.out.trans hk); have s2 := HS.out _ K8.out; have HX8 := hid (HX7.out.kept (F := fun _ => False) hk (fun _ _ => id)); have HY8 := hid he; clear hk he s1 HWRB HX7))
  clear s2
  have HLEN := hid (show ((ao, aq) :: cut A).length ≤ 1000 by have := HLC.out.2; simp only [List.length_cons]; omega)
  have HLENB := hid (show ((bo, bq) :: cut A).length ≤ 1000 by have := HLC.out.2; simp only [List.length_cons]; omega)
  have HEV := hid (HEnv.out.kept (K6.out.trans K8.out))
  have HF1 := hid (flinks_any HX8.out HEV.out.et HLEN.out)
  obtain ⟨ty1, py1, rfl⟩ := HX8.out.iface
  obtain ⟨ty2, py2, rfl⟩ := HY8.out.iface
  go_wp2_with fail
  refine HF1.out.mono ?_; rintro e w9 ⟨q1, rfl, hq, hk⟩
  have K9 := hid hk
  have HF2 := hid (lawlinks_any hq HLEN.out)
  clear hq hk HF1
  go_wp2_with fail
  refine HF2.out.mono ?_; rintro e w10 ⟨q2, rfl, hq, hk⟩
  have K10 := hid (K9.out.trans hk)
  have HONE := hid hq
  have HF3 := hid (flinks_any (HY8.out.kept (F := fun _ => False) K10.out (fun _ _ => id)) (HEV.out.kept K10.out).et HLENB.out)
  clear hq hk HF2
  go_wp2_with fail
  refine HF3.out.mono ?_; rintro e w11 ⟨q3, rfl, hq, hk⟩
  have K11 := hid (K10.out.trans hk)
  have J11 := hid hk
  have HF4 := hid (lawlinks_any hq HLENB.out)
  clear hq hk HF3
  go_wp2_with fail
  refine HF4.out.mono ?_; rintro e w12 ⟨q4, rfl, hq, hk⟩
  have K12 := hid (K11.out.trans hk)
  have hone := HONE.out.same (J11.out.trans hk)
  obtain ⟨g1, f1, z1, hv1, a0, a1⟩ := ll_at hone (k := 0) rfl
  obtain ⟨g2, f2, z2, hv2, b0, b1⟩ := ll_at hq (k := 0) rfl
  simp only [List.length_cons, Nat.zero_mul, Nat.add_zero] at hv1 hv2 a0 a1 b0 b1
  obtain ⟨m, hm⟩ : ∃ m, (cut A).length + 1 = m := ⟨_, rfl⟩
  rw [hm] at hv1 hv2
  have hmw : IntKind.i64.wrap (((cut A).length : Int) + 1) = (m : Int) := by have := HLC.out.2; simp [IntKind.wrap, IntKind.bits, IntKind.signed]; omega
  have hm0 : (0 : Int) < (m : Int) := by omega
  have hm0' : 0 < m := by omega
  have HMM := hid hm
  clear hm
  subst hv1
  subst hv2
  have HS2 := hid (show ∀ w', Kept (fun _ => False) w12 w' → w'.cell? ⟨cb, 1, none⟩ = some (.int .i64 r) ∧ w'.cell? ⟨db, 0, none⟩ = some (.slice dO (cut A).length dC) ∧ w'.cell? ⟨ab, 0, none⟩ = some (.int .i64 ao) ∧ w'.cell? ⟨ab, 1, none⟩ = some (.int .u32 aq) ∧ w'.cell? ⟨bb, 0, none⟩ = some (.int .i64 bo) ∧ w'.cell? ⟨bb, 1, none⟩ = some (.int .u32 bq) ∧ w'.cell? ⟨g1, f1, none⟩ = some (.int .i64 ao) ∧ w'.cell? ⟨g1, f1 + 1, none⟩ = some (.int .u32 aq) ∧ w'.cell? ⟨g2, f2, none⟩ = some (.int .i64 bo) ∧ w'.cell? ⟨g2, f2 + 1, none⟩ = some (.int .u32 bq) from fun w' k => by
    obtain ⟨i1, i2, i3, i4, i5, i6⟩ := HS.out w' ((K8.out.trans K12.out).trans k)
    exact ⟨i1, i2, i3, i4, i5, i6, k.cell a0 id, k.cell a1 id, k.cell b0 id, k.cell b1 id⟩)
  have KALL := hid (K8.out.trans K12.out)
  have HE12 := hid (HER.out.kept (F := fun _ => False) KALL.out (fun _ _ => id))
  have HX12 := hid (HX8.out.kept (F := fun _ => False) K12.out (fun _ _ => id))
  have HD12 := hid (HD.out.same KALL.out)
  have HEV12 := hid (HEV.out.kept K12.out)
  have H30 := hid (Nat.le_trans HLC.out.2 (by decide : 30 ≤ 1000))
  have HWLA := hid (show ∀ l ∈ (ao, aq) :: cut A, Wl l from fun l hl => by
    rcases List.mem_cons.1 hl with rfl | hl
    · exact HWA.out
    · exact HWL.out l hl)
  have HLINKS := hid (fun w k => flinks_any (HE12.out.kept (w' := w) (F := fun _ => False) k (fun _ _ => id)) (HEV12.out.kept k).et H30.out)
  have HTEXT := hid (fun w k => text_any (HX12.out.kept (w' := w) (F := fun _ => False) k (fun _ _ => id)) (HEV12.out.kept k).et (HEV12.out.kept k).tab HLEN.out HWLA.out HR.out.1 HR.out.2)
  have kc : Kept (fun _ => False) w12 w12.drew := (Kept.refl _ _).drew
  clear hq hk hone a0 a1 b0 b1 HF4 HONE
  go_wp2_with fail
  go_region_held3 (fun w' => w'.cell? ⟨cb, 1, none⟩ = some (.int .i64 r) ∧ w'.cell? ⟨db, 0, none⟩ = some (.slice dO (cut A).length dC) ∧ w'.cell? ⟨ab, 0, none⟩ = some (.int .i64 ao) ∧ w'.cell? ⟨ab, 1, none⟩ = some (.int .u32 aq) ∧ w'.cell? ⟨bb, 0, none⟩ = some (.int .i64 bo) ∧ w'.cell? ⟨bb, 1, none⟩ = some (.int .u32 bq) ∧ w'.cell? ⟨g1, f1, none⟩ = some (.int .i64 ao) ∧ w'.cell? ⟨g1, f1 + 1, none⟩ = some (.int .u32 aq) ∧ w'.cell? ⟨g2, f2, none⟩ = some (.int .i64 bo) ∧ w'.cell? ⟨g2, f2 + 1, none⟩ = some (.int .u32 bq)) (first | exact HS2.out _ kc | exact HS2.out _ (kc.alloc _))
    (first
      | (go_at_call 11; refine (HLINKS.out _ kc).mono ?_; rintro e x1 ⟨l1, rfl, hl, hk⟩; have kd := kc.trans hk; clear kc; have kc := kd; clear kd; have HL2 := hid hl; clear hk hl HLINKS)
      | (go_at_call 14; refine (lawlinks_any HL2.out H30.out).mono ?_; rintro e x2 ⟨l2, rfl, hl, hk⟩; have kd := kc.trans hk; clear kc; have kc := kd; clear kd; have HL3 := hid hl; clear hk hl HL2)
      | (go_at_call 13; refine (samelinks_any HL3.out (HD12.out.same kc)).mono ?_; rintro e x3 ⟨he, hk⟩; rw [decide_eq_true rfl] at he; subst he; have kd := kc.trans hk; clear kc; have kc := kd; clear kd; clear hk HL3)
      | (go_at_call 12; refine (HTEXT.out _ kc).mono ?_; rintro e x4 ⟨rfl, hk⟩; (try have LLA := hid (LLA.out.same hk)); have kd := kc.trans hk; clear kc; have kc := kd; clear kd; clear hk HTEXT)
      | (go_at_call 12; refine (HTEXT.out _ (kc.alloc _)).mono ?_; rintro e x4 ⟨rfl, hk⟩; have OL := hid ((ownLit_new kc ((ao, aq) : FL)).kept hk); have kd := (kc.alloc _).trans hk; clear kc; have kc := kd; clear kd; clear hk HTEXT)
      | (refine step_join (some 84) rfl (by rfl) (.tmp 81) (.tmp 83) rfl (w9 := w12) ((ao, aq) : FL) (cut A) _ rfl OL.out kc _ rfl (HD12.out.same kc) H30.out ?_; intro a' c' x5 hl hk; have kc := hk; have LLA := hid hl; clear hk hl)
      | (refine step_join (some 84) rfl (by rfl) (.tmp 81) (.tmp 83) rfl (w9 := w12) ((ao, aq) : FL) (cut A) _ rfl (ownLit_new kc ((ao, aq) : FL)) (kc.alloc _) _ rfl (HD12.out.same (kc.alloc _)) H30.out ?_; intro a' c' x5 hl hk; clear kc; have kc := hk; have LLA := hid hl; clear hk hl)
      | (go_at_call 15; refine (doctext_any LLA.out HLEN.out HWLA.out HR.out.1 HR.out.2).mono ?_; rintro e x6 ⟨rfl, hk⟩; have kd := kc.trans hk; clear kc; have kc := kd; clear kd; clear hk LLA))
  all_goals
    go_wp2_with fail
    go_ret
    exact ⟨rfl, ((K6.out.trans KALL.out).trans kc).below (Nat.le_refl _) (fun _ h => h.elim)⟩
end Go.Proofs.YtlkhbepmkembgaaDoor
