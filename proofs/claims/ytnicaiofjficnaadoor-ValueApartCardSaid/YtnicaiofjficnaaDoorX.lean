/- ValueTexts' walk. -/
import Derived.Test.YtnicaiofjficnaaDoorW
namespace Go.Proofs.YtnicaiofjficnaaDoor
open Go.RowKit
theorem errs_of {laid : List (String × DataW Unit)} {W : World} (h : laidMetH Tryd.prog laid W) (h2 : (laid.all fun x => x.2.handleName?.isNone) = true) (h3 : (laid.any fun x => x.1 == "strconv.ErrSyntax") = true) (h4 : (laid.any fun x => x.1 == "strconv.ErrRange") = true) : Errs W := by
  rw [MakeChecks.laidMetH_plain _ _ _ h2] at h
  obtain ⟨⟨n1, d1⟩, m1, e1⟩ := List.any_eq_true.1 h3
  obtain ⟨⟨n2, d2⟩, m2, e2⟩ := List.any_eq_true.1 h4
  simp only [beq_iff_eq] at e1 e2
  subst e1 e2
  exact ⟨iface_of (by kernel_rfl) (by kernel_rfl) Tryd.underlying55 (Lib.laidMet.reads h m1), iface_of (by kernel_rfl) (by kernel_rfl) Tryd.underlying55 (Lib.laidMet.reads h m2)⟩
set_option maxHeartbeats 4000000 in
set_option maxRecDepth 100000 in
theorem texts_walk {laid : List (String × DataW Unit)} (hlaid : (laid.filter fun x => x.1 == "internal/strconv.uint64pow10") = [("internal/strconv.uint64pow10", Lib.tabData .u64 Lib.pow10Tab)]) (h2 : (laid.all fun x => x.2.handleName?.isNone) = true) (h3 : (laid.any fun x => x.1 == "strconv.ErrSyntax") = true) (h4 : (laid.any fun x => x.1 == "strconv.ErrRange") = true) (W : World) (args : Array Value) (hL : laidMetH Tryd.prog laid W) (h : RdAll Tryd.prog W Tryd.f6.params.toList args.toList) :
    Calls Tryd.prog 6 args W fun e W' => e = .returned (.bool true) ∧ Below W.heap.size W W' := by
  have ht := tab_of hL hlaid
  have hE := errs_of hL h2 h3 h4
  clear hL hlaid h2 h3 h4
  rw [Tryd.params6] at h
  obtain ⟨v0, v1, rfl⟩ : ∃ v0 v1, args = #[v0, v1] := by
    rcases args with ⟨_ | ⟨v0, _ | ⟨v1, _ | ⟨v2, l⟩⟩⟩⟩ <;> simp [RdAll] at h
    exact ⟨v0, v1, rfl⟩
  obtain ⟨r0, r1, _⟩ := h
  obtain ⟨v, rfl, hv⟩ := val_arg r0
  obtain ⟨s, rfl, hs⟩ := r1.string Tryd.underlying9
  unfold reachBytes at hs
  have hs' : s.size ≤ 140737488355327 := by omega
  obtain ⟨⟨a, g⟩, hpd⟩ : ∃ x, pd s = x := ⟨_, rfl⟩
  obtain ⟨t, htt⟩ : ∃ t, wrS v = t := ⟨_, rfl⟩
  obtain ⟨fv, hfv⟩ : ∃ b, formB v = b := ⟨_, rfl⟩
  have htz := wrS_size hv
  rw [htt] at htz
  have HV := hid hv; have HPD := hid hpd; have HT := hid htt; have HFV := hid hfv; have HS := hid hs'; have HTZ := hid htz
  clear r0 r1 hv hs hs' hpd htt hfv htz
  obtain ⟨k, n, q⟩ := v
  obtain ⟨a1, a2, a3⟩ := a
  unfold vv
  simp only
  have hr := row_new W (.cells #[.int .u8 k, .int .i64 n, .string q] 23)
  have hk := (Kept.refl (fun _ => False) W).alloc (.cells #[.int .u8 k, .int .i64 n, .string q] 23)
  obtain ⟨w0, hw0⟩ : ∃ w0, W.alloc (.cells #[.int .u8 k, .int .i64 n, .string q] 23) = w0 := ⟨_, rfl⟩
  obtain ⟨vb, hvb⟩ : ∃ vb, W.heap.size = vb := ⟨_, rfl⟩
  rw [hw0] at hr hk
  rw [hvb] at hr
  have V0 := hid hr; have K0 := hid hk
  clear hr hk
  go_enter Tryd.func6, Tryd.ntmps6
  go_wp2_with fail
  try rw [hw0]
  clear hw0 hvb
  refine (awake_any _ (ht.kept K0.out)).mono ?_; rintro e' w1 ⟨rfl, hk⟩
  have K1 := hid (K0.out.trans hk); have V1 := hid ((hk.block _ (row_lt V0.out) id).trans V0.out)
  clear hk K0 V0
  obtain ⟨c0, c1, c2⟩ := encV_cells (v := (k, n, q)) V1.out
  simp only at c0 c1 c2
  go_wp2_with fail
  refine (write_any (k, n, q) HV.out.1 HV.out.2.1 HV.out.2.2 _ (ht.kept K1.out)).mono ?_; rintro e' w2 ⟨rfl, hk⟩
  rw [HT.out, HFV.out]
  have K2 := hid (K1.out.trans hk); have V2 := hid ((hk.block _ (row_lt V1.out) id).trans V1.out)
  clear hk K1 V1 c0 c1 c2
  obtain ⟨c0, c1, c2⟩ := encV_cells (v := (k, n, q)) V2.out
  simp only at c0 c1 c2
  go_wp2_with fail
  refine (docwrite_any (k, n, q) HV.out.1 HV.out.2.1 HV.out.2.2 _).mono ?_; rintro e' w3 ⟨rfl, hk⟩
  rw [HT.out, HFV.out]
  have K3 := hid (K2.out.trans hk); have V3 := hid ((hk.block _ (row_lt V2.out) id).trans V2.out)
  clear hk K2 V2 c0 c1 c2
  go_wp2_with fail
  refine (parse_any s HS.out _ (hE.kept K3.out) (ht.kept K3.out)).mono ?_; rintro e' w4 ⟨rfl, hk⟩
  rw [HPD.out]
  simp only [vv]
  have K4 := hid (K3.out.trans hk); have V4 := hid ((hk.block _ (row_lt V3.out) id).trans V3.out)
  clear hk K3 V3
  go_wp2_with fail
  have hr := row_new w4 (.cells #[.int .u8 a1, .int .i64 a2, .string a3] 23)
  have hk := (Kept.refl (fun _ => False) w4).alloc (.cells #[.int .u8 a1, .int .i64 a2, .string a3] 23)
  obtain ⟨w5, hw5⟩ : ∃ w5, w4.alloc (.cells #[.int .u8 a1, .int .i64 a2, .string a3] 23) = w5 := ⟨_, rfl⟩
  obtain ⟨ab, hab⟩ : ∃ ab, w4.heap.size = ab := ⟨_, rfl⟩
  rw [hw5] at hr hk ⊢
  rw [hab] at hr ⊢
  have A5 := hid hr; have K5 := hid (K4.out.trans hk); have V5 := hid ((hk.block _ (row_lt V4.out) id).trans V4.out)
  clear hr hk hw5 hab K4 V4
  refine (docparse_any s HS.out _).mono ?_; rintro e' w6 ⟨rfl, hk⟩
  rw [HPD.out]
  simp only [vv]
  have K6 := hid (K5.out.trans hk); have V6 := hid ((hk.block _ (row_lt V5.out) id).trans V5.out); have A6 := hid ((hk.block _ (row_lt A5.out) id).trans A5.out)
  clear hk K5 V5 A5
  have hr := row_new w6 (.cells #[.int .u8 a1, .int .i64 a2, .string a3] 23)
  have hk := (Kept.refl (fun _ => False) w6).alloc (.cells #[.int .u8 a1, .int .i64 a2, .string a3] 23)
  obtain ⟨w7, hw7⟩ : ∃ w7, w6.alloc (.cells #[.int .u8 a1, .int .i64 a2, .string a3] 23) = w7 := ⟨_, rfl⟩
  obtain ⟨bb, hbb⟩ : ∃ bb, w6.heap.size = bb := ⟨_, rfl⟩
  rw [hw7] at hr hk
  rw [hbb] at hr
  have B7 := hid hr; have K7 := hid (K6.out.trans hk); have V7 := hid ((hk.block _ (row_lt V6.out) id).trans V6.out); have A7 := hid ((hk.block _ (row_lt A6.out) id).trans A6.out)
  clear hr hk K6 V6 A6
  obtain ⟨a0', a1', a2'⟩ := encV_cells (v := (a1, a2, a3)) A7.out
  obtain ⟨b0', b1', b2'⟩ := encV_cells (v := (a1, a2, a3)) B7.out
  simp only at a0' a1' a2' b0' b1' b2'
  by_cases hg : g = 0
  · subst hg
    have HOK := hid (pd_ok HPD.out)
    go_wp2_with fail
    clear hw7 hbb
    refine (write_any (a1, a2, a3) (HOK.out.2.2 HS.out).1 (HOK.out.2.2 HS.out).2.1 (HOK.out.2.2 HS.out).2.2 _ (ht.kept K7.out)).mono ?_; rintro e' w8 ⟨rfl, hk⟩
    rw [HOK.out.2.1, HOK.out.1]
    have K8 := hid (K7.out.trans hk); have V8 := hid ((hk.block _ (row_lt V7.out) id).trans V7.out)
    clear hk a0' a1' a2' b0' b1' b2'
    rw [show chk true = 0 from rfl]
    cases fv
    · rw [show chk false = 3 from rfl]
      go_wp2_with fail
      go_ret
      exact ⟨rfl, K8.out.below (Nat.le_refl _) (fun _ h => h.elim)⟩
    · try rw [show chk true = 0 from rfl]
      go_wp2_with fail
      have HPT := hid (show pd t = ((k, n, q), 0) by rw [← HT.out]; exact pd_back HFV.out HV.out)
      refine (parse_any t HTZ.out _ (hE.kept K8.out) (ht.kept K8.out)).mono ?_; rintro e' w9 ⟨rfl, hk⟩
      rw [HPT.out]
      simp only [vv]
      have K9 := hid (K8.out.trans hk); have V9 := hid ((hk.block _ (row_lt V8.out) id).trans V8.out)
      clear hk
      have hr := row_new w9 (.cells #[.int .u8 k, .int .i64 n, .string q] 23)
      have hk := (Kept.refl (fun _ => False) w9).alloc (.cells #[.int .u8 k, .int .i64 n, .string q] 23)
      obtain ⟨w10, hw10⟩ : ∃ w10, w9.alloc (.cells #[.int .u8 k, .int .i64 n, .string q] 23) = w10 := ⟨_, rfl⟩
      obtain ⟨tb, htb⟩ : ∃ tb, w9.heap.size = tb := ⟨_, rfl⟩
      rw [hw10] at hr hk
      rw [htb] at hr
      have T10 := hid hr; have K10 := hid (K9.out.trans hk); have V10 := hid ((hk.block _ (row_lt V9.out) id).trans V9.out)
      clear hr hk
      obtain ⟨v0', v1', v2'⟩ := encV_cells (v := (k, n, q)) V10.out
      obtain ⟨t0', t1', t2'⟩ := encV_cells (v := (k, n, q)) T10.out
      simp only at v0' v1' v2' t0' t1' t2'
      go_wp2_with fail
      go_ret
      exact ⟨rfl, K10.out.below (Nat.le_refl _) (fun _ h => h.elim)⟩
  · have hgb : (g == 0) = false := by simpa using hg
    clear hg
    cases fv
    · rw [show chk false = 3 from rfl]
      go_wp2_with fail
      go_ret
      exact ⟨rfl, K7.out.below (Nat.le_refl _) (fun _ h => h.elim)⟩
    · rw [show chk true = 0 from rfl]
      go_wp2_with fail
      clear hw7 hbb
      have HPT := hid (show pd t = ((k, n, q), 0) by rw [← HT.out]; exact pd_back HFV.out HV.out)
      refine (parse_any t HTZ.out _ (hE.kept K7.out) (ht.kept K7.out)).mono ?_; rintro e' w9 ⟨rfl, hk⟩
      rw [HPT.out]
      simp only [vv]
      have K9 := hid (K7.out.trans hk); have V9 := hid ((hk.block _ (row_lt V7.out) id).trans V7.out)
      clear hk
      have hr := row_new w9 (.cells #[.int .u8 k, .int .i64 n, .string q] 23)
      have hk := (Kept.refl (fun _ => False) w9).alloc (.cells #[.int .u8 k, .int .i64 n, .string q] 23)
      obtain ⟨w10, hw10⟩ : ∃ w10, w9.alloc (.cells #[.int .u8 k, .int .i64 n, .string q] 23) = w10 := ⟨_, rfl⟩
      obtain ⟨tb, htb⟩ : ∃ tb, w9.heap.size = tb := ⟨_, rfl⟩
      rw [hw10] at hr hk
      rw [htb] at hr
      have T10 := hid hr; have K10 := hid (K9.out.trans hk); have V10 := hid ((hk.block _ (row_lt V9.out) id).trans V9.out)
      clear hr hk
      obtain ⟨v0', v1', v2'⟩ := encV_cells (v := (k, n, q)) V10.out
      obtain ⟨t0', t1', t2'⟩ := encV_cells (v := (k, n, q)) T10.out
      simp only at v0' v1' v2' t0' t1' t2'
      go_wp2_with fail
      go_ret
      exact ⟨rfl, K10.out.below (Nat.le_refl _) (fun _ h => h.elim)⟩
end Go.Proofs.YtnicaiofjficnaaDoor
