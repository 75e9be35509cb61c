/- ValueApart's walk. -/
import Derived.Test.YtnicaiofjficnaaDoorX
import Derived.Lib.SlBytesRow
namespace Go.Proofs.YtnicaiofjficnaaDoor
open Go.RowKit
theorem pd_err {s : ByteArray} {x : Vv} {g : Int} (h : pd s = (x, g)) : g = 0 ∨ g = 5 := by
  unfold pd at h
  split at h
  · simp only [Prod.mk.injEq] at h; exact .inl h.2.symm
  · split at h
    · simp only [Prod.mk.injEq] at h; exact .inl h.2.symm
    · split at h
      · simp only [Prod.mk.injEq] at h; exact .inl h.2.symm
      · simp only [Prod.mk.injEq] at h; exact .inr h.2.symm
theorem apart_more {a x : Vv} {s t : ByteArray} {g : Int} (ha : wrS a = s) (h : pd t = (x, g)) (ht : t.size = s.size + 1) : g = 5 ∨ (g = 0 ∧ x ≠ a) := by
  rcases pd_err h with rfl | rfl
  · refine .inr ⟨rfl, fun e => ?_⟩
    subst e
    have := (pd_ok h).2.1
    rw [ha] at this
    subst this
    omega
  · exact .inl rfl
theorem wr_inj {a b : Vv} (ha : formB a = true) (hb : formB b = true) (oa : okV a) (ob : okV b) (h : wrS a = wrS b) : a = b := by
  have h1 := pd_back ha oa
  have h2 := pd_back hb ob
  rw [h, h2] at h1
  simp only [Prod.mk.injEq, and_true] at h1
  exact h1.symm
theorem one_byte {m : Int} (h0 : 0 ≤ m) (h1 : m ≤ 255) : ∃ mb : ByteArray, mb.size = 1 ∧ ∀ (w : World) (b : Nat), w.cell? ⟨b, 0, none⟩ = some (.int .u8 m) → Lib.Bytes w b 0 mb := by
  refine ⟨⟨#[UInt8.ofNat m.toNat]⟩, rfl, fun w b h i hi => ?_⟩
  have : i = 0 := by have : (ByteArray.mk #[UInt8.ofNat m.toNat]).size = 1 := rfl; omega
  subst this
  rw [Nat.add_zero, h]
  show _ = some (Value.int .u8 (((UInt8.ofNat m.toNat).toNat : Nat) : Int))
  rw [UInt8.toNat_ofNat']
  congr 2
  omega
theorem wrS_small {v : Vv} (hv : okV v) : (wrS v).size ≤ 40 := by
  unfold wrS
  split
  · rename_i hf
    unfold wr1
    split
    · have hl := (show (Lib.itoa v.2.1).length ≤ 22 by
        unfold Lib.itoa
        obtain ⟨_, h0, h1⟩ := hv
        split
        · have := dec_len 19 v.2.1.natAbs (by omega)
          simp; omega
        · have := dec_len 19 v.2.1.toNat (by omega)
          omega)
      show (Lib.itoa v.2.1).toArray.size ≤ _
      simp; omega
    · split
      · rename_i hk1 hk2
        have h8 : v.2.2.size ≤ 8 := by
          unfold formB at hf
          rw [if_neg (by omega), if_neg hk1, if_pos hk2] at hf
          simp only [textB, Bool.and_eq_true, decide_eq_true_eq] at hf
          exact hf.2.2
        have : ((⟨#[39]⟩ ++ v.2.2) ++ ⟨#[39]⟩ : ByteArray).size = v.2.2.size + 2 := by
          rw [ByteArray.size_append, ByteArray.size_append]
          have : (ByteArray.mk #[39]).size = 1 := rfl
          omega
        rw [this]; omega
      · decide
  · decide
set_option maxHeartbeats 4000000 in
set_option maxRecDepth 100000 in
theorem apart_walk {laid : List (String × DataW Unit)} (hlaid : (laid.filter fun x => x.1 == "internal/strconv.uint64pow10") = [("internal/strconv.uint64pow10", Lib.tabData .u64 Lib.pow10Tab)]) (h2 : (laid.all fun x => x.2.handleName?.isNone) = true) (h3 : (laid.any fun x => x.1 == "strconv.ErrSyntax") = true) (h4 : (laid.any fun x => x.1 == "strconv.ErrRange") = true) (W : World) (args : Array Value) (hL : laidMetH Tryd.prog laid W) (h : RdAll Tryd.prog W Tryd.f7.params.toList args.toList) :
    Calls Tryd.prog 7 args W fun e W' => e = .returned (.bool true) ∧ Below W.heap.size W W' := by
  have ht := tab_of hL hlaid
  have hE := errs_of hL h2 h3 h4
  clear hL hlaid h2 h3 h4
  rw [Tryd.params7] at h
  obtain ⟨v0, v1, v2, rfl⟩ : ∃ v0 v1 v2, args = #[v0, v1, v2] := by
    rcases args with ⟨_ | ⟨v0, _ | ⟨v1, _ | ⟨v2, _ | ⟨v3, l⟩⟩⟩⟩⟩ <;> simp [RdAll] at h
    exact ⟨v0, v1, v2, rfl⟩
  obtain ⟨r0, r1, r2, _⟩ := h
  obtain ⟨a, rfl, ha⟩ := val_arg r0
  obtain ⟨b, rfl, hb⟩ := val_arg r1
  obtain ⟨m, rfl, hm⟩ := r2.int Tryd.underlying5
  obtain ⟨mb, hmz, hmb⟩ := one_byte (m := m) (by simp [Lit.wf, IntKind.min, IntKind.max, IntKind.signed, IntKind.bits] at hm; omega) (by simp [Lit.wf, IntKind.min, IntKind.max, IntKind.signed, IntKind.bits] at hm; omega)
  obtain ⟨s, hs⟩ : ∃ s, wrS a = s := ⟨_, rfl⟩
  obtain ⟨t, htt⟩ : ∃ t, wrS b = t := ⟨_, rfl⟩
  have hsz := wrS_small ha
  rw [hs] at hsz
  obtain ⟨⟨x, g⟩, hpx⟩ : ∃ x, pd (s ++ mb) = x := ⟨_, rfl⟩
  obtain ⟨⟨y, h⟩, hpy⟩ : ∃ x, pd (mb ++ s) = x := ⟨_, rfl⟩
  obtain ⟨fa, hfa⟩ : ∃ x, formB a = x := ⟨_, rfl⟩
  obtain ⟨fb, hfb⟩ : ∃ x, formB b = x := ⟨_, rfl⟩
  have HX := hid (apart_more hs hpx (by rw [ByteArray.size_append]; omega))
  have HY := hid (apart_more hs hpy (by rw [ByteArray.size_append]; omega))
  have HI := hid (show fa = true → fb = true → s = t → a = b from fun e1 e2 e => wr_inj (hfa.trans e1) (hfb.trans e2) ha hb (by rw [hs, htt]; exact e))
  have HE := hid (show a = b → s = t from fun e => by rw [← hs, ← htt, e])
  have HA := hid ha; have HB := hid hb; have HS := hid hs; have HT := hid htt; have HSZ := hid hsz; have HPX := hid hpx; have HPY := hid hpy; have HFA := hid hfa; have HFB := hid hfb; have HMB := hid hmb; have HMZ := hid hmz; have HM := hid hm
  clear ha hb hs htt hsz hpx hpy hfa hfb hmb hmz hm r0 r1 r2
  obtain ⟨k1, n1, s1⟩ := a
  obtain ⟨k2, n2, s2⟩ := b
  obtain ⟨x1, x2, x3⟩ := x
  obtain ⟨y1, y2, y3⟩ := y
  unfold vv
  simp only
  have htw := two_new W (.cells #[.int .u8 k1, .int .i64 n1, .string s1] 23) (.cells #[.int .u8 k2, .int .i64 n2, .string s2] 23)
  have hk := ((Kept.refl (fun _ => False) W).alloc (.cells #[.int .u8 k1, .int .i64 n1, .string s1] 23)).alloc (.cells #[.int .u8 k2, .int .i64 n2, .string s2] 23)
  obtain ⟨w1, hw1⟩ : ∃ w1, (W.alloc (.cells #[.int .u8 k1, .int .i64 n1, .string s1] 23)).alloc (.cells #[.int .u8 k2, .int .i64 n2, .string s2] 23) = w1 := ⟨_, rfl⟩
  obtain ⟨ab, hab⟩ : ∃ ab, W.heap.size = ab := ⟨_, rfl⟩
  rw [hw1] at htw hk
  rw [hab] at htw
  have R1 := hid htw.1; have R2 := hid htw.2; have K := hid hk
  clear htw hk
  go_enter Tryd.func7, Tryd.ntmps7
  go_wp2_with fail
  try rw [hw1]
  refine (awake_any _ (ht.kept K.out)).mono ?_; rintro e' w2 ⟨rfl, hk⟩
  clear hw1
  have c0 := trivial; have c1 := trivial; have c2 := trivial; have d0 := trivial; have d1 := trivial; have d2 := trivial
  have K2 := hid (K.out.trans hk); have P2 := hid ((hk.block _ (row_lt R1.out) id).trans R1.out); have Q2 := hid ((hk.block _ (row_lt R2.out) id).trans R2.out)
  clear hk
  try clear c0 c1 c2 d0 d1 d2
  obtain ⟨c0, c1, c2⟩ := encV_cells (v := (k1, n1, s1)) P2.out
  obtain ⟨d0, d1, d2⟩ := encV_cells (v := (k2, n2, s2)) Q2.out
  simp only at c0 c1 c2 d0 d1 d2
  go_wp2_with fail
  refine (write_any (k1, n1, s1) HA.out.1 HA.out.2.1 HA.out.2.2 _ (ht.kept K2.out)).mono ?_; rintro e' w3 ⟨rfl, hk⟩
  rw [HS.out, HFA.out]
  have K3 := hid (K2.out.trans hk); have P3 := hid ((hk.block _ (row_lt P2.out) id).trans P2.out); have Q3 := hid ((hk.block _ (row_lt Q2.out) id).trans Q2.out)
  clear hk
  try clear c0 c1 c2 d0 d1 d2
  obtain ⟨c0, c1, c2⟩ := encV_cells (v := (k1, n1, s1)) P3.out
  obtain ⟨d0, d1, d2⟩ := encV_cells (v := (k2, n2, s2)) Q3.out
  simp only at c0 c1 c2 d0 d1 d2
  go_wp2_with fail
  refine (write_any (k2, n2, s2) HB.out.1 HB.out.2.1 HB.out.2.2 _ (ht.kept K3.out)).mono ?_; rintro e' w4 ⟨rfl, hk⟩
  rw [HT.out, HFB.out]
  have K4 := hid (K3.out.trans hk); have P4 := hid ((hk.block _ (row_lt P3.out) id).trans P3.out); have Q4 := hid ((hk.block _ (row_lt Q3.out) id).trans Q3.out)
  clear hk
  try clear c0 c1 c2 d0 d1 d2
  obtain ⟨c0, c1, c2⟩ := encV_cells (v := (k1, n1, s1)) P4.out
  obtain ⟨d0, d1, d2⟩ := encV_cells (v := (k2, n2, s2)) Q4.out
  simp only at c0 c1 c2 d0 d1 d2
  cases fa with
  | false =>
    rw [show chk false = 3 from rfl]
    go_wp2_with fail
    refine (form_any (k1, n1, s1) HA.out.1 _).mono ?_; rintro e w5 ⟨rfl, hk⟩
    rw [HFA.out]
    go_wp2
    go_ret
    exact ⟨rfl, (K4.out.trans hk).below (Nat.le_refl _) (fun _ h => h.elim)⟩
  | true =>
    cases fb with
    | false =>
      rw [show chk false = 3 from rfl, show chk true = 0 from rfl]
      go_wp2_with fail
      refine (form_any (k1, n1, s1) HA.out.1 _).mono ?_; rintro e w5 ⟨rfl, hk⟩
      rw [HFA.out]
      have K5 := hid (K4.out.trans hk); have P5 := hid ((hk.block _ (row_lt P4.out) id).trans P4.out); have Q5 := hid ((hk.block _ (row_lt Q4.out) id).trans Q4.out)
      clear hk
      try clear c0 c1 c2 d0 d1 d2
      obtain ⟨c0, c1, c2⟩ := encV_cells (v := (k1, n1, s1)) P5.out
      obtain ⟨d0, d1, d2⟩ := encV_cells (v := (k2, n2, s2)) Q5.out
      simp only at c0 c1 c2 d0 d1 d2
      go_wp2_with fail
      refine (form_any (k2, n2, s2) HB.out.1 _).mono ?_; rintro e w6 ⟨rfl, hk⟩
      rw [HFB.out]
      go_wp2
      go_ret
      exact ⟨rfl, (K5.out.trans hk).below (Nat.le_refl _) (fun _ h => h.elim)⟩
    | true =>
      rw [show chk true = 0 from rfl]
      have HI2 := hid (HI.out rfl rfl)
      clear HI
      go_wp2_with fail
      have hr := row_new w4 (.cells #[.int .u8 m] 5)
      have hk := (Kept.refl (fun _ => False) w4).alloc (.cells #[.int .u8 m] 5)
      obtain ⟨wn, hwn⟩ : ∃ wn, w4.alloc (.cells #[.int .u8 m] 5) = wn := ⟨_, rfl⟩
      obtain ⟨bb, hbb⟩ : ∃ bb, w4.heap.size = bb := ⟨_, rfl⟩
      rw [hwn] at hr hk ⊢
      rw [hbb] at hr ⊢
      have hcv := Lib.run_convert_whole (P := Tryd.prog) wn 45 5 9 Tryd.underlying45 Tryd.underlying5 Tryd.underlying9 bb 0 mb (HMB.out wn bb (by rw [row_cell hr]; rfl)) 1
      rw [HMZ.out] at hcv
      clear hwn hbb hr
      rw [hcv]
      clear hcv
      have K5 := hid (K4.out.trans hk); have P5 := hid ((hk.block _ (row_lt P4.out) id).trans P4.out); have Q5 := hid ((hk.block _ (row_lt Q4.out) id).trans Q4.out)
      clear hk
      try clear c0 c1 c2 d0 d1 d2
      obtain ⟨c0, c1, c2⟩ := encV_cells (v := (k1, n1, s1)) P5.out
      obtain ⟨d0, d1, d2⟩ := encV_cells (v := (k2, n2, s2)) Q5.out
      simp only at c0 c1 c2 d0 d1 d2
      have hl := HSZ.out
      have hz := HMZ.out
      have e1 : ¬ 9223372036854775807 < s.size + mb.size := by omega
      have e2 : ¬ 9223372036854775807 < mb.size + s.size := by omega
      clear hl hz
      go_wp2_with fail
      refine (parse_any (s ++ mb) (by have := HSZ.out; have := HMZ.out; rw [ByteArray.size_append]; omega) _ (hE.kept K5.out) (ht.kept K5.out)).mono ?_; rintro e' w6 ⟨rfl, hk⟩
      rw [HPX.out]
      simp only [vv]
      have K6 := hid (K5.out.trans hk); have P6 := hid ((hk.block _ (row_lt P5.out) id).trans P5.out); have Q6 := hid ((hk.block _ (row_lt Q5.out) id).trans Q5.out)
      clear hk
      try clear c0 c1 c2 d0 d1 d2
      obtain ⟨c0, c1, c2⟩ := encV_cells (v := (k1, n1, s1)) P6.out
      obtain ⟨d0, d1, d2⟩ := encV_cells (v := (k2, n2, s2)) Q6.out
      simp only at c0 c1 c2 d0 d1 d2
      go_wp2_with fail
      have hr := two_new w6 (.cells #[.int .u8 x1, .int .i64 x2, .string x3] 23) (.cells #[.int .u8 m] 5)
      have hk := ((Kept.refl (fun _ => False) w6).alloc (.cells #[.int .u8 x1, .int .i64 x2, .string x3] 23)).alloc (.cells #[.int .u8 m] 5)
      obtain ⟨w8, hw8⟩ : ∃ w8, (w6.alloc (.cells #[.int .u8 x1, .int .i64 x2, .string x3] 23)).alloc (.cells #[.int .u8 m] 5) = w8 := ⟨_, rfl⟩
      obtain ⟨xb, hxb⟩ : ∃ xb, w6.heap.size = xb := ⟨_, rfl⟩
      rw [hw8] at hr hk ⊢
      rw [hxb] at hr ⊢
      have hcv := Lib.run_convert_whole (P := Tryd.prog) w8 45 5 9 Tryd.underlying45 Tryd.underlying5 Tryd.underlying9 (xb + 1) 0 mb (HMB.out w8 (xb + 1) (by rw [row_cell hr.2]; rfl)) 1
      rw [HMZ.out] at hcv
      rw [hcv]
      clear hcv
      have X8 := hid hr.1
      clear hr hw8 hxb
      have K8 := hid (K6.out.trans hk); have P8 := hid ((hk.block _ (row_lt P6.out) id).trans P6.out); have Q8 := hid ((hk.block _ (row_lt Q6.out) id).trans Q6.out)
      clear hk
      try clear c0 c1 c2 d0 d1 d2
      obtain ⟨c0, c1, c2⟩ := encV_cells (v := (k1, n1, s1)) P8.out
      obtain ⟨d0, d1, d2⟩ := encV_cells (v := (k2, n2, s2)) Q8.out
      simp only at c0 c1 c2 d0 d1 d2
      go_wp2_with fail
      refine (parse_any (mb ++ s) (by have := HSZ.out; have := HMZ.out; rw [ByteArray.size_append]; omega) _ (hE.kept K8.out) (ht.kept K8.out)).mono ?_; rintro e' w9 ⟨rfl, hk⟩
      rw [HPY.out]
      simp only [vv]
      have X9 := hid ((hk.block _ (row_lt X8.out) id).trans X8.out)
      have K9 := hid (K8.out.trans hk); have P9 := hid ((hk.block _ (row_lt P8.out) id).trans P8.out); have Q9 := hid ((hk.block _ (row_lt Q8.out) id).trans Q8.out)
      clear hk
      try clear c0 c1 c2 d0 d1 d2
      obtain ⟨c0, c1, c2⟩ := encV_cells (v := (k1, n1, s1)) P9.out
      obtain ⟨d0, d1, d2⟩ := encV_cells (v := (k2, n2, s2)) Q9.out
      simp only at c0 c1 c2 d0 d1 d2
      have hr := row_new w9 (.cells #[.int .u8 y1, .int .i64 y2, .string y3] 23)
      have hk := (Kept.refl (fun _ => False) w9).alloc (.cells #[.int .u8 y1, .int .i64 y2, .string y3] 23)
      obtain ⟨w10, hw10⟩ : ∃ w10, w9.alloc (.cells #[.int .u8 y1, .int .i64 y2, .string y3] 23) = w10 := ⟨_, rfl⟩
      obtain ⟨yb, hyb⟩ : ∃ yb, w9.heap.size = yb := ⟨_, rfl⟩
      rw [hw10] at hr hk
      rw [hyb] at hr
      have Y10 := hid hr; have X10 := hid ((hk.block _ (row_lt X9.out) id).trans X9.out)
      clear hr
      have K10 := hid (K9.out.trans hk); have P10 := hid ((hk.block _ (row_lt P9.out) id).trans P9.out); have Q10 := hid ((hk.block _ (row_lt Q9.out) id).trans Q9.out)
      clear hk
      try clear c0 c1 c2 d0 d1 d2
      obtain ⟨c0, c1, c2⟩ := encV_cells (v := (k1, n1, s1)) P10.out
      obtain ⟨d0, d1, d2⟩ := encV_cells (v := (k2, n2, s2)) Q10.out
      simp only at c0 c1 c2 d0 d1 d2
      obtain ⟨g0, g1, g2⟩ := encV_cells (v := (x1, x2, x3)) X10.out
      obtain ⟨h0, h1, h2⟩ := encV_cells (v := (y1, y2, y3)) Y10.out
      simp only at g0 g1 g2 h0 h1 h2
      clear e1 e2
      have hab2 : ab ≤ W.heap.size := Nat.le_of_eq hab.symm
      by_cases hab : ((k1, n1, s1) : Vv) = (k2, n2, s2)
      · have hst := HE.out hab
        simp only [Prod.mk.injEq] at hab
        obtain ⟨rfl, rfl, rfl⟩ := hab
        subst hst
        rcases HX.out with rfl | ⟨rfl, hnx⟩ <;> rcases HY.out with rfl | ⟨rfl, hny⟩
        · go_wp2
          all_goals go_ret
          all_goals first
            | exact ⟨rfl, K10.out.below (Nat.le_of_eq hab) (fun _ h => h.elim)⟩
            | exact ⟨rfl, K10.out.below hab2 (fun _ h => h.elim)⟩
            | exact absurd ⟨by omega, by omega, strEq (by first | assumption | rfl)⟩ HNX.out
            | exact absurd ⟨by omega, by omega, strEq (by first | assumption | rfl)⟩ HNY.out
            | exact absurd ⟨by omega, by omega, strEq (by first | assumption | rfl)⟩ HAB.out
            | exact absurd (strEq (by assumption)) HST.out
        · have HNY := hid (show ¬ (y1 = k1 ∧ y2 = n1 ∧ y3 = s1) from fun ⟨e1, e2, e3⟩ => hny (by rw [e1, e2, e3]))
          clear hny
          go_wp2
          all_goals go_ret
          all_goals first
            | exact ⟨rfl, K10.out.below (Nat.le_of_eq hab) (fun _ h => h.elim)⟩
            | exact ⟨rfl, K10.out.below hab2 (fun _ h => h.elim)⟩
            | exact absurd ⟨by omega, by omega, strEq (by first | assumption | rfl)⟩ HNX.out
            | exact absurd ⟨by omega, by omega, strEq (by first | assumption | rfl)⟩ HNY.out
            | exact absurd ⟨by omega, by omega, strEq (by first | assumption | rfl)⟩ HAB.out
            | exact absurd (strEq (by assumption)) HST.out
        · have HNX := hid (show ¬ (x1 = k1 ∧ x2 = n1 ∧ x3 = s1) from fun ⟨e1, e2, e3⟩ => hnx (by rw [e1, e2, e3]))
          clear hnx
          go_wp2
          all_goals go_ret
          all_goals first
            | exact ⟨rfl, K10.out.below (Nat.le_of_eq hab) (fun _ h => h.elim)⟩
            | exact ⟨rfl, K10.out.below hab2 (fun _ h => h.elim)⟩
            | exact absurd ⟨by omega, by omega, strEq (by first | assumption | rfl)⟩ HNX.out
            | exact absurd ⟨by omega, by omega, strEq (by first | assumption | rfl)⟩ HNY.out
            | exact absurd ⟨by omega, by omega, strEq (by first | assumption | rfl)⟩ HAB.out
            | exact absurd (strEq (by assumption)) HST.out
        · have HNX := hid (show ¬ (x1 = k1 ∧ x2 = n1 ∧ x3 = s1) from fun ⟨e1, e2, e3⟩ => hnx (by rw [e1, e2, e3]))
          have HNY := hid (show ¬ (y1 = k1 ∧ y2 = n1 ∧ y3 = s1) from fun ⟨e1, e2, e3⟩ => hny (by rw [e1, e2, e3]))
          clear hnx hny
          go_wp2
          all_goals go_ret
          all_goals first
            | exact ⟨rfl, K10.out.below (Nat.le_of_eq hab) (fun _ h => h.elim)⟩
            | exact ⟨rfl, K10.out.below hab2 (fun _ h => h.elim)⟩
            | exact absurd ⟨by omega, by omega, strEq (by first | assumption | rfl)⟩ HNX.out
            | exact absurd ⟨by omega, by omega, strEq (by first | assumption | rfl)⟩ HNY.out
            | exact absurd ⟨by omega, by omega, strEq (by first | assumption | rfl)⟩ HAB.out
            | exact absurd (strEq (by assumption)) HST.out
      · have HST := hid (show ¬ s = t from fun e => hab (HI2.out e))
        have hstb : (s.toList == t.toList) = false := by rw [beq_eq_false_iff_ne]; exact fun e => HST.out (strEq e)
        have HAB := hid (show ¬ (k1 = k2 ∧ n1 = n2 ∧ s1 = s2) from fun ⟨e1, e2, e3⟩ => hab (by rw [e1, e2, e3]))
        clear hab
        rcases HX.out with rfl | ⟨rfl, hnx⟩ <;> rcases HY.out with rfl | ⟨rfl, hny⟩
        · go_wp2
          all_goals go_ret
          all_goals first
            | exact ⟨rfl, K10.out.below (Nat.le_of_eq hab) (fun _ h => h.elim)⟩
            | exact ⟨rfl, K10.out.below hab2 (fun _ h => h.elim)⟩
            | exact absurd ⟨by omega, by omega, strEq (by first | assumption | rfl)⟩ HNX.out
            | exact absurd ⟨by omega, by omega, strEq (by first | assumption | rfl)⟩ HNY.out
            | exact absurd ⟨by omega, by omega, strEq (by first | assumption | rfl)⟩ HAB.out
            | exact absurd (strEq (by assumption)) HST.out
        · have HNY := hid (show ¬ (y1 = k1 ∧ y2 = n1 ∧ y3 = s1) from fun ⟨e1, e2, e3⟩ => hny (by rw [e1, e2, e3]))
          clear hny
          go_wp2
          all_goals go_ret
          all_goals first
            | exact ⟨rfl, K10.out.below (Nat.le_of_eq hab) (fun _ h => h.elim)⟩
            | exact ⟨rfl, K10.out.below hab2 (fun _ h => h.elim)⟩
            | exact absurd ⟨by omega, by omega, strEq (by first | assumption | rfl)⟩ HNX.out
            | exact absurd ⟨by omega, by omega, strEq (by first | assumption | rfl)⟩ HNY.out
            | exact absurd ⟨by omega, by omega, strEq (by first | assumption | rfl)⟩ HAB.out
            | exact absurd (strEq (by assumption)) HST.out
        · have HNX := hid (show ¬ (x1 = k1 ∧ x2 = n1 ∧ x3 = s1) from fun ⟨e1, e2, e3⟩ => hnx (by rw [e1, e2, e3]))
          clear hnx
          go_wp2
          all_goals go_ret
          all_goals first
            | exact ⟨rfl, K10.out.below (Nat.le_of_eq hab) (fun _ h => h.elim)⟩
            | exact ⟨rfl, K10.out.below hab2 (fun _ h => h.elim)⟩
            | exact absurd ⟨by omega, by omega, strEq (by first | assumption | rfl)⟩ HNX.out
            | exact absurd ⟨by omega, by omega, strEq (by first | assumption | rfl)⟩ HNY.out
            | exact absurd ⟨by omega, by omega, strEq (by first | assumption | rfl)⟩ HAB.out
            | exact absurd (strEq (by assumption)) HST.out
        · have HNX := hid (show ¬ (x1 = k1 ∧ x2 = n1 ∧ x3 = s1) from fun ⟨e1, e2, e3⟩ => hnx (by rw [e1, e2, e3]))
          have HNY := hid (show ¬ (y1 = k1 ∧ y2 = n1 ∧ y3 = s1) from fun ⟨e1, e2, e3⟩ => hny (by rw [e1, e2, e3]))
          clear hnx hny
          go_wp2
          all_goals go_ret
          all_goals first
            | exact ⟨rfl, K10.out.below (Nat.le_of_eq hab) (fun _ h => h.elim)⟩
            | exact ⟨rfl, K10.out.below hab2 (fun _ h => h.elim)⟩
            | exact absurd ⟨by omega, by omega, strEq (by first | assumption | rfl)⟩ HNX.out
            | exact absurd ⟨by omega, by omega, strEq (by first | assumption | rfl)⟩ HNY.out
            | exact absurd ⟨by omega, by omega, strEq (by first | assumption | rfl)⟩ HAB.out
            | exact absurd (strEq (by assumption)) HST.out
end Go.Proofs.YtnicaiofjficnaaDoor
