/- ValueOne's walk. -/
import Derived.Test.YtnicaiofjficnaaDoorJ
namespace Go.Proofs.YtnicaiofjficnaaDoor
open Go.RowKit
theorem strEq {s t : ByteArray} (h : s.toList = t.toList) : s = t := by
  rw [ByteArray.toList_eq, ByteArray.toList_eq] at h
  exact toList_inj h
theorem three_vals (w : World) (k1 n1 : Int) (s1 : ByteArray) (k2 n2 : Int) (s2 : ByteArray) (k3 n3 : Int) (s3 : ByteArray) :
    ∃ w1, ((w.alloc (.cells #[.int .u8 k1, .int .i64 n1, .string s1] 23)).alloc (.cells #[.int .u8 k2, .int .i64 n2, .string s2] 23)).alloc (.cells #[.int .u8 k3, .int .i64 n3, .string s3] 23) = w1 ∧
      w1.heap[w.heap.size]? = some (.cells #[.int .u8 k1, .int .i64 n1, .string s1] 23 (0, 0)) ∧ w1.heap[w.heap.size + 1]? = some (.cells #[.int .u8 k2, .int .i64 n2, .string s2] 23 (0, 0)) ∧ w1.heap[w.heap.size + 1 + 1]? = some (.cells #[.int .u8 k3, .int .i64 n3, .string s3] 23 (0, 0)) ∧ Kept (fun _ => False) w w1 := by
  have htw := two_new w (.cells #[.int .u8 k1, .int .i64 n1, .string s1] 23) (.cells #[.int .u8 k2, .int .i64 n2, .string s2] 23)
  have hr := row_new ((w.alloc (.cells #[.int .u8 k1, .int .i64 n1, .string s1] 23)).alloc (.cells #[.int .u8 k2, .int .i64 n2, .string s2] 23)) (.cells #[.int .u8 k3, .int .i64 n3, .string s3] 23)
  exact ⟨_, rfl, row_old htw.1 _, row_old htw.2 _, by simpa using hr, (((Kept.refl _ _).alloc _).alloc _).alloc _⟩
theorem ans_eq {a b : Vv} {x e : Int} (h : ans a b = (x, e)) (hf : (formB a && formB b) = true) : cmpV a b = x ∧ e = 0 := by
  rw [ans_yes hf] at h
  simp only [Prod.mk.injEq] at h
  exact ⟨h.1, h.2.symm⟩
theorem ans_bad {a b : Vv} {x e : Int} (h : ans a b = (x, e)) (hf : (formB a && formB b) = false) : e = 3 := by
  rw [ans_no hf] at h
  simp only [Prod.mk.injEq] at h
  exact h.2.symm
set_option maxHeartbeats 4000000 in
set_option maxRecDepth 100000 in
theorem one_walk {laid : List (String × DataW Unit)} (hlaid : (laid.filter fun x => x.1 == "internal/strconv.uint64pow10") = [("internal/strconv.uint64pow10", Lib.tabData .u64 Lib.pow10Tab)]) (W : World) (args : Array Value) (hL : laidMetH Tryd.prog laid W) (h : RdAll Tryd.prog W Tryd.f4.params.toList args.toList) :
    Calls Tryd.prog 4 args W fun e W' => e = .returned (.bool true) ∧ Below W.heap.size W W' := by
  have ht := tab_of hL hlaid
  clear hL hlaid
  rw [Tryd.params4] at h
  obtain ⟨v0, v1, v2, rfl⟩ : ∃ v0 v1 v2, args = #[v0, v1, v2] := by
    rcases args with ⟨_ | ⟨v0, _ | ⟨v1, _ | ⟨v2, _ | ⟨v3, l⟩⟩⟩⟩⟩ <;> simp [RdAll] at h
    exact ⟨v0, v1, v2, rfl⟩
  obtain ⟨r0, r1, r2, _⟩ := h
  obtain ⟨a, rfl, ha⟩ := val_arg r0
  obtain ⟨b, rfl, hb⟩ := val_arg r1
  obtain ⟨c, rfl, hc⟩ := val_arg r2
  clear r0 r1 r2
  obtain ⟨⟨x, e⟩, hx⟩ : ∃ x, ans a b = x := ⟨_, rfl⟩
  obtain ⟨⟨y, f⟩, hy⟩ : ∃ x, ans b c = x := ⟨_, rfl⟩
  obtain ⟨⟨z, g⟩, hz⟩ : ∃ x, ans a c = x := ⟨_, rfl⟩
  obtain ⟨⟨u, h⟩, hu⟩ : ∃ x, ans b a = x := ⟨_, rfl⟩
  obtain ⟨fa, hfa⟩ : ∃ x, formB a = x := ⟨_, rfl⟩
  obtain ⟨fb, hfb⟩ : ∃ x, formB b = x := ⟨_, rfl⟩
  obtain ⟨fc, hfc⟩ : ∃ x, formB c = x := ⟨_, rfl⟩
  have HA := hid ha; have HB := hid hb; have HC := hid hc; have HAB := hid hx; have HBC := hid hy; have HAC := hid hz; have HBA := hid hu; have HFA := hid hfa; have HFB := hid hfb; have HFC := hid hfc
  clear ha hb hc hx hy hz hu hfa hfb hfc
  obtain ⟨k1, n1, s1⟩ := a
  obtain ⟨k2, n2, s2⟩ := b
  obtain ⟨k3, n3, s3⟩ := c
  unfold vv
  simp only
  obtain ⟨w1, hw1, hr1, hr2, hr3, hk⟩ := three_vals W k1 n1 s1 k2 n2 s2 k3 n3 s3
  obtain ⟨ab, hab⟩ : ∃ ab, W.heap.size = ab := ⟨_, rfl⟩
  rw [hab] at hr1 hr2 hr3
  have R1 := hid hr1; have R2 := hid hr2; have R3 := hid hr3
  have K := hid hk
  clear hk hr1 hr2 hr3
  go_enter Tryd.func4, Tryd.ntmps4
  go_wp2_with fail
  try rw [hw1]
  refine (awake_any _ (ht.kept K.out)).mono ?_; rintro e' w2 ⟨rfl, hk⟩
  clear hw1
  have c0 := trivial; have c1 := trivial; have c2 := trivial; have d0 := trivial; have d1 := trivial; have d2 := trivial; have g0 := trivial; have g1 := trivial; have g2 := trivial
  have K2 := hid (K.out.trans hk); have P2 := hid ((hk.block _ (row_lt R1.out) id).trans R1.out); have Q2 := hid ((hk.block _ (row_lt R2.out) id).trans R2.out); have S2 := hid ((hk.block _ (row_lt R3.out) id).trans R3.out)
  clear hk
  try clear c0 c1 c2 d0 d1 d2 g0 g1 g2 hw1 hab
  try clear c0 c1 c2 d0 d1 d2 g0 g1 g2
  obtain ⟨c0, c1, c2⟩ := encV_cells (v := (k1, n1, s1)) P2.out
  obtain ⟨d0, d1, d2⟩ := encV_cells (v := (k2, n2, s2)) Q2.out
  obtain ⟨g0, g1, g2⟩ := encV_cells (v := (k3, n3, s3)) S2.out
  simp only at c0 c1 c2 d0 d1 d2 g0 g1 g2
  go_wp2_with fail
  refine (cmp_any (k1, n1, s1) (k2, n2, s2) HA.out.1 HB.out.1 _).mono ?_; rintro e w3 ⟨rfl, hk⟩
  rw [HAB.out]
  have K3 := hid (K2.out.trans hk); have P3 := hid ((hk.block _ (row_lt P2.out) id).trans P2.out); have Q3 := hid ((hk.block _ (row_lt Q2.out) id).trans Q2.out); have S3 := hid ((hk.block _ (row_lt S2.out) id).trans S2.out)
  clear hk
  try clear c0 c1 c2 d0 d1 d2 g0 g1 g2 hw1 hab
  try clear c0 c1 c2 d0 d1 d2 g0 g1 g2
  obtain ⟨c0, c1, c2⟩ := encV_cells (v := (k1, n1, s1)) P3.out
  obtain ⟨d0, d1, d2⟩ := encV_cells (v := (k2, n2, s2)) Q3.out
  obtain ⟨g0, g1, g2⟩ := encV_cells (v := (k3, n3, s3)) S3.out
  simp only at c0 c1 c2 d0 d1 d2 g0 g1 g2
  go_wp2_with fail
  refine (cmp_any (k2, n2, s2) (k3, n3, s3) HB.out.1 HC.out.1 _).mono ?_; rintro e w4 ⟨rfl, hk⟩
  rw [HBC.out]
  have K4 := hid (K3.out.trans hk); have P4 := hid ((hk.block _ (row_lt P3.out) id).trans P3.out); have Q4 := hid ((hk.block _ (row_lt Q3.out) id).trans Q3.out); have S4 := hid ((hk.block _ (row_lt S3.out) id).trans S3.out)
  clear hk
  try clear c0 c1 c2 d0 d1 d2 g0 g1 g2 hw1 hab
  try clear c0 c1 c2 d0 d1 d2 g0 g1 g2
  obtain ⟨c0, c1, c2⟩ := encV_cells (v := (k1, n1, s1)) P4.out
  obtain ⟨d0, d1, d2⟩ := encV_cells (v := (k2, n2, s2)) Q4.out
  obtain ⟨g0, g1, g2⟩ := encV_cells (v := (k3, n3, s3)) S4.out
  simp only at c0 c1 c2 d0 d1 d2 g0 g1 g2
  go_wp2_with fail
  refine (cmp_any (k1, n1, s1) (k3, n3, s3) HA.out.1 HC.out.1 _).mono ?_; rintro e w5 ⟨rfl, hk⟩
  rw [HAC.out]
  have K5 := hid (K4.out.trans hk); have P5 := hid ((hk.block _ (row_lt P4.out) id).trans P4.out); have Q5 := hid ((hk.block _ (row_lt Q4.out) id).trans Q4.out); have S5 := hid ((hk.block _ (row_lt S4.out) id).trans S4.out)
  clear hk
  try clear c0 c1 c2 d0 d1 d2 g0 g1 g2 hw1 hab
  try clear c0 c1 c2 d0 d1 d2 g0 g1 g2
  obtain ⟨c0, c1, c2⟩ := encV_cells (v := (k1, n1, s1)) P5.out
  obtain ⟨d0, d1, d2⟩ := encV_cells (v := (k2, n2, s2)) Q5.out
  obtain ⟨g0, g1, g2⟩ := encV_cells (v := (k3, n3, s3)) S5.out
  simp only at c0 c1 c2 d0 d1 d2 g0 g1 g2
  go_wp2_with fail
  refine (cmp_any (k2, n2, s2) (k1, n1, s1) HB.out.1 HA.out.1 _).mono ?_; rintro e w6 ⟨rfl, hk⟩
  rw [HBA.out]
  have K6 := hid (K5.out.trans hk); have P6 := hid ((hk.block _ (row_lt P5.out) id).trans P5.out); have Q6 := hid ((hk.block _ (row_lt Q5.out) id).trans Q5.out); have S6 := hid ((hk.block _ (row_lt S5.out) id).trans S5.out)
  clear hk
  try clear c0 c1 c2 d0 d1 d2 g0 g1 g2 hw1 hab
  try clear c0 c1 c2 d0 d1 d2 g0 g1 g2
  obtain ⟨c0, c1, c2⟩ := encV_cells (v := (k1, n1, s1)) P6.out
  obtain ⟨d0, d1, d2⟩ := encV_cells (v := (k2, n2, s2)) Q6.out
  obtain ⟨g0, g1, g2⟩ := encV_cells (v := (k3, n3, s3)) S6.out
  simp only at c0 c1 c2 d0 d1 d2 g0 g1 g2
  cases fa with
  | false =>
    have := ans_bad HAB.out (by rw [HFA.out]; rfl)
    subst this
    go_wp2_with fail
    refine (form_any (k1, n1, s1) HA.out.1 _).mono ?_; rintro e w7 ⟨rfl, hk⟩
    rw [HFA.out]
    go_wp2
    go_ret
    exact ⟨rfl, (K6.out.trans hk).below (Nat.le_refl _) (fun _ h => h.elim)⟩
  | true =>
    cases fb with
    | false =>
      have := ans_bad HAB.out (by rw [HFA.out, HFB.out]; rfl)
      subst this
      go_wp2_with fail
      refine (form_any (k1, n1, s1) HA.out.1 _).mono ?_; rintro e w7 ⟨rfl, hk⟩
      rw [HFA.out]
      have K7 := hid (K6.out.trans hk); have P7 := hid ((hk.block _ (row_lt P6.out) id).trans P6.out); have Q7 := hid ((hk.block _ (row_lt Q6.out) id).trans Q6.out); have S7 := hid ((hk.block _ (row_lt S6.out) id).trans S6.out)
      clear hk
      try clear c0 c1 c2 d0 d1 d2 g0 g1 g2 hw1 hab
      try clear c0 c1 c2 d0 d1 d2 g0 g1 g2
      obtain ⟨c0, c1, c2⟩ := encV_cells (v := (k1, n1, s1)) P7.out
      obtain ⟨d0, d1, d2⟩ := encV_cells (v := (k2, n2, s2)) Q7.out
      obtain ⟨g0, g1, g2⟩ := encV_cells (v := (k3, n3, s3)) S7.out
      simp only at c0 c1 c2 d0 d1 d2 g0 g1 g2
      go_wp2_with fail
      refine (form_any (k2, n2, s2) HB.out.1 _).mono ?_; rintro e w8 ⟨rfl, hk⟩
      rw [HFB.out]
      go_wp2
      go_ret
      exact ⟨rfl, (K7.out.trans hk).below (Nat.le_refl _) (fun _ h => h.elim)⟩
    | true =>
      obtain ⟨hX, rfl⟩ := ans_eq HAB.out (by rw [HFA.out, HFB.out]; rfl)
      cases fc with
      | false =>
        have := ans_bad HBC.out (by rw [HFB.out, HFC.out]; rfl)
        subst this
        have HX := hid hX
        clear hX
        go_wp2_with fail
        refine (form_any (k1, n1, s1) HA.out.1 _).mono ?_; rintro e w7 ⟨rfl, hk⟩
        rw [HFA.out]
        have K7 := hid (K6.out.trans hk); have P7 := hid ((hk.block _ (row_lt P6.out) id).trans P6.out); have Q7 := hid ((hk.block _ (row_lt Q6.out) id).trans Q6.out); have S7 := hid ((hk.block _ (row_lt S6.out) id).trans S6.out)
        clear hk
        try clear c0 c1 c2 d0 d1 d2 g0 g1 g2 hw1 hab
        try clear c0 c1 c2 d0 d1 d2 g0 g1 g2
        obtain ⟨c0, c1, c2⟩ := encV_cells (v := (k1, n1, s1)) P7.out
        obtain ⟨d0, d1, d2⟩ := encV_cells (v := (k2, n2, s2)) Q7.out
        obtain ⟨g0, g1, g2⟩ := encV_cells (v := (k3, n3, s3)) S7.out
        simp only at c0 c1 c2 d0 d1 d2 g0 g1 g2
        go_wp2_with fail
        refine (form_any (k2, n2, s2) HB.out.1 _).mono ?_; rintro e w8 ⟨rfl, hk⟩
        rw [HFB.out]
        have K8 := hid (K7.out.trans hk); have P8 := hid ((hk.block _ (row_lt P7.out) id).trans P7.out); have Q8 := hid ((hk.block _ (row_lt Q7.out) id).trans Q7.out); have S8 := hid ((hk.block _ (row_lt S7.out) id).trans S7.out)
        clear hk
        try clear c0 c1 c2 d0 d1 d2 g0 g1 g2 hw1 hab
        try clear c0 c1 c2 d0 d1 d2 g0 g1 g2
        obtain ⟨c0, c1, c2⟩ := encV_cells (v := (k1, n1, s1)) P8.out
        obtain ⟨d0, d1, d2⟩ := encV_cells (v := (k2, n2, s2)) Q8.out
        obtain ⟨g0, g1, g2⟩ := encV_cells (v := (k3, n3, s3)) S8.out
        simp only at c0 c1 c2 d0 d1 d2 g0 g1 g2
        go_wp2_with fail
        refine (form_any (k3, n3, s3) HC.out.1 _).mono ?_; rintro e w9 ⟨rfl, hk⟩
        rw [HFC.out]
        go_wp2
        go_ret
        exact ⟨rfl, (K8.out.trans hk).below (Nat.le_refl _) (fun _ h => h.elim)⟩
      | true =>
        obtain ⟨hY, rfl⟩ := ans_eq HBC.out (by rw [HFB.out, HFC.out]; rfl)
        obtain ⟨hZ, rfl⟩ := ans_eq HAC.out (by rw [HFA.out, HFC.out]; rfl)
        obtain ⟨hU, rfl⟩ := ans_eq HBA.out (by rw [HFA.out, HFB.out]; rfl)
        have hfl := cmpV_flip (k1, n1, s1) (k2, n2, s2)
        have htr := @cmpV_trans (k1, n1, s1) (k2, n2, s2) (k3, n3, s3)
        rw [hU, hX] at hfl
        rw [hX, hY, hZ] at htr
        obtain ⟨f1, f2, f3, f4⟩ := hfl
        have HX := hid hX
        clear hX hY hZ hU
        rcases (show x = -1 ∨ x = 0 ∨ x = 1 by omega) with rfl | rfl | rfl
        · have hu1 : u = 1 := by omega
          subst hu1
          have hne : ¬ ((k1, n1, s1) : Vv) = (k2, n2, s2) := fun e => by have := f4.2 e; omega
          simp only [Prod.mk.injEq] at hne
          have HNE := hid hne
          clear f1 f2 f3 f4 hne
          by_cases hy0 : 0 < y
          · clear htr
            have HNE2 := HNE.out
            go_wp2
            all_goals go_ret
            all_goals first
              | exact ⟨rfl, K6.out.below (Nat.le_refl _) (fun _ h => h.elim)⟩
              | exact absurd ⟨by assumption, by assumption, strEq (by assumption)⟩ HNE2
          · have h1 := (htr (by omega) (by omega)).1
            have h2 : z < 0 := by rcases (htr (by omega) (by omega)).2 with h | h <;> omega
            clear htr
            have HNE2 := HNE.out
            go_wp2
            all_goals go_ret
            all_goals first
              | exact ⟨rfl, K6.out.below (Nat.le_refl _) (fun _ h => h.elim)⟩
              | exact absurd ⟨by assumption, by assumption, strEq (by assumption)⟩ HNE2
        · have hu1 : u = 0 := by omega
          subst hu1
          have hee := f4.1 rfl
          simp only [Prod.mk.injEq] at hee
          obtain ⟨rfl, rfl, rfl⟩ := hee
          clear f1 f2 f3 f4
          by_cases hy0 : 0 < y
          · clear htr
            go_wp2
            all_goals go_ret
            all_goals first
              | exact ⟨rfl, K6.out.below (Nat.le_refl _) (fun _ h => h.elim)⟩
              | exact absurd ⟨by assumption, by assumption, strEq (by assumption)⟩ HNE2
          · have h1 := (htr (by omega) (by omega)).1
            rcases (htr (by omega) (by omega)).2 with h2 | ⟨_, rfl⟩
            · clear htr
              go_wp2
              all_goals go_ret
              all_goals first
                | exact ⟨rfl, K6.out.below (Nat.le_refl _) (fun _ h => h.elim)⟩
                | exact absurd ⟨by assumption, by assumption, strEq (by assumption)⟩ HNE2
            · clear htr
              by_cases h2 : z < 0
              · go_wp2
                all_goals go_ret
                all_goals first
                  | exact ⟨rfl, K6.out.below (Nat.le_refl _) (fun _ h => h.elim)⟩
                  | exact absurd ⟨by assumption, by assumption, strEq (by assumption)⟩ HNE2
              · go_wp2
                all_goals go_ret
                all_goals first
                  | exact ⟨rfl, K6.out.below (Nat.le_refl _) (fun _ h => h.elim)⟩
                  | exact absurd ⟨by assumption, by assumption, strEq (by assumption)⟩ HNE2
        · have hu1 : u = -1 := by omega
          subst hu1
          have hne : ¬ ((k1, n1, s1) : Vv) = (k2, n2, s2) := fun e => by have := f4.2 e; omega
          simp only [Prod.mk.injEq] at hne
          have HNE := hid hne
          clear f1 f2 f3 f4 hne htr
          have HNE2 := HNE.out
          go_wp2
          all_goals go_ret
          all_goals first
            | exact ⟨rfl, K6.out.below (Nat.le_refl _) (fun _ h => h.elim)⟩
            | exact absurd ⟨by assumption, by assumption, strEq (by assumption)⟩ HNE2
end Go.Proofs.YtnicaiofjficnaaDoor
