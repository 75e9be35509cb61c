/- Parse's walk. -/
import Derived.Test.YtnicaiofjficnaaDoorR
namespace Go.Proofs.YtnicaiofjficnaaDoor
open Go.RowKit
theorem wrS_int (n : Int) : wrS (1, n, ⟨#[]⟩) = ⟨(Lib.itoa n).toArray⟩ := by
  have : formB (1, n, ⟨#[]⟩) = true := rfl
  unfold wrS
  rw [if_pos this]
  simp [wr1]
theorem wrS_zero : wrS (0, 0, ⟨#[]⟩) = noneB := by decide +kernel
theorem pint_bounds {s : ByteArray} {n : Int} (h : pint s = .ok n) : -9223372036854775808 ≤ n ∧ n ≤ 9223372036854775807 := by
  have hb := Lib.parseIntB_bounds h
  have e : ((2 ^ (64 - 1) : Nat) : Int) = 9223372036854775808 := by decide
  rw [e] at hb
  omega
set_option maxHeartbeats 8000000 in
set_option maxRecDepth 100000 in
theorem parse_any (s : ByteArray) (hs : s.size ≤ 140737488355327) (w : World) (hE : Errs w) (ht : Tab w) : Calls Tryd.prog 16 #[.string s] w fun e w' => e = .returned (.tuple #[vv (pd s).1, .int .i64 (pd s).2]) ∧ Kept (fun _ => False) w w' := by
  have htw := two_new w (.cells #[.int .u8 0, .int .i64 0, .string ⟨#[]⟩] 23) (.cells #[.int .u8 0, .int .i64 0, .string ⟨#[]⟩] 23)
  have hk := ((Kept.refl (fun _ => False) w).alloc (.cells #[.int .u8 0, .int .i64 0, .string ⟨#[]⟩] 23)).alloc (.cells #[.int .u8 0, .int .i64 0, .string ⟨#[]⟩] 23)
  obtain ⟨w0, hw0⟩ : ∃ w0, (w.alloc (.cells #[.int .u8 0, .int .i64 0, .string ⟨#[]⟩] 23)).alloc (.cells #[.int .u8 0, .int .i64 0, .string ⟨#[]⟩] 23) = w0 := ⟨_, rfl⟩
  obtain ⟨rb, hrb⟩ : ∃ rb, w.heap.size = rb := ⟨_, rfl⟩
  obtain ⟨vb, hvb⟩ : ∃ vb, rb + 1 = vb := ⟨_, rfl⟩
  rw [hw0] at htw hk
  rw [hrb, hvb] at htw
  have hrw : w.heap.size ≤ rb := Nat.le_of_eq hrb
  have hvw : w.heap.size ≤ vb := by omega
  have hrv : rb ≠ vb := by omega
  have HRB := hid hrw; have HVB := hid hvw; have HRV := hid hrv
  obtain ⟨htw1, htw2⟩ := htw
  go_enter Tryd.func16, Tryd.ntmps16
  go_wp2_with fail
  try rw [hw0, hrb, hvb]
  clear hw0 hrb hvb hrw hvw hrv
  refine (parseint_any s (by omega) _ (hE.kept hk)).mono ?_
  rintro e w1 ⟨n, ev, rfl, hp, hk1⟩
  have HP := hid hp; have K1 := hid (hk.trans hk1)
  have R1 := hid ((hk1.block _ (row_lt htw1) id).trans htw1); have V1 := hid ((hk1.block _ (row_lt htw2) id).trans htw2)
  clear hp hk hk1 htw1 htw2
  obtain ⟨c0, c1, c2⟩ := encV_cells (v := (0, 0, ⟨#[]⟩)) V1.out
  have hf := fun i => row_free V1.out i
  simp only at c0 c1 c2
  by_cases hq : quoted s
  · have HPD := hid (pd_quoted hq)
    have HMB := hid (mid_back hq)
    obtain ⟨h2, hq1, hq2⟩ := hq
    have h2I : 2 ≤ (s.size : Int) := by omega
    have h0I : (0 : Int) < (s.size : Int) := by omega
    have h0N : 0 < s.size := by omega
    obtain ⟨L, hL⟩ : ∃ L, s.size - 1 = L := ⟨_, rfl⟩
    have hw1 : IntKind.i64.wrap ((s.size : Int) - 1) = (L : Int) := by simp [IntKind.wrap, IntKind.bits, IntKind.signed]; omega
    have hLI : (L : Int) < (s.size : Int) := by omega
    have hLN : L < s.size := by omega
    have hx : (s[0]'h0N).toNat = 39 := by
      rw [bytes_head h0N] at hq1
      simp only [Option.some.injEq] at hq1
      rw [hq1]; rfl
    have hy : (s[L]'hLN).toNat = 39 := by
      rw [bytes_last hLN (by omega)] at hq2
      simp only [Option.some.injEq] at hq2
      rw [hq2]; rfl
    have h1L : (1 : Int) ≤ (L : Int) := by omega
    have hLs : (L : Int) ≤ (s.size : Int) := by omega
    have hmid : s.extract 1 L = mid s := by unfold mid; rw [hL]
    have HMS := hid (show (mid s).size ≤ 4611686018427387904 by unfold mid; rw [ByteArray.size_extract]; omega)
    obtain ⟨md, hmd⟩ : ∃ m, mid s = m := ⟨_, rfl⟩
    rw [hmd] at hmid HMS HPD HMB
    obtain ⟨w2, hw2, hv2, hk2⟩ := three_set V1.out (.int .u8 2) (.int .i64 0) (.string md)
    have V2 := hid hv2; have K2 := hid (K1.out.trans' hk2 (fun i h => .inr (by rw [h]; exact HVB.out))); have R2 := hid ((hk2.block _ (row_lt R1.out) HRV.out).trans R1.out)
    obtain ⟨e0, e1, e2⟩ := encV_cells (v := (2, 0, md)) V2.out
    simp only at e0 e1 e2
    clear hq1 hq2 hL hmd hv2 hk2
    go_wp2_with fail
    try rw [hw2]
    clear hw2 c0 c1 c2 hf hx hy hw1 e0 e1 e2
    obtain ⟨t, htt⟩ : ∃ t, wrS (2, 0, md) = t := ⟨_, rfl⟩
    obtain ⟨fv, hfv⟩ : ∃ b, formB (2, 0, md) = b := ⟨_, rfl⟩
    have HT := hid htt; have HFV := hid hfv
    clear htt hfv
    refine (write_any (2, 0, md) HMS.out (by first | (simp; done) | exact BND.out.1) (by first | (simp; done) | exact BND.out.2) _ (ht.kept (K2.out))).mono ?_; rintro e w3 ⟨rfl, hk3⟩
    rw [HT.out, HFV.out]
    have V3 := hid ((hk3.block _ (row_lt V2.out) id).trans V2.out); have R3 := hid ((hk3.block _ (row_lt R2.out) id).trans R2.out); have K3 := hid ((K2.out).trans hk3)
    clear hk3
    obtain ⟨c0, c1, c2⟩ := encV_cells (v := (2, 0, md)) V3.out
    obtain ⟨r0, r1, r2⟩ := encV_cells (v := (0, 0, ⟨#[]⟩)) R3.out
    have fr := fun i => row_free R3.out i
    simp only at c0 c1 c2 r0 r1 r2
    have hct := chk_ne true
    have hcf := chk_ne false
    simp only [Bool.not_true, Bool.not_false] at hct hcf
    by_cases hgood : fv = true ∧ t = s
    · obtain ⟨hg1, hg2⟩ := hgood
      subst hg1
      have HP := (show pd s = ((2, 0, md), 0) by rw [HPD.out, if_pos HFV.out])
      rw [hg2]
      clear hg2
      obtain ⟨w4, hw4, hr4, hk4⟩ := three_set R3.out (.int .u8 2) (.int .i64 0) (.string md)
      go_wp2_with fail
      try rw [hw4]
      obtain ⟨z0, z1, z2⟩ := encV_cells (v := (2, 0, md)) hr4
      simp only at z0 z1 z2
      refine bodyPost_ret (v := .tuple #[vv (2, 0, md), .int .i64 0]) (by simp [results, Tryd.results16, go_sem, z0, z1, z2, vv]) rfl ?_
      exact ⟨by rw [HP], K3.out.trans' hk4 (fun i h => .inr (by rw [h]; exact HRB.out))⟩
    · have HP := (show pd s = (zeroV, 5) by rw [HPD.out, if_neg (fun h => hgood ⟨by rw [← HFV.out]; exact h, by rw [← HT.out]; unfold wrS; rw [if_pos h]; simp only [wr1, Int.reduceEq, if_false, if_true]; exact HMB.out⟩)])
      have hbad : (chk fv != 0) = true ∨ (chk fv != 0) = false ∧ ¬ t.toList = s.toList := by
        cases fv with
        | false => exact .inl hcf
        | true => exact .inr ⟨hct, fun e => hgood ⟨rfl, strEq e⟩⟩
      obtain ⟨w4, hw4, hr4, hk4⟩ := three_set R3.out (.int .u8 0) (.int .i64 0) (.string ⟨#[]⟩)
      clear hgood hct hcf
      rcases hbad with hbad | ⟨hbad, hbad2⟩
      · go_wp2_with fail
        try rw [hw4]
        obtain ⟨z0, z1, z2⟩ := encV_cells (v := (0, 0, ⟨#[]⟩)) hr4
        simp only at z0 z1 z2
        refine bodyPost_ret (v := .tuple #[.agg #[.int .u8 0, .int .i64 0, .string ⟨#[]⟩], .int .i64 5]) (by simp [results, Tryd.results16, go_sem, z0, z1, z2]) rfl ?_
        exact ⟨by rw [HP]; rfl, K3.out.trans' hk4 (fun i h => .inr (by rw [h]; exact HRB.out))⟩
      · have hb3 : (t.toList != s.toList) = true := by simpa using hbad2
        have hb4 : (t.toList == s.toList) = false := by simpa using hbad2
        go_wp2_with fail
        try rw [hw4]
        obtain ⟨z0, z1, z2⟩ := encV_cells (v := (0, 0, ⟨#[]⟩)) hr4
        simp only at z0 z1 z2
        refine bodyPost_ret (v := .tuple #[.agg #[.int .u8 0, .int .i64 0, .string ⟨#[]⟩], .int .i64 5]) (by simp [results, Tryd.results16, go_sem, z0, z1, z2]) rfl ?_
        exact ⟨by rw [HP]; rfl, K3.out.trans' hk4 (fun i h => .inr (by rw [h]; exact HRB.out))⟩
  · by_cases h2 : 2 ≤ s.size
    · have h2I : 2 ≤ (s.size : Int) := by omega
      have h0I : (0 : Int) < (s.size : Int) := by omega
      have h0N : 0 < s.size := by omega
      obtain ⟨L, hL⟩ : ∃ L, s.size - 1 = L := ⟨_, rfl⟩
      have hw1 : IntKind.i64.wrap ((s.size : Int) - 1) = (L : Int) := by simp [IntKind.wrap, IntKind.bits, IntKind.signed]; omega
      have hLI : (L : Int) < (s.size : Int) := by omega
      have hLN : L < s.size := by omega
      obtain ⟨x, hx⟩ : ∃ x, (s[0]'h0N).toNat = x := ⟨_, rfl⟩
      obtain ⟨y, hy⟩ : ∃ x, (s[L]'hLN).toNat = x := ⟨_, rfl⟩
      have hxy : ¬ (x = 39 ∧ y = 39) := fun ⟨e1, e2⟩ => hq ⟨h2, by
        rw [bytes_head h0N]; congr 1; exact UInt8.toNat_inj.1 (by rw [hx, e1]; rfl), by
        rw [bytes_last hLN (by omega)]; congr 1; exact UInt8.toNat_inj.1 (by rw [hy, e2]; rfl)⟩
      clear hL
      by_cases hx39 : x = 39
      · have hy39 : ¬ y = 39 := fun e => hxy ⟨hx39, e⟩
        have hb1 : ((x : Int) == 39) = true := by simp; omega
        have hb2 : ((y : Int) == 39) = false := by simp; omega
        clear hxy hx39 hy39
        rcases HP.out with ⟨hp1, rfl⟩ | ⟨hp1, tt, pp, rfl⟩
        · have HPD := hid (pd_int hq hp1)
          have BND := hid (pint_bounds hp1)
          clear hq hp1 HP
          obtain ⟨w2, hw2, hv2, hk2⟩ := three_set V1.out (.int .u8 1) (.int .i64 n) (.string ⟨#[]⟩)
          have V2 := hid hv2; have K2 := hid (K1.out.trans' hk2 (fun i h => .inr (by rw [h]; exact HVB.out))); have R2 := hid ((hk2.block _ (row_lt R1.out) HRV.out).trans R1.out)
          obtain ⟨e0, e1, e2⟩ := encV_cells (v := (1, n, ⟨#[]⟩)) V2.out
          simp only at e0 e1 e2
          clear hv2 hk2
          go_wp2_with fail
          try rw [hw2]
          clear hw2 c0 c1 c2 hf e0 e1 e2
          obtain ⟨t, htt⟩ : ∃ t, wrS (1, n, ⟨#[]⟩) = t := ⟨_, rfl⟩
          obtain ⟨fv, hfv⟩ : ∃ b, formB (1, n, ⟨#[]⟩) = b := ⟨_, rfl⟩
          have HT := hid htt; have HFV := hid hfv
          clear htt hfv
          refine (write_any (1, n, ⟨#[]⟩) (show (ByteArray.mk #[]).size ≤ 4611686018427387904 by decide) (by first | (simp; done) | exact BND.out.1) (by first | (simp; done) | exact BND.out.2) _ (ht.kept (K2.out))).mono ?_; rintro e w3 ⟨rfl, hk3⟩
          rw [HT.out, HFV.out]
          have V3 := hid ((hk3.block _ (row_lt V2.out) id).trans V2.out); have R3 := hid ((hk3.block _ (row_lt R2.out) id).trans R2.out); have K3 := hid ((K2.out).trans hk3)
          clear hk3
          obtain ⟨c0, c1, c2⟩ := encV_cells (v := (1, n, ⟨#[]⟩)) V3.out
          obtain ⟨r0, r1, r2⟩ := encV_cells (v := (0, 0, ⟨#[]⟩)) R3.out
          have fr := fun i => row_free R3.out i
          simp only at c0 c1 c2 r0 r1 r2
          have hct := chk_ne true
          have hcf := chk_ne false
          simp only [Bool.not_true, Bool.not_false] at hct hcf
          by_cases hgood : fv = true ∧ t = s
          · obtain ⟨hg1, hg2⟩ := hgood
            subst hg1
            have HP := (show pd s = ((1, n, ⟨#[]⟩), 0) by rw [HPD.out, if_pos (by rw [← hg2, ← HT.out, wrS_int])])
            rw [hg2]
            clear hg2
            obtain ⟨w4, hw4, hr4, hk4⟩ := three_set R3.out (.int .u8 1) (.int .i64 n) (.string ⟨#[]⟩)
            go_wp2_with fail
            try rw [hw4]
            obtain ⟨z0, z1, z2⟩ := encV_cells (v := (1, n, ⟨#[]⟩)) hr4
            simp only at z0 z1 z2
            refine bodyPost_ret (v := .tuple #[vv (1, n, ⟨#[]⟩), .int .i64 0]) (by simp [results, Tryd.results16, go_sem, z0, z1, z2, vv]) rfl ?_
            exact ⟨by rw [HP], K3.out.trans' hk4 (fun i h => .inr (by rw [h]; exact HRB.out))⟩
          · have HP := (show pd s = (zeroV, 5) by rw [HPD.out, if_neg (fun h => hgood ⟨by rw [← HFV.out]; rfl, by rw [← HT.out, wrS_int]; exact h.symm⟩)])
            have hbad : (chk fv != 0) = true ∨ (chk fv != 0) = false ∧ ¬ t.toList = s.toList := by
              cases fv with
              | false => exact .inl hcf
              | true => exact .inr ⟨hct, fun e => hgood ⟨rfl, strEq e⟩⟩
            obtain ⟨w4, hw4, hr4, hk4⟩ := three_set R3.out (.int .u8 0) (.int .i64 0) (.string ⟨#[]⟩)
            clear hgood hct hcf
            rcases hbad with hbad | ⟨hbad, hbad2⟩
            · go_wp2_with fail
              try rw [hw4]
              obtain ⟨z0, z1, z2⟩ := encV_cells (v := (0, 0, ⟨#[]⟩)) hr4
              simp only at z0 z1 z2
              refine bodyPost_ret (v := .tuple #[.agg #[.int .u8 0, .int .i64 0, .string ⟨#[]⟩], .int .i64 5]) (by simp [results, Tryd.results16, go_sem, z0, z1, z2]) rfl ?_
              exact ⟨by rw [HP]; rfl, K3.out.trans' hk4 (fun i h => .inr (by rw [h]; exact HRB.out))⟩
            · have hb3 : (t.toList != s.toList) = true := by simpa using hbad2
              have hb4 : (t.toList == s.toList) = false := by simpa using hbad2
              go_wp2_with fail
              try rw [hw4]
              obtain ⟨z0, z1, z2⟩ := encV_cells (v := (0, 0, ⟨#[]⟩)) hr4
              simp only at z0 z1 z2
              refine bodyPost_ret (v := .tuple #[.agg #[.int .u8 0, .int .i64 0, .string ⟨#[]⟩], .int .i64 5]) (by simp [results, Tryd.results16, go_sem, z0, z1, z2]) rfl ?_
              exact ⟨by rw [HP]; rfl, K3.out.trans' hk4 (fun i h => .inr (by rw [h]; exact HRB.out))⟩
        · have HPD := hid (pd_no hq hp1)
          clear hq hp1 HP
          go_wp2_with fail
          clear hf c0 c1 c2
          obtain ⟨t, htt⟩ : ∃ t, wrS (0, 0, ⟨#[]⟩) = t := ⟨_, rfl⟩
          obtain ⟨fv, hfv⟩ : ∃ b, formB (0, 0, ⟨#[]⟩) = b := ⟨_, rfl⟩
          have HT := hid htt; have HFV := hid hfv
          clear htt hfv
          refine (write_any (0, 0, ⟨#[]⟩) (by decide) (by first | (simp; done) | exact BND.out.1) (by first | (simp; done) | exact BND.out.2) _ (ht.kept (K1.out))).mono ?_; rintro e w3 ⟨rfl, hk3⟩
          rw [HT.out, HFV.out]
          have V3 := hid ((hk3.block _ (row_lt V1.out) id).trans V1.out); have R3 := hid ((hk3.block _ (row_lt R1.out) id).trans R1.out); have K3 := hid ((K1.out).trans hk3)
          clear hk3
          obtain ⟨c0, c1, c2⟩ := encV_cells (v := (0, 0, ⟨#[]⟩)) V3.out
          obtain ⟨r0, r1, r2⟩ := encV_cells (v := (0, 0, ⟨#[]⟩)) R3.out
          have fr := fun i => row_free R3.out i
          simp only at c0 c1 c2 r0 r1 r2
          have hct := chk_ne true
          have hcf := chk_ne false
          simp only [Bool.not_true, Bool.not_false] at hct hcf
          by_cases hgood : fv = true ∧ t = s
          · obtain ⟨hg1, hg2⟩ := hgood
            subst hg1
            have HP := (show pd s = ((0, 0, ⟨#[]⟩), 0) by rw [HPD.out, if_pos (by rw [← hg2, ← HT.out]; exact wrS_zero)]; rfl)
            rw [hg2]
            clear hg2
            obtain ⟨w4, hw4, hr4, hk4⟩ := three_set R3.out (.int .u8 0) (.int .i64 0) (.string ⟨#[]⟩)
            go_wp2_with fail
            try rw [hw4]
            obtain ⟨z0, z1, z2⟩ := encV_cells (v := (0, 0, ⟨#[]⟩)) hr4
            simp only at z0 z1 z2
            refine bodyPost_ret (v := .tuple #[vv (0, 0, ⟨#[]⟩), .int .i64 0]) (by simp [results, Tryd.results16, go_sem, z0, z1, z2, vv]) rfl ?_
            exact ⟨by rw [HP], K3.out.trans' hk4 (fun i h => .inr (by rw [h]; exact HRB.out))⟩
          · have HP := (show pd s = (zeroV, 5) by rw [HPD.out, if_neg (fun h => hgood ⟨by rw [← HFV.out]; rfl, by rw [← HT.out, h]; exact wrS_zero⟩)])
            have hbad : (chk fv != 0) = true ∨ (chk fv != 0) = false ∧ ¬ t.toList = s.toList := by
              cases fv with
              | false => exact .inl hcf
              | true => exact .inr ⟨hct, fun e => hgood ⟨rfl, strEq e⟩⟩
            obtain ⟨w4, hw4, hr4, hk4⟩ := three_set R3.out (.int .u8 0) (.int .i64 0) (.string ⟨#[]⟩)
            clear hgood hct hcf
            rcases hbad with hbad | ⟨hbad, hbad2⟩
            · go_wp2_with fail
              try rw [hw4]
              obtain ⟨z0, z1, z2⟩ := encV_cells (v := (0, 0, ⟨#[]⟩)) hr4
              simp only at z0 z1 z2
              refine bodyPost_ret (v := .tuple #[.agg #[.int .u8 0, .int .i64 0, .string ⟨#[]⟩], .int .i64 5]) (by simp [results, Tryd.results16, go_sem, z0, z1, z2]) rfl ?_
              exact ⟨by rw [HP]; rfl, K3.out.trans' hk4 (fun i h => .inr (by rw [h]; exact HRB.out))⟩
            · have hb3 : (t.toList != s.toList) = true := by simpa using hbad2
              have hb4 : (t.toList == s.toList) = false := by simpa using hbad2
              go_wp2_with fail
              try rw [hw4]
              obtain ⟨z0, z1, z2⟩ := encV_cells (v := (0, 0, ⟨#[]⟩)) hr4
              simp only at z0 z1 z2
              refine bodyPost_ret (v := .tuple #[.agg #[.int .u8 0, .int .i64 0, .string ⟨#[]⟩], .int .i64 5]) (by simp [results, Tryd.results16, go_sem, z0, z1, z2]) rfl ?_
              exact ⟨by rw [HP]; rfl, K3.out.trans' hk4 (fun i h => .inr (by rw [h]; exact HRB.out))⟩
      · have hb1 : ((x : Int) == 39) = false := by simp; omega
        clear hxy hx39
        rcases HP.out with ⟨hp1, rfl⟩ | ⟨hp1, tt, pp, rfl⟩
        · have HPD := hid (pd_int hq hp1)
          have BND := hid (pint_bounds hp1)
          clear hq hp1 HP
          obtain ⟨w2, hw2, hv2, hk2⟩ := three_set V1.out (.int .u8 1) (.int .i64 n) (.string ⟨#[]⟩)
          have V2 := hid hv2; have K2 := hid (K1.out.trans' hk2 (fun i h => .inr (by rw [h]; exact HVB.out))); have R2 := hid ((hk2.block _ (row_lt R1.out) HRV.out).trans R1.out)
          obtain ⟨e0, e1, e2⟩ := encV_cells (v := (1, n, ⟨#[]⟩)) V2.out
          simp only at e0 e1 e2
          clear hv2 hk2
          go_wp2_with fail
          try rw [hw2]
          clear hw2 c0 c1 c2 hf e0 e1 e2
          obtain ⟨t, htt⟩ : ∃ t, wrS (1, n, ⟨#[]⟩) = t := ⟨_, rfl⟩
          obtain ⟨fv, hfv⟩ : ∃ b, formB (1, n, ⟨#[]⟩) = b := ⟨_, rfl⟩
          have HT := hid htt; have HFV := hid hfv
          clear htt hfv
          refine (write_any (1, n, ⟨#[]⟩) (show (ByteArray.mk #[]).size ≤ 4611686018427387904 by decide) (by first | (simp; done) | exact BND.out.1) (by first | (simp; done) | exact BND.out.2) _ (ht.kept (K2.out))).mono ?_; rintro e w3 ⟨rfl, hk3⟩
          rw [HT.out, HFV.out]
          have V3 := hid ((hk3.block _ (row_lt V2.out) id).trans V2.out); have R3 := hid ((hk3.block _ (row_lt R2.out) id).trans R2.out); have K3 := hid ((K2.out).trans hk3)
          clear hk3
          obtain ⟨c0, c1, c2⟩ := encV_cells (v := (1, n, ⟨#[]⟩)) V3.out
          obtain ⟨r0, r1, r2⟩ := encV_cells (v := (0, 0, ⟨#[]⟩)) R3.out
          have fr := fun i => row_free R3.out i
          simp only at c0 c1 c2 r0 r1 r2
          have hct := chk_ne true
          have hcf := chk_ne false
          simp only [Bool.not_true, Bool.not_false] at hct hcf
          by_cases hgood : fv = true ∧ t = s
          · obtain ⟨hg1, hg2⟩ := hgood
            subst hg1
            have HP := (show pd s = ((1, n, ⟨#[]⟩), 0) by rw [HPD.out, if_pos (by rw [← hg2, ← HT.out, wrS_int])])
            rw [hg2]
            clear hg2
            obtain ⟨w4, hw4, hr4, hk4⟩ := three_set R3.out (.int .u8 1) (.int .i64 n) (.string ⟨#[]⟩)
            go_wp2_with fail
            try rw [hw4]
            obtain ⟨z0, z1, z2⟩ := encV_cells (v := (1, n, ⟨#[]⟩)) hr4
            simp only at z0 z1 z2
            refine bodyPost_ret (v := .tuple #[vv (1, n, ⟨#[]⟩), .int .i64 0]) (by simp [results, Tryd.results16, go_sem, z0, z1, z2, vv]) rfl ?_
            exact ⟨by rw [HP], K3.out.trans' hk4 (fun i h => .inr (by rw [h]; exact HRB.out))⟩
          · have HP := (show pd s = (zeroV, 5) by rw [HPD.out, if_neg (fun h => hgood ⟨by rw [← HFV.out]; rfl, by rw [← HT.out, wrS_int]; exact h.symm⟩)])
            have hbad : (chk fv != 0) = true ∨ (chk fv != 0) = false ∧ ¬ t.toList = s.toList := by
              cases fv with
              | false => exact .inl hcf
              | true => exact .inr ⟨hct, fun e => hgood ⟨rfl, strEq e⟩⟩
            obtain ⟨w4, hw4, hr4, hk4⟩ := three_set R3.out (.int .u8 0) (.int .i64 0) (.string ⟨#[]⟩)
            clear hgood hct hcf
            rcases hbad with hbad | ⟨hbad, hbad2⟩
            · go_wp2_with fail
              try rw [hw4]
              obtain ⟨z0, z1, z2⟩ := encV_cells (v := (0, 0, ⟨#[]⟩)) hr4
              simp only at z0 z1 z2
              refine bodyPost_ret (v := .tuple #[.agg #[.int .u8 0, .int .i64 0, .string ⟨#[]⟩], .int .i64 5]) (by simp [results, Tryd.results16, go_sem, z0, z1, z2]) rfl ?_
              exact ⟨by rw [HP]; rfl, K3.out.trans' hk4 (fun i h => .inr (by rw [h]; exact HRB.out))⟩
            · have hb3 : (t.toList != s.toList) = true := by simpa using hbad2
              have hb4 : (t.toList == s.toList) = false := by simpa using hbad2
              go_wp2_with fail
              try rw [hw4]
              obtain ⟨z0, z1, z2⟩ := encV_cells (v := (0, 0, ⟨#[]⟩)) hr4
              simp only at z0 z1 z2
              refine bodyPost_ret (v := .tuple #[.agg #[.int .u8 0, .int .i64 0, .string ⟨#[]⟩], .int .i64 5]) (by simp [results, Tryd.results16, go_sem, z0, z1, z2]) rfl ?_
              exact ⟨by rw [HP]; rfl, K3.out.trans' hk4 (fun i h => .inr (by rw [h]; exact HRB.out))⟩
        · have HPD := hid (pd_no hq hp1)
          clear hq hp1 HP
          go_wp2_with fail
          clear hf c0 c1 c2
          obtain ⟨t, htt⟩ : ∃ t, wrS (0, 0, ⟨#[]⟩) = t := ⟨_, rfl⟩
          obtain ⟨fv, hfv⟩ : ∃ b, formB (0, 0, ⟨#[]⟩) = b := ⟨_, rfl⟩
          have HT := hid htt; have HFV := hid hfv
          clear htt hfv
          refine (write_any (0, 0, ⟨#[]⟩) (by decide) (by first | (simp; done) | exact BND.out.1) (by first | (simp; done) | exact BND.out.2) _ (ht.kept (K1.out))).mono ?_; rintro e w3 ⟨rfl, hk3⟩
          rw [HT.out, HFV.out]
          have V3 := hid ((hk3.block _ (row_lt V1.out) id).trans V1.out); have R3 := hid ((hk3.block _ (row_lt R1.out) id).trans R1.out); have K3 := hid ((K1.out).trans hk3)
          clear hk3
          obtain ⟨c0, c1, c2⟩ := encV_cells (v := (0, 0, ⟨#[]⟩)) V3.out
          obtain ⟨r0, r1, r2⟩ := encV_cells (v := (0, 0, ⟨#[]⟩)) R3.out
          have fr := fun i => row_free R3.out i
          simp only at c0 c1 c2 r0 r1 r2
          have hct := chk_ne true
          have hcf := chk_ne false
          simp only [Bool.not_true, Bool.not_false] at hct hcf
          by_cases hgood : fv = true ∧ t = s
          · obtain ⟨hg1, hg2⟩ := hgood
            subst hg1
            have HP := (show pd s = ((0, 0, ⟨#[]⟩), 0) by rw [HPD.out, if_pos (by rw [← hg2, ← HT.out]; exact wrS_zero)]; rfl)
            rw [hg2]
            clear hg2
            obtain ⟨w4, hw4, hr4, hk4⟩ := three_set R3.out (.int .u8 0) (.int .i64 0) (.string ⟨#[]⟩)
            go_wp2_with fail
            try rw [hw4]
            obtain ⟨z0, z1, z2⟩ := encV_cells (v := (0, 0, ⟨#[]⟩)) hr4
            simp only at z0 z1 z2
            refine bodyPost_ret (v := .tuple #[vv (0, 0, ⟨#[]⟩), .int .i64 0]) (by simp [results, Tryd.results16, go_sem, z0, z1, z2, vv]) rfl ?_
            exact ⟨by rw [HP], K3.out.trans' hk4 (fun i h => .inr (by rw [h]; exact HRB.out))⟩
          · have HP := (show pd s = (zeroV, 5) by rw [HPD.out, if_neg (fun h => hgood ⟨by rw [← HFV.out]; rfl, by rw [← HT.out, h]; exact wrS_zero⟩)])
            have hbad : (chk fv != 0) = true ∨ (chk fv != 0) = false ∧ ¬ t.toList = s.toList := by
              cases fv with
              | false => exact .inl hcf
              | true => exact .inr ⟨hct, fun e => hgood ⟨rfl, strEq e⟩⟩
            obtain ⟨w4, hw4, hr4, hk4⟩ := three_set R3.out (.int .u8 0) (.int .i64 0) (.string ⟨#[]⟩)
            clear hgood hct hcf
            rcases hbad with hbad | ⟨hbad, hbad2⟩
            · go_wp2_with fail
              try rw [hw4]
              obtain ⟨z0, z1, z2⟩ := encV_cells (v := (0, 0, ⟨#[]⟩)) hr4
              simp only at z0 z1 z2
              refine bodyPost_ret (v := .tuple #[.agg #[.int .u8 0, .int .i64 0, .string ⟨#[]⟩], .int .i64 5]) (by simp [results, Tryd.results16, go_sem, z0, z1, z2]) rfl ?_
              exact ⟨by rw [HP]; rfl, K3.out.trans' hk4 (fun i h => .inr (by rw [h]; exact HRB.out))⟩
            · have hb3 : (t.toList != s.toList) = true := by simpa using hbad2
              have hb4 : (t.toList == s.toList) = false := by simpa using hbad2
              go_wp2_with fail
              try rw [hw4]
              obtain ⟨z0, z1, z2⟩ := encV_cells (v := (0, 0, ⟨#[]⟩)) hr4
              simp only at z0 z1 z2
              refine bodyPost_ret (v := .tuple #[.agg #[.int .u8 0, .int .i64 0, .string ⟨#[]⟩], .int .i64 5]) (by simp [results, Tryd.results16, go_sem, z0, z1, z2]) rfl ?_
              exact ⟨by rw [HP]; rfl, K3.out.trans' hk4 (fun i h => .inr (by rw [h]; exact HRB.out))⟩
    · have h2I : ¬ 2 ≤ (s.size : Int) := by omega
      clear h2
      rcases HP.out with ⟨hp1, rfl⟩ | ⟨hp1, tt, pp, rfl⟩
      · have HPD := hid (pd_int hq hp1)
        have BND := hid (pint_bounds hp1)
        clear hq hp1 HP
        obtain ⟨w2, hw2, hv2, hk2⟩ := three_set V1.out (.int .u8 1) (.int .i64 n) (.string ⟨#[]⟩)
        have V2 := hid hv2; have K2 := hid (K1.out.trans' hk2 (fun i h => .inr (by rw [h]; exact HVB.out))); have R2 := hid ((hk2.block _ (row_lt R1.out) HRV.out).trans R1.out)
        obtain ⟨e0, e1, e2⟩ := encV_cells (v := (1, n, ⟨#[]⟩)) V2.out
        simp only at e0 e1 e2
        clear hv2 hk2
        go_wp2_with fail
        try rw [hw2]
        clear hw2 c0 c1 c2 hf e0 e1 e2
        obtain ⟨t, htt⟩ : ∃ t, wrS (1, n, ⟨#[]⟩) = t := ⟨_, rfl⟩
        obtain ⟨fv, hfv⟩ : ∃ b, formB (1, n, ⟨#[]⟩) = b := ⟨_, rfl⟩
        have HT := hid htt; have HFV := hid hfv
        clear htt hfv
        refine (write_any (1, n, ⟨#[]⟩) (show (ByteArray.mk #[]).size ≤ 4611686018427387904 by decide) (by first | (simp; done) | exact BND.out.1) (by first | (simp; done) | exact BND.out.2) _ (ht.kept (K2.out))).mono ?_; rintro e w3 ⟨rfl, hk3⟩
        rw [HT.out, HFV.out]
        have V3 := hid ((hk3.block _ (row_lt V2.out) id).trans V2.out); have R3 := hid ((hk3.block _ (row_lt R2.out) id).trans R2.out); have K3 := hid ((K2.out).trans hk3)
        clear hk3
        obtain ⟨c0, c1, c2⟩ := encV_cells (v := (1, n, ⟨#[]⟩)) V3.out
        obtain ⟨r0, r1, r2⟩ := encV_cells (v := (0, 0, ⟨#[]⟩)) R3.out
        have fr := fun i => row_free R3.out i
        simp only at c0 c1 c2 r0 r1 r2
        have hct := chk_ne true
        have hcf := chk_ne false
        simp only [Bool.not_true, Bool.not_false] at hct hcf
        by_cases hgood : fv = true ∧ t = s
        · obtain ⟨hg1, hg2⟩ := hgood
          subst hg1
          have HP := (show pd s = ((1, n, ⟨#[]⟩), 0) by rw [HPD.out, if_pos (by rw [← hg2, ← HT.out, wrS_int])])
          rw [hg2]
          clear hg2
          obtain ⟨w4, hw4, hr4, hk4⟩ := three_set R3.out (.int .u8 1) (.int .i64 n) (.string ⟨#[]⟩)
          go_wp2_with fail
          try rw [hw4]
          obtain ⟨z0, z1, z2⟩ := encV_cells (v := (1, n, ⟨#[]⟩)) hr4
          simp only at z0 z1 z2
          refine bodyPost_ret (v := .tuple #[vv (1, n, ⟨#[]⟩), .int .i64 0]) (by simp [results, Tryd.results16, go_sem, z0, z1, z2, vv]) rfl ?_
          exact ⟨by rw [HP], K3.out.trans' hk4 (fun i h => .inr (by rw [h]; exact HRB.out))⟩
        · have HP := (show pd s = (zeroV, 5) by rw [HPD.out, if_neg (fun h => hgood ⟨by rw [← HFV.out]; rfl, by rw [← HT.out, wrS_int]; exact h.symm⟩)])
          have hbad : (chk fv != 0) = true ∨ (chk fv != 0) = false ∧ ¬ t.toList = s.toList := by
            cases fv with
            | false => exact .inl hcf
            | true => exact .inr ⟨hct, fun e => hgood ⟨rfl, strEq e⟩⟩
          obtain ⟨w4, hw4, hr4, hk4⟩ := three_set R3.out (.int .u8 0) (.int .i64 0) (.string ⟨#[]⟩)
          clear hgood hct hcf
          rcases hbad with hbad | ⟨hbad, hbad2⟩
          · go_wp2_with fail
            try rw [hw4]
            obtain ⟨z0, z1, z2⟩ := encV_cells (v := (0, 0, ⟨#[]⟩)) hr4
            simp only at z0 z1 z2
            refine bodyPost_ret (v := .tuple #[.agg #[.int .u8 0, .int .i64 0, .string ⟨#[]⟩], .int .i64 5]) (by simp [results, Tryd.results16, go_sem, z0, z1, z2]) rfl ?_
            exact ⟨by rw [HP]; rfl, K3.out.trans' hk4 (fun i h => .inr (by rw [h]; exact HRB.out))⟩
          · have hb3 : (t.toList != s.toList) = true := by simpa using hbad2
            have hb4 : (t.toList == s.toList) = false := by simpa using hbad2
            go_wp2_with fail
            try rw [hw4]
            obtain ⟨z0, z1, z2⟩ := encV_cells (v := (0, 0, ⟨#[]⟩)) hr4
            simp only at z0 z1 z2
            refine bodyPost_ret (v := .tuple #[.agg #[.int .u8 0, .int .i64 0, .string ⟨#[]⟩], .int .i64 5]) (by simp [results, Tryd.results16, go_sem, z0, z1, z2]) rfl ?_
            exact ⟨by rw [HP]; rfl, K3.out.trans' hk4 (fun i h => .inr (by rw [h]; exact HRB.out))⟩
      · have HPD := hid (pd_no hq hp1)
        clear hq hp1 HP
        go_wp2_with fail
        clear hf c0 c1 c2
        obtain ⟨t, htt⟩ : ∃ t, wrS (0, 0, ⟨#[]⟩) = t := ⟨_, rfl⟩
        obtain ⟨fv, hfv⟩ : ∃ b, formB (0, 0, ⟨#[]⟩) = b := ⟨_, rfl⟩
        have HT := hid htt; have HFV := hid hfv
        clear htt hfv
        refine (write_any (0, 0, ⟨#[]⟩) (by decide) (by first | (simp; done) | exact BND.out.1) (by first | (simp; done) | exact BND.out.2) _ (ht.kept (K1.out))).mono ?_; rintro e w3 ⟨rfl, hk3⟩
        rw [HT.out, HFV.out]
        have V3 := hid ((hk3.block _ (row_lt V1.out) id).trans V1.out); have R3 := hid ((hk3.block _ (row_lt R1.out) id).trans R1.out); have K3 := hid ((K1.out).trans hk3)
        clear hk3
        obtain ⟨c0, c1, c2⟩ := encV_cells (v := (0, 0, ⟨#[]⟩)) V3.out
        obtain ⟨r0, r1, r2⟩ := encV_cells (v := (0, 0, ⟨#[]⟩)) R3.out
        have fr := fun i => row_free R3.out i
        simp only at c0 c1 c2 r0 r1 r2
        have hct := chk_ne true
        have hcf := chk_ne false
        simp only [Bool.not_true, Bool.not_false] at hct hcf
        by_cases hgood : fv = true ∧ t = s
        · obtain ⟨hg1, hg2⟩ := hgood
          subst hg1
          have HP := (show pd s = ((0, 0, ⟨#[]⟩), 0) by rw [HPD.out, if_pos (by rw [← hg2, ← HT.out]; exact wrS_zero)]; rfl)
          rw [hg2]
          clear hg2
          obtain ⟨w4, hw4, hr4, hk4⟩ := three_set R3.out (.int .u8 0) (.int .i64 0) (.string ⟨#[]⟩)
          go_wp2_with fail
          try rw [hw4]
          obtain ⟨z0, z1, z2⟩ := encV_cells (v := (0, 0, ⟨#[]⟩)) hr4
          simp only at z0 z1 z2
          refine bodyPost_ret (v := .tuple #[vv (0, 0, ⟨#[]⟩), .int .i64 0]) (by simp [results, Tryd.results16, go_sem, z0, z1, z2, vv]) rfl ?_
          exact ⟨by rw [HP], K3.out.trans' hk4 (fun i h => .inr (by rw [h]; exact HRB.out))⟩
        · have HP := (show pd s = (zeroV, 5) by rw [HPD.out, if_neg (fun h => hgood ⟨by rw [← HFV.out]; rfl, by rw [← HT.out, h]; exact wrS_zero⟩)])
          have hbad : (chk fv != 0) = true ∨ (chk fv != 0) = false ∧ ¬ t.toList = s.toList := by
            cases fv with
            | false => exact .inl hcf
            | true => exact .inr ⟨hct, fun e => hgood ⟨rfl, strEq e⟩⟩
          obtain ⟨w4, hw4, hr4, hk4⟩ := three_set R3.out (.int .u8 0) (.int .i64 0) (.string ⟨#[]⟩)
          clear hgood hct hcf
          rcases hbad with hbad | ⟨hbad, hbad2⟩
          · go_wp2_with fail
            try rw [hw4]
            obtain ⟨z0, z1, z2⟩ := encV_cells (v := (0, 0, ⟨#[]⟩)) hr4
            simp only at z0 z1 z2
            refine bodyPost_ret (v := .tuple #[.agg #[.int .u8 0, .int .i64 0, .string ⟨#[]⟩], .int .i64 5]) (by simp [results, Tryd.results16, go_sem, z0, z1, z2]) rfl ?_
            exact ⟨by rw [HP]; rfl, K3.out.trans' hk4 (fun i h => .inr (by rw [h]; exact HRB.out))⟩
          · have hb3 : (t.toList != s.toList) = true := by simpa using hbad2
            have hb4 : (t.toList == s.toList) = false := by simpa using hbad2
            go_wp2_with fail
            try rw [hw4]
            obtain ⟨z0, z1, z2⟩ := encV_cells (v := (0, 0, ⟨#[]⟩)) hr4
            simp only at z0 z1 z2
            refine bodyPost_ret (v := .tuple #[.agg #[.int .u8 0, .int .i64 0, .string ⟨#[]⟩], .int .i64 5]) (by simp [results, Tryd.results16, go_sem, z0, z1, z2]) rfl ?_
            exact ⟨by rw [HP]; rfl, K3.out.trans' hk4 (fun i h => .inr (by rw [h]; exact HRB.out))⟩
end Go.Proofs.YtnicaiofjficnaaDoor
