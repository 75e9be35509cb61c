/- The document's Parse. -/
import Derived.Test.YtnicaiofjficnaaDoorU
namespace Go.Proofs.YtnicaiofjficnaaDoor
open Go.RowKit
theorem pd_none : pd noneB = (zeroV, 0) := by unfold pd; rw [if_pos rfl]
theorem pd_num {s : ByteArray} (h : ¬ s = noneB) {v : Int} (hn : numOk s.data.toList = some v) : pd s = ((1, v, ⟨#[]⟩), 0) := by unfold pd; rw [if_neg h, hn]
theorem pd_bad {s : ByteArray} (h : ¬ s = noneB) (hn : numOk s.data.toList = none) (hq : ¬ quoted s) : pd s = (zeroV, 5) := by
  unfold pd; rw [if_neg h, hn]; simp only [hq, false_and, if_false]
set_option maxHeartbeats 4000000 in
set_option maxRecDepth 100000 in
theorem docparse_any (s : ByteArray) (hs : s.size ≤ 140737488355327) (w : World) : Calls Tryd.prog 17 #[.string s] w fun e w' => e = .returned (.tuple #[vv (pd s).1, .int .i64 (pd s).2]) ∧ Kept (fun _ => False) w w' := by
  have hr := row_new w (.cells #[.int .u8 0, .int .i64 0, .string ⟨#[]⟩] 23)
  have hk := (Kept.refl (fun _ => False) w).alloc (.cells #[.int .u8 0, .int .i64 0, .string ⟨#[]⟩] 23)
  obtain ⟨w1, hw1⟩ : ∃ w1, w.alloc (.cells #[.int .u8 0, .int .i64 0, .string ⟨#[]⟩] 23) = w1 := ⟨_, rfl⟩
  obtain ⟨rb, hrb⟩ : ∃ rb, w.heap.size = rb := ⟨_, rfl⟩
  rw [hw1] at hr hk
  rw [hrb] at hr
  have HRB := hid (Nat.le_of_eq hrb)
  have R1 := hid hr; have K1 := hid hk
  obtain ⟨r0, r1, r2⟩ := encV_cells (v := (0, 0, ⟨#[]⟩)) hr
  have fr := fun i => row_free hr i
  simp only at r0 r1 r2
  clear hr hk
  go_enter Tryd.func17, Tryd.ntmps17
  by_cases hn : s = noneB
  · subst hn
    have HP := pd_none
    obtain ⟨w4, hw4, hr4, hk4⟩ := three_set R1.out (.int .u8 0) (.int .i64 0) (.string ⟨#[]⟩)
    unfold noneB
    go_wp2_with fail
    try rw [hw4]
    obtain ⟨z0, z1, z2⟩ := encV_cells (v := (0, 0, ⟨#[]⟩)) hr4
    simp only at z0 z1 z2
    refine bodyPost_ret (v := .tuple #[vv (0, 0, ⟨#[]⟩), .int .i64 0]) (by simp [results, Tryd.results17, go_sem, z0, z1, z2, vv]) rfl ?_
    exact ⟨by unfold noneB at HP; rw [HP]; rfl, K1.out.trans' hk4 (fun i h => .inr (by rw [h]; exact HRB.out))⟩
  · have hn1 : ¬ s.toList = [110, 111, 110, 101] := fun e => hn (toList_inj (by rw [ByteArray.toList_eq] at e; rw [e]; rfl))
    have hn2 : (s.toList == [110, 111, 110, 101]) = false := by simpa using hn1
    have HN := hid hn
    clear hn
    go_wp2_with fail
    try rw [hw1]
    try rw [hrb]
    clear hw1 hrb
    refine (number_any s hs _).mono ?_; rintro e w2 ⟨x, rfl, hx, rfl⟩
    cases hno : numOk s.data.toList with
    | some v =>
      have hxv := hx v hno
      subst hxv
      have HP := hid (pd_num HN.out hno)
      simp only [Option.isSome_some]
      clear hx hno
      obtain ⟨w4, hw4, hr4, hk4⟩ := three_set R1.out (.int .u8 1) (.int .i64 x) (.string ⟨#[]⟩)
      go_wp2_with fail
      try rw [hw4]
      obtain ⟨z0, z1, z2⟩ := encV_cells (v := (1, x, ⟨#[]⟩)) hr4
      simp only at z0 z1 z2
      refine bodyPost_ret (v := .tuple #[vv (1, x, ⟨#[]⟩), .int .i64 0]) (by simp [results, Tryd.results17, go_sem, z0, z1, z2, vv]) rfl ?_
      exact ⟨by rw [HP.out], K1.out.trans' hk4 (fun i h => .inr (by rw [h]; exact HRB.out))⟩
    | none =>
      have HNO := hid hno
      simp only [Option.isSome_none]
      clear hx hno
      by_cases hq : quoted s
      · have HPD := hid (pd_quoted hq)
        obtain ⟨h2, hq1, hq2⟩ := hq
        have h2I : 2 ≤ (s.size : Int) := by omega
        have h0I : (0 : Int) < (s.size : Int) := by omega
        have h0N : 0 < s.size := by omega
        obtain ⟨L, hL⟩ : ∃ L, s.size - 1 = L := ⟨_, rfl⟩
        have hwL : IntKind.i64.wrap ((s.size : Int) - 1) = (L : Int) := by simp [IntKind.wrap, IntKind.bits, IntKind.signed]; omega
        have hLI : (L : Int) < (s.size : Int) := by omega
        have hLN : L < s.size := by omega
        have hx : (s[0]'h0N).toNat = 39 := by
          rw [bytes_head h0N] at hq1
          simp only [Option.some.injEq] at hq1
          rw [hq1]; rfl
        have hy : (s[L]'hLN).toNat = 39 := by
          rw [bytes_last hLN (by omega)] at hq2
          simp only [Option.some.injEq] at hq2
          rw [hq2]; rfl
        have h1L : (1 : Int) ≤ (L : Int) := by omega
        have hLs : (L : Int) ≤ (s.size : Int) := by omega
        have hmid : s.extract 1 L = mid s := by unfold mid; rw [hL]
        have HMS := hid (show (mid s).size ≤ 4611686018427387904 by unfold mid; rw [ByteArray.size_extract]; omega)
        obtain ⟨md, hmd⟩ : ∃ m, mid s = m := ⟨_, rfl⟩
        rw [hmd] at hmid HMS HPD
        clear hq1 hq2 hL hmd
        have hr2' := row_new w1 (.cells #[.int .u8 2, .int .i64 0, .string md] 23)
        have hk2 := (Kept.refl (fun _ => False) w1).alloc (.cells #[.int .u8 2, .int .i64 0, .string md] 23)
        obtain ⟨w2, hw2⟩ : ∃ w2, w1.alloc (.cells #[.int .u8 2, .int .i64 0, .string md] 23) = w2 := ⟨_, rfl⟩
        obtain ⟨vb, hvb⟩ : ∃ vb, w1.heap.size = vb := ⟨_, rfl⟩
        rw [hw2] at hr2' hk2
        rw [hvb] at hr2'
        obtain ⟨e0, e1, e2⟩ := encV_cells (v := (2, 0, md)) hr2'
        simp only at e0 e1 e2
        have V2 := hid hr2'; have K2 := hid (K1.out.trans hk2); have R2 := hid ((hk2.block _ (row_lt R1.out) id).trans R1.out)
        clear hr2' hk2
        go_wp2_with fail
        refine (form_any (2, 0, md) HMS.out _).mono ?_; rintro e w3 ⟨rfl, hk3⟩
        obtain ⟨fv, hfv⟩ : ∃ b, formB (2, 0, md) = b := ⟨_, rfl⟩
        rw [hfv]
        have HFV := hid hfv
        have V3 := hid ((hk3.block _ (row_lt V2.out) id).trans V2.out); have R3 := hid ((hk3.block _ (row_lt R2.out) id).trans R2.out); have K3 := hid (K2.out.trans hk3)
        clear hk3 hfv hw2 hvb hx hy hwL e0 e1 e2 r0 r1 r2 fr
        obtain ⟨e0, e1, e2⟩ := encV_cells (v := (2, 0, md)) V3.out
        obtain ⟨r0, r1, r2⟩ := encV_cells (v := (0, 0, ⟨#[]⟩)) R3.out
        have fr := fun i => row_free R3.out i
        simp only at e0 e1 e2 r0 r1 r2
        cases fv with
        | true =>
          have HP := hid (show pd s = ((2, 0, md), 0) by rw [HPD.out, if_pos HFV.out])
          obtain ⟨w4, hw4, hr4, hk4⟩ := three_set R3.out (.int .u8 2) (.int .i64 0) (.string md)
          go_wp2_with fail
          try rw [hw4]
          obtain ⟨z0, z1, z2⟩ := encV_cells (v := (2, 0, md)) hr4
          simp only at z0 z1 z2
          refine bodyPost_ret (v := .tuple #[vv (2, 0, md), .int .i64 0]) (by simp [results, Tryd.results17, go_sem, z0, z1, z2, vv]) rfl ?_
          exact ⟨by rw [HP.out], K3.out.trans' hk4 (fun i h => .inr (by rw [h]; exact HRB.out))⟩
        | false =>
          have HP := hid (show pd s = (zeroV, 5) by rw [HPD.out, if_neg (by rw [HFV.out]; decide)])
          obtain ⟨w4, hw4, hr4, hk4⟩ := three_set R3.out (.int .u8 0) (.int .i64 0) (.string ⟨#[]⟩)
          go_wp2_with fail
          try rw [hw4]
          obtain ⟨z0, z1, z2⟩ := encV_cells (v := (0, 0, ⟨#[]⟩)) hr4
          simp only at z0 z1 z2
          refine bodyPost_ret (v := .tuple #[vv (0, 0, ⟨#[]⟩), .int .i64 5]) (by simp [results, Tryd.results17, go_sem, z0, z1, z2, vv]) rfl ?_
          exact ⟨by rw [HP.out]; rfl, K3.out.trans' hk4 (fun i h => .inr (by rw [h]; exact HRB.out))⟩
      · by_cases h2 : 2 ≤ s.size
        · have h2I : 2 ≤ (s.size : Int) := by omega
          have h0I : (0 : Int) < (s.size : Int) := by omega
          have h0N : 0 < s.size := by omega
          obtain ⟨L, hL⟩ : ∃ L, s.size - 1 = L := ⟨_, rfl⟩
          have hwL : IntKind.i64.wrap ((s.size : Int) - 1) = (L : Int) := by simp [IntKind.wrap, IntKind.bits, IntKind.signed]; omega
          have hLI : (L : Int) < (s.size : Int) := by omega
          have hLN : L < s.size := by omega
          obtain ⟨x, hx⟩ : ∃ x, (s[0]'h0N).toNat = x := ⟨_, rfl⟩
          obtain ⟨y, hy⟩ : ∃ x, (s[L]'hLN).toNat = x := ⟨_, rfl⟩
          have hxy : ¬ (x = 39 ∧ y = 39) := fun ⟨e1, e2⟩ => hq ⟨h2, by
            rw [bytes_head h0N]; congr 1; exact UInt8.toNat_inj.1 (by rw [hx, e1]; rfl), by
            rw [bytes_last hLN (by omega)]; congr 1; exact UInt8.toNat_inj.1 (by rw [hy, e2]; rfl)⟩
          clear hL
          by_cases hx39 : x = 39
          · have hy39 : ¬ y = 39 := fun e => hxy ⟨hx39, e⟩
            have hb1 : ((x : Int) == 39) = true := by simp; omega
            have hb2 : ((y : Int) == 39) = false := by simp; omega
            clear hxy hx39 hy39
            have HP := hid (pd_bad HN.out HNO.out hq)
            clear hq
            obtain ⟨w4, hw4, hr4, hk4⟩ := three_set R1.out (.int .u8 0) (.int .i64 0) (.string ⟨#[]⟩)
            go_wp2_with fail
            try rw [hw4]
            obtain ⟨z0, z1, z2⟩ := encV_cells (v := (0, 0, ⟨#[]⟩)) hr4
            simp only at z0 z1 z2
            refine bodyPost_ret (v := .tuple #[vv (0, 0, ⟨#[]⟩), .int .i64 5]) (by simp [results, Tryd.results17, go_sem, z0, z1, z2, vv]) rfl ?_
            exact ⟨by rw [HP.out]; rfl, K1.out.trans' hk4 (fun i h => .inr (by rw [h]; exact HRB.out))⟩
          · have hb1 : ((x : Int) == 39) = false := by simp; omega
            clear hxy hx39
            have HP := hid (pd_bad HN.out HNO.out hq)
            clear hq
            obtain ⟨w4, hw4, hr4, hk4⟩ := three_set R1.out (.int .u8 0) (.int .i64 0) (.string ⟨#[]⟩)
            go_wp2_with fail
            try rw [hw4]
            obtain ⟨z0, z1, z2⟩ := encV_cells (v := (0, 0, ⟨#[]⟩)) hr4
            simp only at z0 z1 z2
            refine bodyPost_ret (v := .tuple #[vv (0, 0, ⟨#[]⟩), .int .i64 5]) (by simp [results, Tryd.results17, go_sem, z0, z1, z2, vv]) rfl ?_
            exact ⟨by rw [HP.out]; rfl, K1.out.trans' hk4 (fun i h => .inr (by rw [h]; exact HRB.out))⟩
        · have h2I : ¬ 2 ≤ (s.size : Int) := by omega
          clear h2
          have HP := hid (pd_bad HN.out HNO.out hq)
          clear hq
          obtain ⟨w4, hw4, hr4, hk4⟩ := three_set R1.out (.int .u8 0) (.int .i64 0) (.string ⟨#[]⟩)
          go_wp2_with fail
          try rw [hw4]
          obtain ⟨z0, z1, z2⟩ := encV_cells (v := (0, 0, ⟨#[]⟩)) hr4
          simp only at z0 z1 z2
          refine bodyPost_ret (v := .tuple #[vv (0, 0, ⟨#[]⟩), .int .i64 5]) (by simp [results, Tryd.results17, go_sem, z0, z1, z2, vv]) rfl ?_
          exact ⟨by rw [HP.out]; rfl, K1.out.trans' hk4 (fun i h => .inr (by rw [h]; exact HRB.out))⟩
end Go.Proofs.YtnicaiofjficnaaDoor
