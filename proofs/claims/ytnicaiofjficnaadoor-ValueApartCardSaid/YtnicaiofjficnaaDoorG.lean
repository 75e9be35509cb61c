/- The document's DocCmp; Or; Cmp. -/
import Derived.Test.YtnicaiofjficnaaDoorF
namespace Go.Proofs.YtnicaiofjficnaaDoor
open Go.RowKit
def nth3 (a b c : Int) (k : Nat) : Int := if k = 0 then a else if k = 1 then b else c
set_option maxRecDepth 100000 in
set_option maxHeartbeats 1000000 in
theorem or_any {w : World} {lb : Nat} {a b c : Int} (h : w.heap[lb]? = some (.cells #[.int .i64 a, .int .i64 b, .int .i64 c] 3 (0, 0))) :
    Calls Tryd.prog 18 #[.slice (some ⟨lb, 0, none⟩) 3 3] w fun e w' => e = .returned (.int .i64 (or3 a b c)) ∧ w = w' := by
  have HC := hid (fun (k : Nat) (hk : k < 3) => show w.cell? ⟨lb, k, none⟩ = some (.int .i64 (nth3 a b c k)) from by
    rw [row_cell h]
    match k, hk with
    | 0, _ => rfl
    | 1, _ => rfl
    | 2, _ => rfl)
  clear h
  go_enter Tryd.func18, Tryd.ntmps18
  go_wp2_with fail
  go_loopw [8] (fun i wr => ∃ k : Nat, k ≤ 3 ∧ i = .int .i64 k ∧ w = wr ∧ ∀ j, j < k → nth3 a b c j = 0) (fun i _ => 3 - (RowKit.intOf i).toNat)
  case atStart => exact ⟨0, by omega, rfl, rfl, fun j h => absurd h (Nat.not_lt_zero _)⟩
  case round =>
    obtain ⟨k, hk, rfl, rfl, hz⟩ := hrel
    have HZ := hid hz
    clear hz
    by_cases hlt : k < 3
    · have hltI : (k : Int) < 3 := by omega
      have cc := HC.out k hlt
      obtain ⟨x, hx⟩ : ∃ x, nth3 a b c k = x := ⟨_, rfl⟩
      rw [hx] at cc
      have HX := hid hx
      obtain ⟨bz, hbz⟩ : ∃ b, (x != 0) = b := ⟨_, rfl⟩
      clear hx
      cases bz with
      | true =>
        have hor : or3 a b c = x := by
          have h1 : x ≠ 0 := by simpa using hbz
          have h2 := HX.out
          match k, hlt with
          | 0, _ => simp [nth3] at h2; simp [or3, h2, h1]
          | 1, _ => have e0 := HZ.out 0 (by omega); simp [nth3] at h2 e0; simp [or3, e0, h2, h1]
          | 2, _ => have e0 := HZ.out 0 (by omega); have e1 := HZ.out 1 (by omega); simp [nth3] at h2 e0 e1; simp [or3, e0, e1, h2]
        have HOR := hid hor
        clear hor
        go_wp2
        go_ret
        exact ⟨ret_int HOR.out.symm, rfl⟩
      | false =>
        have hx0 : x = 0 := by simpa using hbz
        have HX0 := hid hx0
        clear hx0
        go_wp2
        go_roundw
        case rel => exact ⟨k + 1, by omega, by go_num, (by first | rfl | trivial), fun j hj => by
          rcases Nat.lt_succ_iff_lt_or_eq.1 hj with h1 | rfl
          · exact HZ.out j h1
          · rw [HX.out, HX0.out]⟩
        case measure => (simp only [RowKit.intOf]; omega)
    · obtain rfl : k = 3 := by omega
      have hor : or3 a b c = 0 := by
        have e0 := HZ.out 0 (by omega); have e1 := HZ.out 1 (by omega); have e2 := HZ.out 2 (by omega)
        simp [nth3] at e0 e1 e2
        simp [or3, e0, e1, e2]
      have HOR := hid hor
      clear hor
      go_wp2
      go_ret
      exact ⟨ret_int HOR.out.symm, rfl⟩
def ans (a b : Vv) : Int × Int := if formB a && formB b then (cmpV a b, 0) else (0, 3)
theorem ans_no {a b : Vv} (h : (formB a && formB b) = false) : ans a b = (0, 3) := by unfold ans; rw [h]; rfl
theorem ans_yes {a b : Vv} (h : (formB a && formB b) = true) : ans a b = (cmpV a b, 0) := by unfold ans; rw [h]; rfl
theorem ret2 {a b : Int} {x : Int × Int} (h : x = (a, b)) : Ending.returned (.tuple #[.int .i64 a, .int .i64 b]) = .returned (.tuple #[.int .i64 x.1, .int .i64 x.2]) := by rw [h]
set_option maxHeartbeats 2000000 in
set_option maxRecDepth 100000 in
theorem doccmp_any (a b : Vv) (ha : a.2.2.size ≤ 4611686018427387904) (hb : b.2.2.size ≤ 4611686018427387904) (w : World) : Calls Tryd.prog 9 #[vv a, vv b] w fun e w' => e = .returned (.tuple #[.int .i64 (ans a b).1, .int .i64 (ans a b).2]) ∧ Kept (fun _ => False) w w' := by
  obtain ⟨fa, hfa⟩ : ∃ f, formB a = f := ⟨_, rfl⟩
  obtain ⟨fb, hfb⟩ : ∃ f, formB b = f := ⟨_, rfl⟩
  obtain ⟨l1, hl1⟩ : ∃ f, lessV a b = f := ⟨_, rfl⟩
  obtain ⟨l2, hl2⟩ : ∃ f, lessV b a = f := ⟨_, rfl⟩
  have HFA := hid hfa; have HFB := hid hfb; have HL1 := hid hl1; have HL2 := hid hl2
  clear hfa hfb hl1 hl2
  have HA := hid ha; have HB := hid hb
  obtain ⟨k1, n1, s1⟩ := a
  obtain ⟨k2, n2, s2⟩ := b
  clear ha hb
  unfold vv
  simp only
  obtain ⟨w1, hw1, hr1, hr2, hk⟩ := two_vals w k1 n1 s1 k2 n2 s2
  obtain ⟨ab, hab⟩ : ∃ ab, w.heap.size = ab := ⟨_, rfl⟩
  rw [hab] at hr1 hr2
  have R1 := hid hr1; have R2 := hid hr2
  obtain ⟨c0, c1, c2⟩ := encV_cells (v := (k1, n1, s1)) hr1
  obtain ⟨d0, d1, d2⟩ := encV_cells (v := (k2, n2, s2)) hr2
  simp only at c0 c1 c2 d0 d1 d2
  have K := hid hk
  clear hk hr1 hr2
  go_enter Tryd.func9, Tryd.ntmps9
  go_wp2_with fail
  refine (form_any (k1, n1, s1) HA.out _).mono ?_; rintro e w2 ⟨rfl, hk⟩
  rw [HFA.out]
  have K2 := hid (K.out.trans hk); have P2 := hid ((hk.block _ (row_lt R1.out) id).trans R1.out); have Q2 := hid ((hk.block _ (row_lt R2.out) id).trans R2.out)
  clear hk
  try clear c0 c1 c2 d0 d1 d2 hw1 hab
  try clear c0 c1 c2 d0 d1 d2
  obtain ⟨c0, c1, c2⟩ := encV_cells (v := (k1, n1, s1)) P2.out
  obtain ⟨d0, d1, d2⟩ := encV_cells (v := (k2, n2, s2)) Q2.out
  simp only at c0 c1 c2 d0 d1 d2
  cases fa with
  | false =>
    go_wp2_with fail
    go_returns
    exact ⟨ret2 (ans_no (by rw [HFA.out]; rfl)), K2.out⟩
  | true =>
    go_wp2_with fail
    refine (form_any (k2, n2, s2) HB.out _).mono ?_; rintro e w3 ⟨rfl, hk⟩
    rw [HFB.out]
    have K3 := hid (K2.out.trans hk); have P3 := hid ((hk.block _ (row_lt P2.out) id).trans P2.out); have Q3 := hid ((hk.block _ (row_lt Q2.out) id).trans Q2.out)
    clear hk
    try clear c0 c1 c2 d0 d1 d2 hw1 hab
    try clear c0 c1 c2 d0 d1 d2
    obtain ⟨c0, c1, c2⟩ := encV_cells (v := (k1, n1, s1)) P3.out
    obtain ⟨d0, d1, d2⟩ := encV_cells (v := (k2, n2, s2)) Q3.out
    simp only at c0 c1 c2 d0 d1 d2
    cases fb with
    | false =>
      go_wp2_with fail
      go_returns
      exact ⟨ret2 (ans_no (by rw [HFB.out, HFA.out]; rfl)), K3.out⟩
    | true =>
      have HV := hid (ans_yes (a := (k1, n1, s1)) (b := (k2, n2, s2)) (by rw [HFB.out, HFA.out]; rfl))
      rw [cmpV_doc HFA.out HFB.out, HL1.out, HL2.out] at HV
      go_wp2_with fail
      refine (less_any (k1, n1, s1) (k2, n2, s2) HA.out HB.out _).mono ?_; rintro e w4 ⟨rfl, hk⟩
      rw [HL1.out]
      have K4 := hid (K3.out.trans hk); have P4 := hid ((hk.block _ (row_lt P3.out) id).trans P3.out); have Q4 := hid ((hk.block _ (row_lt Q3.out) id).trans Q3.out)
      clear hk
      try clear c0 c1 c2 d0 d1 d2 hw1 hab
      try clear c0 c1 c2 d0 d1 d2
      obtain ⟨c0, c1, c2⟩ := encV_cells (v := (k1, n1, s1)) P4.out
      obtain ⟨d0, d1, d2⟩ := encV_cells (v := (k2, n2, s2)) Q4.out
      simp only at c0 c1 c2 d0 d1 d2
      cases l1 with
      | true =>
        go_wp2_with fail
        go_returns
        exact ⟨ret2 (by rw [HV.out]; rfl), K4.out⟩
      | false =>
        go_wp2_with fail
        refine (less_any (k2, n2, s2) (k1, n1, s1) HB.out HA.out _).mono ?_; rintro e w5 ⟨rfl, hk⟩
        rw [HL2.out]
        have K5 := hid (K4.out.trans hk); have P5 := hid ((hk.block _ (row_lt P4.out) id).trans P4.out); have Q5 := hid ((hk.block _ (row_lt Q4.out) id).trans Q4.out)
        clear hk
        try clear c0 c1 c2 d0 d1 d2 hw1 hab
        try clear c0 c1 c2 d0 d1 d2
        obtain ⟨c0, c1, c2⟩ := encV_cells (v := (k1, n1, s1)) P5.out
        obtain ⟨d0, d1, d2⟩ := encV_cells (v := (k2, n2, s2)) Q5.out
        simp only at c0 c1 c2 d0 d1 d2
        cases l2 with
        | true =>
          go_wp2_with fail
          go_returns
          exact ⟨ret2 (by rw [HV.out]; rfl), K5.out⟩
        | false =>
          go_wp2_with fail
          go_returns
          exact ⟨ret2 (by rw [HV.out]; rfl), K5.out⟩
end Go.Proofs.YtnicaiofjficnaaDoor
