/- Cmp. -/
import Derived.Test.YtnicaiofjficnaaDoorG
namespace Go.Proofs.YtnicaiofjficnaaDoor
open Go.RowKit
theorem chk_ne (b : Bool) : (chk b != 0) = !b := by cases b <;> rfl
set_option maxHeartbeats 2000000 in
set_option maxRecDepth 100000 in
theorem cmp_any (a b : Vv) (ha : a.2.2.size ≤ 4611686018427387904) (hb : b.2.2.size ≤ 4611686018427387904) (w : World) : Calls Tryd.prog 8 #[vv a, vv b] w fun e w' => e = .returned (.tuple #[.int .i64 (ans a b).1, .int .i64 (ans a b).2]) ∧ Kept (fun _ => False) w w' := by
  obtain ⟨fa, hfa⟩ : ∃ f, formB a = f := ⟨_, rfl⟩
  obtain ⟨fb, hfb⟩ : ∃ f, formB b = f := ⟨_, rfl⟩
  have HFA := hid hfa; have HFB := hid hfb
  clear hfa hfb
  have HA := hid ha; have HB := hid hb
  obtain ⟨k1, n1, s1⟩ := a
  obtain ⟨k2, n2, s2⟩ := b
  clear ha hb
  unfold vv
  simp only
  obtain ⟨w1, hw1, hr1, hr2, hk⟩ := two_vals w k1 n1 s1 k2 n2 s2
  obtain ⟨ab, hab⟩ : ∃ ab, w.heap.size = ab := ⟨_, rfl⟩
  rw [hab] at hr1 hr2
  have R1 := hid hr1; have R2 := hid hr2
  obtain ⟨c0, c1, c2⟩ := encV_cells (v := (k1, n1, s1)) hr1
  obtain ⟨d0, d1, d2⟩ := encV_cells (v := (k2, n2, s2)) hr2
  simp only at c0 c1 c2 d0 d1 d2
  have K := hid hk
  clear hk hr1 hr2
  go_enter Tryd.func8, Tryd.ntmps8
  go_wp2_with fail
  refine (check_any (k1, n1, s1) HA.out _).mono ?_; rintro e w2 ⟨rfl, hk⟩
  rw [HFA.out]
  have K2 := hid (K.out.trans hk); have P2 := hid ((hk.block _ (row_lt R1.out) id).trans R1.out); have Q2 := hid ((hk.block _ (row_lt R2.out) id).trans R2.out)
  clear hk
  try clear c0 c1 c2 d0 d1 d2 hw1 hab
  try clear c0 c1 c2 d0 d1 d2
  obtain ⟨c0, c1, c2⟩ := encV_cells (v := (k1, n1, s1)) P2.out
  obtain ⟨d0, d1, d2⟩ := encV_cells (v := (k2, n2, s2)) Q2.out
  simp only at c0 c1 c2 d0 d1 d2
  have ht := chk_ne true
  have hf := chk_ne false
  simp only [Bool.not_true, Bool.not_false] at ht hf
  cases fa with
  | false =>
    go_wp2_with fail
    go_returns
    exact ⟨ret2 (ans_no (by rw [HFA.out]; rfl)), K2.out⟩
  | true =>
    go_wp2_with fail
    refine (check_any (k2, n2, s2) HB.out _).mono ?_; rintro e w3 ⟨rfl, hk⟩
    rw [HFB.out]
    have K3 := hid (K2.out.trans hk); have P3 := hid ((hk.block _ (row_lt P2.out) id).trans P2.out); have Q3 := hid ((hk.block _ (row_lt Q2.out) id).trans Q2.out)
    clear hk
    try clear c0 c1 c2 d0 d1 d2 hw1 hab
    try clear c0 c1 c2 d0 d1 d2
    obtain ⟨c0, c1, c2⟩ := encV_cells (v := (k1, n1, s1)) P3.out
    obtain ⟨d0, d1, d2⟩ := encV_cells (v := (k2, n2, s2)) Q3.out
    simp only at c0 c1 c2 d0 d1 d2
    cases fb with
    | false =>
      go_wp2_with fail
      go_returns
      exact ⟨ret2 (ans_no (by rw [HFB.out, HFA.out]; rfl)), K3.out⟩
    | true =>
      have HV := hid (ans_yes (a := (k1, n1, s1)) (b := (k2, n2, s2)) (by rw [HFB.out, HFA.out]; rfl))
      obtain ⟨x1, hx1⟩ : ∃ x, cmpI k1 k2 = x := ⟨_, rfl⟩
      obtain ⟨x2, hx2⟩ : ∃ x, cmpI n1 n2 = x := ⟨_, rfl⟩
      obtain ⟨x3, hx3⟩ : ∃ x, cmpS s1 s2 = x := ⟨_, rfl⟩
      have H1 := hid hx1; have H2 := hid hx2; have H3 := hid hx3
      have HC := hid (show cmpV (k1, n1, s1) (k2, n2, s2) = or3 x1 x2 x3 by simp only [cmpV]; rw [hx1, hx2, hx3])
      clear hx1 hx2 hx3
      go_wp2_with fail
      have s0 : w3.cell? ⟨ab, 0, none⟩ = some (.int .u8 k1) ∧ w3.cell? ⟨ab, 1, none⟩ = some (.int .i64 n1) ∧ w3.cell? ⟨ab, 2, none⟩ = some (.string s1) ∧ w3.cell? ⟨ab + 1, 0, none⟩ = some (.int .u8 k2) ∧ w3.cell? ⟨ab + 1, 1, none⟩ = some (.int .i64 n2) ∧ w3.cell? ⟨ab + 1, 2, none⟩ = some (.string s2) := ⟨c0, c1, c2, d0, d1, d2⟩
      have s1' : w3.drew.cell? ⟨ab, 0, none⟩ = some (.int .u8 k1) ∧ w3.drew.cell? ⟨ab, 1, none⟩ = some (.int .i64 n1) ∧ w3.drew.cell? ⟨ab, 2, none⟩ = some (.string s1) ∧ w3.drew.cell? ⟨ab + 1, 0, none⟩ = some (.int .u8 k2) ∧ w3.drew.cell? ⟨ab + 1, 1, none⟩ = some (.int .i64 n2) ∧ w3.drew.cell? ⟨ab + 1, 2, none⟩ = some (.string s2) := s0
      have s2' : ∀ o, (w3.drew.alloc o).cell? ⟨ab, 0, none⟩ = some (.int .u8 k1) ∧ (w3.drew.alloc o).cell? ⟨ab, 1, none⟩ = some (.int .i64 n1) ∧ (w3.drew.alloc o).cell? ⟨ab, 2, none⟩ = some (.string s1) ∧ (w3.drew.alloc o).cell? ⟨ab + 1, 0, none⟩ = some (.int .u8 k2) ∧ (w3.drew.alloc o).cell? ⟨ab + 1, 1, none⟩ = some (.int .i64 n2) ∧ (w3.drew.alloc o).cell? ⟨ab + 1, 2, none⟩ = some (.string s2) := fun o => by
        have k := (Kept.refl (fun _ => False) w3.drew).alloc o
        obtain ⟨e0, e1, e2, e3, e4, e5⟩ := s1'
        exact ⟨k.cell e0 id, k.cell e1 id, k.cell e2 id, k.cell e3 id, k.cell e4 id, k.cell e5 id⟩
      clear c0 c1 c2 d0 d1 d2
      go_region_held3 (fun w' => w'.cell? ⟨ab, 0, none⟩ = some (.int .u8 k1) ∧ w'.cell? ⟨ab, 1, none⟩ = some (.int .i64 n1) ∧ w'.cell? ⟨ab, 2, none⟩ = some (.string s1) ∧ w'.cell? ⟨ab + 1, 0, none⟩ = some (.int .u8 k2) ∧ w'.cell? ⟨ab + 1, 1, none⟩ = some (.int .i64 n2) ∧ w'.cell? ⟨ab + 1, 2, none⟩ = some (.string s2)) (first | exact s1' | exact s0 | exact s2' _)
        (first
          | (go_at_call 19; refine (compareu8 _ _ _).mono ?_; rintro e w' ⟨he, rfl⟩; rw [H1.out] at he; subst he)
          | (go_at_call 20; refine (comparei64 _ _ _).mono ?_; rintro e w' ⟨he, rfl⟩; rw [H2.out] at he; subst he)
          | (go_at_call 21; refine (scmp_any _ _ _).mono ?_; rintro e w' ⟨he, rfl⟩; rw [H3.out] at he; subst he)
          | (go_at_call 18; refine (or_any (by exact row_new _ _)).mono ?_; rintro e w' ⟨rfl, rfl⟩))
      go_wp2_with fail
      go_returns
      exact ⟨ret2 (by rw [HV.out, HC.out]), (K3.out.drew).alloc _⟩
end Go.Proofs.YtnicaiofjficnaaDoor
