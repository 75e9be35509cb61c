/- ValueOrders' walk. -/
import Derived.Test.YtnicaiofjficnaaDoorJ
namespace Go.Proofs.YtnicaiofjficnaaDoor
open Go.RowKit
set_option maxHeartbeats 2000000 in
set_option maxRecDepth 100000 in
theorem orders_walk {laid : List (String × DataW Unit)} (hlaid : (laid.filter fun x => x.1 == "internal/strconv.uint64pow10") = [("internal/strconv.uint64pow10", Lib.tabData .u64 Lib.pow10Tab)]) (W : World) (args : Array Value) (hL : laidMetH Tryd.prog laid W) (h : RdAll Tryd.prog W Tryd.f3.params.toList args.toList) :
    Calls Tryd.prog 3 args W fun e W' => e = .returned (.bool true) ∧ Below W.heap.size W W' := by
  have ht := tab_of hL hlaid
  clear hL hlaid
  rw [Tryd.params3] at h
  obtain ⟨v0, v1, rfl⟩ : ∃ v0 v1, args = #[v0, v1] := by
    rcases args with ⟨_ | ⟨v0, _ | ⟨v1, _ | ⟨v2, l⟩⟩⟩⟩ <;> simp [RdAll] at h
    exact ⟨v0, v1, rfl⟩
  obtain ⟨r0, r1, _⟩ := h
  obtain ⟨a, rfl, ha⟩ := val_arg r0
  obtain ⟨b, rfl, hb⟩ := val_arg r1
  clear r0 r1
  obtain ⟨⟨c, e⟩, hans⟩ : ∃ x, ans a b = x := ⟨_, rfl⟩
  obtain ⟨fa, hfa⟩ : ∃ x, formB a = x := ⟨_, rfl⟩
  have HA := hid ha; have HB := hid hb; have HN := hid hans; have HF := hid hfa
  clear ha hb hans hfa
  obtain ⟨k1, n1, s1⟩ := a
  obtain ⟨k2, n2, s2⟩ := b
  unfold vv
  simp only
  obtain ⟨w1, hw1, hr1, hr2, hk⟩ := two_vals W k1 n1 s1 k2 n2 s2
  obtain ⟨ab, hab⟩ : ∃ ab, W.heap.size = ab := ⟨_, rfl⟩
  rw [hab] at hr1 hr2
  have R1 := hid hr1; have R2 := hid hr2
  obtain ⟨c0, c1, c2⟩ := encV_cells (v := (k1, n1, s1)) hr1
  obtain ⟨d0, d1, d2⟩ := encV_cells (v := (k2, n2, s2)) hr2
  simp only at c0 c1 c2 d0 d1 d2
  have K := hid hk
  clear hk hr1 hr2
  go_enter Tryd.func3, Tryd.ntmps3
  go_wp2_with fail
  refine (cmp_any (k1, n1, s1) (k2, n2, s2) HA.out.1 HB.out.1 _).mono ?_; rintro e w2 ⟨rfl, hk⟩
  rw [HN.out]
  have K2 := hid (K.out.trans hk); have P2 := hid ((hk.block _ (row_lt R1.out) id).trans R1.out); have Q2 := hid ((hk.block _ (row_lt R2.out) id).trans R2.out)
  clear hk
  try clear c0 c1 c2 d0 d1 d2 hw1 hab
  try clear c0 c1 c2 d0 d1 d2
  obtain ⟨c0, c1, c2⟩ := encV_cells (v := (k1, n1, s1)) P2.out
  obtain ⟨d0, d1, d2⟩ := encV_cells (v := (k2, n2, s2)) Q2.out
  simp only at c0 c1 c2 d0 d1 d2
  go_wp2_with fail
  refine (doccmp_any (k1, n1, s1) (k2, n2, s2) HA.out.1 HB.out.1 _).mono ?_; rintro e w3 ⟨rfl, hk⟩
  rw [HN.out]
  have K3 := hid (K2.out.trans hk); have P3 := hid ((hk.block _ (row_lt P2.out) id).trans P2.out); have Q3 := hid ((hk.block _ (row_lt Q2.out) id).trans Q2.out)
  clear hk
  try clear c0 c1 c2 d0 d1 d2 hw1 hab
  try clear c0 c1 c2 d0 d1 d2
  obtain ⟨c0, c1, c2⟩ := encV_cells (v := (k1, n1, s1)) P3.out
  obtain ⟨d0, d1, d2⟩ := encV_cells (v := (k2, n2, s2)) Q3.out
  simp only at c0 c1 c2 d0 d1 d2
  go_wp2_with fail
  refine (check_any (k1, n1, s1) HA.out.1 _).mono ?_; rintro e w4 ⟨rfl, hk⟩
  rw [HF.out]
  have K4 := hid (K3.out.trans hk); have P4 := hid ((hk.block _ (row_lt P3.out) id).trans P3.out); have Q4 := hid ((hk.block _ (row_lt Q3.out) id).trans Q3.out)
  clear hk
  try clear c0 c1 c2 d0 d1 d2 hw1 hab
  try clear c0 c1 c2 d0 d1 d2
  obtain ⟨c0, c1, c2⟩ := encV_cells (v := (k1, n1, s1)) P4.out
  obtain ⟨d0, d1, d2⟩ := encV_cells (v := (k2, n2, s2)) Q4.out
  simp only at c0 c1 c2 d0 d1 d2
  go_wp2_with fail
  refine (awake_any _ (ht.kept K4.out)).mono ?_; rintro e w5 ⟨rfl, hk⟩
  have K5 := hid (K4.out.trans hk); have P5 := hid ((hk.block _ (row_lt P4.out) id).trans P4.out); have Q5 := hid ((hk.block _ (row_lt Q4.out) id).trans Q4.out)
  clear hk
  try clear c0 c1 c2 d0 d1 d2 hw1 hab
  try clear c0 c1 c2 d0 d1 d2
  obtain ⟨c0, c1, c2⟩ := encV_cells (v := (k1, n1, s1)) P5.out
  obtain ⟨d0, d1, d2⟩ := encV_cells (v := (k2, n2, s2)) Q5.out
  simp only at c0 c1 c2 d0 d1 d2
  cases fa with
  | true =>
    rw [show chk true = 0 from rfl]
    go_wp2_with fail
    refine (form_any (k1, n1, s1) HA.out.1 _).mono ?_; rintro e w6 ⟨rfl, hk⟩
    rw [HF.out]
    go_wp2_with fail
    go_ret
    exact ⟨rfl, (K5.out.trans hk).below (Nat.le_refl _) (fun _ h => h.elim)⟩
  | false =>
    rw [show chk false = 3 from rfl]
    go_wp2_with fail
    refine (form_any (k1, n1, s1) HA.out.1 _).mono ?_; rintro e w6 ⟨rfl, hk⟩
    rw [HF.out]
    go_wp2_with fail
    go_ret
    exact ⟨rfl, (K5.out.trans hk).below (Nat.le_refl _) (fun _ h => h.elim)⟩
end Go.Proofs.YtnicaiofjficnaaDoor
