/- The document's digits, Dec, Write. -/
import Derived.Test.YtnicaiofjficnaaDoorS
namespace Go.Proofs.YtnicaiofjficnaaDoor
open Go.RowKit
theorem digit_at : ∀ {d : Nat}, d < 10 → (ByteArray.mk #[48, 49, 50, 51, 52, 53, 54, 55, 56, 57]).extract d (d + 1) = ⟨#[UInt8.ofNat (48 + d)]⟩
  | 0, _ => by decide +kernel | 1, _ => by decide +kernel | 2, _ => by decide +kernel | 3, _ => by decide +kernel | 4, _ => by decide +kernel
  | 5, _ => by decide +kernel | 6, _ => by decide +kernel | 7, _ => by decide +kernel | 8, _ => by decide +kernel | 9, _ => by decide +kernel
  | d + 10, h => by omega
set_option maxHeartbeats 2000000 in
set_option maxRecDepth 100000 in
theorem digits_any (n : Nat) : n < 18446744073709551616 → ∀ w : World, Calls Tryd.prog 40 #[.int .u64 n] w fun e w' => e = .returned (.string ⟨(Lib.decDigits n).toArray⟩) ∧ w = w' := by
  induction n using Nat.strongRecOn with
  | _ n ih =>
    intro hn w
    obtain ⟨d, hd⟩ : ∃ d, n % 10 = d := ⟨_, rfl⟩
    have hd10 : d < 10 := by omega
    have hdI : ((n : Int) % 10) = (d : Int) := by omega
    have hw : IntKind.u64.wrap ((d : Int) + 1) = ((d + 1 : Nat) : Int) := by simp [IntKind.wrap, IntKind.bits, IntKind.signed]; omega
    have hqt : (n : Int).tdiv 10 = ((n / 10 : Nat) : Int) := rfl
    have HIH := hid ih
    clear ih
    have hd0 : (0 : Int) ≤ (d : Int) := by omega
    have hdI1 : (d : Int) < 10 := by omega
    have hdI2 : ((d + 1 : Nat) : Int) ≤ 10 := by omega
    have hdI3 : (d : Int) ≤ ((d + 1 : Nat) : Int) := by omega
    go_enter Tryd.func40, Tryd.ntmps40
    by_cases h10 : n < 10
    · have h10I : (n : Int) < 10 := by omega
      have hnd : n = d := by omega
      subst hnd
      have HX := hid (show (ByteArray.mk #[48, 49, 50, 51, 52, 53, 54, 55, 56, 57]).extract n (n + 1) = ⟨(Lib.decDigits n).toArray⟩ by rw [Lib.decDigits, dif_pos h10]; exact digit_at h10)
      go_wp2_with fail
      go_ret
      exact ⟨by rw [← HX.out]; rfl, rfl⟩
    · have h10I : ¬ (n : Int) < 10 := by omega
      have hc : ∀ w : World, Calls Tryd.prog 40 #[.int .u64 ((n : Int) / 10)] w fun e w' => e = .returned (.string ⟨(Lib.decDigits (n / 10)).toArray⟩) ∧ w = w' := fun w => HIH.out (n / 10) (by omega) (by omega) w
      have hP : (ByteArray.mk (Lib.decDigits (n / 10)).toArray).size ≤ 30 := by
        show (Lib.decDigits (n / 10)).toArray.size ≤ 30
        have := dec_len 19 (n / 10) (by omega)
        simp; omega
      have hQ : (ByteArray.mk #[48, 49, 50, 51, 52, 53, 54, 55, 56, 57]).extract d (d + 1) = ⟨#[UInt8.ofNat (48 + d)]⟩ := digit_at hd10
      have HX := hid (show (ByteArray.mk (Lib.decDigits (n / 10)).toArray ++ ⟨#[UInt8.ofNat (48 + d)]⟩ : ByteArray) = ⟨(Lib.decDigits n).toArray⟩ by
        rw [Lib.decDigits.eq_1 n, dif_neg h10, hd]
        apply toList_inj
        simp [ByteArray.data_append])
      obtain ⟨P, hPe⟩ : ∃ P, (ByteArray.mk (Lib.decDigits (n / 10)).toArray) = P := ⟨_, rfl⟩
      rw [hPe] at hP HX
      have HC := hid hc
      have hsz : ¬ 9223372036854775807 < P.size + (ByteArray.mk #[UInt8.ofNat (48 + d)]).size := by
        have : (ByteArray.mk #[UInt8.ofNat (48 + d)]).size = 1 := rfl
        omega
      clear hc HIH
      go_wp2_with fail
      refine (HC.out _).mono ?_; rintro e w' ⟨rfl, rfl⟩
      rw [hPe]
      clear hPe HC
      go_wp2_with fail
      go_ret
      exact ⟨by rw [← HX.out, UInt8.ofNat_add]; rfl, rfl⟩
theorem retS {x y : ByteArray} (h : x = y) : Ending.returned (.string x) = .returned (.string y) := by rw [h]
set_option maxHeartbeats 2000000 in
set_option maxRecDepth 100000 in
theorem dec_any (n : Int) (h0 : -9223372036854775808 ≤ n) (h1 : n ≤ 9223372036854775807) (w : World) : Calls Tryd.prog 32 #[.int .i64 n] w fun e w' => e = .returned (.string ⟨(Lib.itoa n).toArray⟩) ∧ w = w' := by
  go_enter Tryd.func32, Tryd.ntmps32
  by_cases hn : n < 0
  · obtain ⟨u, hu⟩ : ∃ u, n.natAbs = u := ⟨_, rfl⟩
    have hw1 : IntKind.u64.wrap (-IntKind.u64.wrap n) = (u : Int) := by simp [IntKind.wrap, IntKind.bits, IntKind.signed]; omega
    have hi : Lib.itoa n = 45 :: Lib.decDigits u := by unfold Lib.itoa; rw [if_pos hn, hu]
    have HI := hid hi
    have hP : (ByteArray.mk (Lib.decDigits u).toArray).size ≤ 30 := by
      show (Lib.decDigits u).toArray.size ≤ 30
      have := dec_len 19 u (by omega)
      simp; omega
    have HX := hid (show (ByteArray.mk #[45] ++ ⟨(Lib.decDigits u).toArray⟩ : ByteArray) = ⟨(Lib.itoa n).toArray⟩ by
      rw [hi]
      apply toList_inj
      simp [ByteArray.data_append])
    have HD := hid (digits_any u (by omega))
    obtain ⟨P, hPe⟩ : ∃ P, (ByteArray.mk (Lib.decDigits u).toArray) = P := ⟨_, rfl⟩
    rw [hPe] at hP HX
    have hsz : ¬ 9223372036854775807 < 1 + P.size := by omega
    clear hi
    go_wp2_with fail
    refine (HD.out _).mono ?_; rintro e w' ⟨rfl, rfl⟩
    rw [hPe]
    clear hPe
    go_wp2_with fail
    go_ret
    exact ⟨retS (by rw [← HX.out]), rfl⟩
  · obtain ⟨u, hu⟩ : ∃ u, n.toNat = u := ⟨_, rfl⟩
    have hw1 : IntKind.u64.wrap n = (u : Int) := by simp [IntKind.wrap, IntKind.bits, IntKind.signed]; omega
    have HI := hid (show Lib.itoa n = Lib.decDigits u by unfold Lib.itoa; rw [if_neg hn, hu])
    have HD := hid (digits_any u (by omega))
    go_wp2_with fail
    refine (HD.out _).mono ?_; rintro e w' ⟨rfl, rfl⟩
    go_wp2_with fail
    go_ret
    exact ⟨retS (by rw [HI.out]), rfl⟩
set_option maxHeartbeats 2000000 in
set_option maxRecDepth 100000 in
theorem refwrite_any (v : Vv) (hs : v.2.2.size ≤ 4611686018427387904) (h0 : -9223372036854775808 ≤ v.2.1) (h1 : v.2.1 ≤ 9223372036854775807) (w : World) : Calls Tryd.prog 24 #[vv v] w fun e w' => e = .returned (.string (wr1 v)) ∧ Kept (fun _ => False) w w' := by
  obtain ⟨k, n, s⟩ := v
  simp only at hs h0 h1
  unfold vv
  simp only
  have hr := row_new w (.cells #[.int .u8 k, .int .i64 n, .string s] 23)
  have hk := (Kept.refl (fun _ => False) w).alloc (.cells #[.int .u8 k, .int .i64 n, .string s] 23)
  obtain ⟨w1, hw1⟩ : ∃ w1, w.alloc (.cells #[.int .u8 k, .int .i64 n, .string s] 23) = w1 := ⟨_, rfl⟩
  obtain ⟨vb, hvb⟩ : ∃ vb, w.heap.size = vb := ⟨_, rfl⟩
  rw [hw1] at hr hk
  rw [hvb] at hr
  obtain ⟨c0, c1, c2⟩ := encV_cells (v := (k, n, s)) hr
  simp only at c0 c1 c2
  have K := hid hk
  clear hr hk
  go_enter Tryd.func24, Tryd.ntmps24
  by_cases hk1 : k = 1
  · subst hk1
    go_wp2_with fail
    refine (dec_any n h0 h1 _).mono ?_; rintro e w' ⟨rfl, rfl⟩
    go_wp2_with fail
    go_ret
    exact ⟨rfl, K.out⟩
  · by_cases hk2 : k = 2
    · subst hk2
      have f1 : ¬ 9223372036854775807 < 1 + s.size := by omega
      have f2 : ¬ 9223372036854775807 < 1 + s.size + 1 := by omega
      go_wp2_with fail
      go_ret
      exact ⟨rfl, K.out⟩
    · have HX := hid (show wr1 (k, n, s) = ⟨#[110, 111, 110, 101]⟩ by simp [wr1, hk1, hk2])
      have e1 : (k == 1) = false := by simpa using hk1
      have e2 : (k == 2) = false := by simpa using hk2
      clear hk1 hk2
      go_wp2_with fail
      go_ret
      exact ⟨retS HX.out.symm, K.out⟩
set_option maxHeartbeats 2000000 in
set_option maxRecDepth 100000 in
theorem docwrite_any (v : Vv) (hs : v.2.2.size ≤ 4611686018427387904) (h0 : -9223372036854775808 ≤ v.2.1) (h1 : v.2.1 ≤ 9223372036854775807) (w : World) : Calls Tryd.prog 15 #[vv v] w fun e w' => e = .returned (.tuple #[.string (wrS v), .int .i64 (chk (formB v))]) ∧ Kept (fun _ => False) w w' := by
  obtain ⟨fv, hfv⟩ : ∃ f, formB v = f := ⟨_, rfl⟩
  have HFV := hid hfv
  have HW := hid (show wrS v = if fv then wr1 v else ⟨#[]⟩ by unfold wrS; rw [hfv])
  clear hfv
  have HS := hid hs; have H0 := hid h0; have H1 := hid h1
  obtain ⟨k, n, s⟩ := v
  clear hs h0 h1
  unfold vv
  simp only
  have hr := row_new w (.cells #[.int .u8 k, .int .i64 n, .string s] 23)
  have hk := (Kept.refl (fun _ => False) w).alloc (.cells #[.int .u8 k, .int .i64 n, .string s] 23)
  obtain ⟨w1, hw1⟩ : ∃ w1, w.alloc (.cells #[.int .u8 k, .int .i64 n, .string s] 23) = w1 := ⟨_, rfl⟩
  obtain ⟨vb, hvb⟩ : ∃ vb, w.heap.size = vb := ⟨_, rfl⟩
  rw [hw1] at hr hk
  rw [hvb] at hr
  obtain ⟨c0, c1, c2⟩ := encV_cells (v := (k, n, s)) hr
  simp only at c0 c1 c2
  have K := hid hk; have R := hid hr
  clear hr hk
  go_enter Tryd.func15, Tryd.ntmps15
  go_wp2_with fail
  refine (form_any (k, n, s) HS.out _).mono ?_; rintro e w2 ⟨rfl, hk⟩
  rw [HFV.out]
  have K2 := hid (K.out.trans hk); have R2 := hid ((hk.block _ (row_lt R.out) id).trans R.out)
  clear hk c0 c1 c2 hw1 hvb
  obtain ⟨c0, c1, c2⟩ := encV_cells (v := (k, n, s)) R2.out
  simp only at c0 c1 c2
  cases fv with
  | false =>
    go_wp2_with fail
    go_returns
    exact ⟨retW (by rw [HW.out]; rfl) (by rw [HFV.out]; rfl), K2.out⟩
  | true =>
    go_wp2_with fail
    refine (refwrite_any (k, n, s) HS.out H0.out H1.out _).mono ?_; rintro e w3 ⟨rfl, hk⟩
    have K3 := hid (K2.out.trans hk)
    clear hk
    go_wp2_with fail
    go_returns
    exact ⟨retW (by rw [HW.out]; rfl) (by rw [HFV.out]; rfl), K3.out⟩
end Go.Proofs.YtnicaiofjficnaaDoor
