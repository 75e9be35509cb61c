/- StampOrders' walk. -/
import Derived.Test.YtfkkfjmdpkgicaaX
import Derived.Deep.CutBlock
namespace Go.Proofs.Ytfkkfjmdpkgicaa
open Go.RowKit Go.Shelf
theorem last77 {w : World} {T mb N c : Nat} {A : List Sp} (ho : Own w T 4 (.slice (some ⟨mb, 0, none⟩) (N + 1) c) (N + 1) (A.flatMap encS ++ encS (77, 0, 0, 0))) (hA : A.length = N) : w.cell? ⟨mb, N * 4, none⟩ = some (.int .u64 77) := by
  have hl : N * 4 < (A.flatMap encS ++ encS (77, 0, 0, 0)).length := by rw [ho.len]; omega
  rw [ho.cells rfl _ hl]
  congr 1
  have h : (A.flatMap encS ++ encS (77, 0, 0, 0))[N * 4]? = some (.int .u64 77) := by
    rw [List.getElem?_append_right (by rw [enc_len4, hA]; exact Nat.le_refl _), enc_len4, hA, Nat.sub_self]
    rfl
  exact (List.getElem?_eq_some_iff.1 h).2
theorem first_cells {w : World} {g N : Nat} {D : List Sp} (hH : Go.Sort.HoldsK encS 4 w g 0 D.toArray) (hD : D.length = N) {j : Nat} (hj : j < N) : ∃ x, w.cell? ⟨g, j * 4, none⟩ = some (.int .u64 x) ∧ w.frozen? ⟨g, j * 4, none⟩ = false := by
  have hs : j * 4 < D.toArray.size * 4 := by simp; omega
  have h := hH (j * 4) (by rw [Go.Sort.size_flatK]; exact hs)
  rw [Go.Sort.get_flatK _ _ _ _ hs, Nat.zero_add, Nat.mul_mod_left] at h
  exact ⟨_, h.1, h.2⟩
theorem keep9 {w w' : World} (hk : Kept (fun _ => False) w w') {a b c d : Addr} {p q r s : Value} {a2 b2 c2 d2 : Addr} {p2 q2 r2 s2 : Value} {a3 : Addr} {p3 : Value}
    (h : (w.cell? a = some p ∧ w.cell? b = some q ∧ w.cell? c = some r ∧ w.cell? d = some s) ∧ (w.cell? a2 = some p2 ∧ w.cell? b2 = some q2 ∧ w.cell? c2 = some r2 ∧ w.cell? d2 = some s2) ∧ w.cell? a3 = some p3) :
    (w'.cell? a = some p ∧ w'.cell? b = some q ∧ w'.cell? c = some r ∧ w'.cell? d = some s) ∧ (w'.cell? a2 = some p2 ∧ w'.cell? b2 = some q2 ∧ w'.cell? c2 = some r2 ∧ w'.cell? d2 = some s2) ∧ w'.cell? a3 = some p3 := by
  obtain ⟨⟨h1, h2, h3, h4⟩, ⟨h5, h6, h7, h8⟩, h9⟩ := h
  exact ⟨⟨hk.cell h1 id, hk.cell h2 id, hk.cell h3 id, hk.cell h4 id⟩, ⟨hk.cell h5 id, hk.cell h6 id, hk.cell h7 id, hk.cell h8 id⟩, hk.cell h9 id⟩
set_option maxRecDepth 100000 in
set_option maxHeartbeats 4000000 in
theorem orders_walk (W : World) (args : Array Value) (h : RdAll Try.prog W Try.f5.params.toList args.toList) :
    Calls Try.prog 5 args W fun e W' => e = .returned (.bool true) ∧ Below W.heap.size W W' := by
  rw [Try.params5] at h
  obtain ⟨v0, v1, v2, rfl⟩ : ∃ v0 v1 v2, args = #[v0, v1, v2] := by
    rcases args with ⟨_ | ⟨v0, _ | ⟨v1, _ | ⟨v2, _ | ⟨v3, l⟩⟩⟩⟩⟩ <;> simp [RdAll] at h
    exact ⟨v0, v1, v2, rfl⟩
  obtain ⟨r0, r1, r2, _⟩ := h
  obtain ⟨a, ca, LA, rfl, hA⟩ := stlist_read r0
  obtain ⟨cx, rfl, h1⟩ := r1.struct Try.underlying46
  obtain ⟨⟨x1, x2, x3, x4⟩, ex, _⟩ := stamp_read (by rw [(h1.struct Try.underlying46).1]; exact cellsSt) h1
  obtain ⟨cy, rfl, h2⟩ := r2.struct Try.underlying46
  obtain ⟨⟨y1, y2, y3, y4⟩, ey, _⟩ := stamp_read (by rw [(h2.struct Try.underlying46).1]; exact cellsSt) h2
  obtain rfl : cx = #[.int .u64 x1, .int .u8 x2, .int .u32 x3, .int .u32 x4] := by cases cx; simpa [encS] using ex
  obtain rfl : cy = #[.int .u64 y1, .int .u8 y2, .int .u32 y3, .int .u32 y4] := by cases cy; simpa [encS] using ey
  have HA := hid hA
  clear r0 r1 r2 hA h1 h2 ex ey
  have htw := two_new W (.cells #[.int .u64 x1, .int .u8 x2, .int .u32 x3, .int .u32 x4] 46) (.cells #[.int .u64 y1, .int .u8 y2, .int .u32 y3, .int .u32 y4] 46)
  have hk := ((Kept.refl (fun _ => False) W).alloc (.cells #[.int .u64 x1, .int .u8 x2, .int .u32 x3, .int .u32 x4] 46)).alloc (.cells #[.int .u64 y1, .int .u8 y2, .int .u32 y3, .int .u32 y4] 46)
  obtain ⟨w0, hw0⟩ : ∃ w0, (W.alloc (.cells #[.int .u64 x1, .int .u8 x2, .int .u32 x3, .int .u32 x4] 46)).alloc (.cells #[.int .u64 y1, .int .u8 y2, .int .u32 y3, .int .u32 y4] 46) = w0 := ⟨_, rfl⟩
  obtain ⟨xb, hxb⟩ : ∃ b, W.heap.size = b := ⟨_, rfl⟩
  rw [hw0] at htw hk
  rw [hxb] at htw
  have XB0 := hid htw.1; have YB0 := hid htw.2; have K0 := hid hk
  clear htw hk
  go_enter Try.func5, Try.ntmps5
  go_wp2_with fail
  refine (awake_any _).mono ?_; rintro e w1 ⟨rfl, hb1⟩
  clear hw0
  have hk1 := Kept.of_below hb1 (fun _ => False)
  have K1 := hid (K0.out.trans hk1)
  have XB1 := hid ((hk1.block xb (row_lt XB0.out) id).trans XB0.out); have YB1 := hid ((hk1.block (xb + 1) (row_lt YB0.out) id).trans YB0.out)
  clear hb1 hk1 K0 XB0 YB0
  obtain ⟨ha1, ha2⟩ := lies_cap HA.out
  unfold maxLen at ha2
  obtain ⟨N, hN⟩ : ∃ N, min LA.length 100 = N := ⟨_, rfl⟩
  have hN1 : N ≤ LA.length := by omega
  have hN2 : N ≤ 100 := by omega
  have hiA : min (LA.length : Int) 100 = (N : Int) := by omega
  have HA1 := hid (HA.out.pre rfl hN1)
  obtain ⟨A, hA⟩ : ∃ A, LA.take N = A := ⟨_, rfl⟩
  have hAl : A.length = N := by rw [← hA, List.length_take]; omega
  rw [hA] at HA1
  have HA0 := hid HA1.out
  have HAL := hid hAl
  clear hN hA hAl HA
  obtain ⟨c0, c1, c2, c3⟩ := cells4' XB1.out
  obtain ⟨d0, d1, d2, d3⟩ := cells4' YB1.out
  go_wp2_with fail
  refine (order_grow (x1, x2, x3, x4) (y1, y2, y3, y4) _).mono ?_
  rintro e w2 ⟨rfl, q, os', hw2⟩
  have hk2 : Kept (fun _ => False) w1 w2 := by rw [hw2]; exact kept_grow _ _ _
  obtain ⟨hc1, hc2, hc3, hc4, hc5⟩ := ordS_all (x1, x2, x3, x4) (y1, y2, y3, y4)
  obtain ⟨c, hc⟩ : ∃ c, ordS (x1, x2, x3, x4) (y1, y2, y3, y4) = c := ⟨_, rfl⟩
  obtain ⟨e1, he1⟩ : ∃ b, decide (eldS (x1, x2, x3, x4) (y1, y2, y3, y4)) = b := ⟨_, rfl⟩
  obtain ⟨e2, he2⟩ : ∃ b, decide (eldS (y1, y2, y3, y4) (x1, x2, x3, x4)) = b := ⟨_, rfl⟩
  rw [hc] at hc1 hc2 hc3 hc4 hc5
  rw [he1] at hc1
  rw [he2] at hc2
  rw [hc]
  have HE1 := hid he1; have HE2 := hid he2
  have K2 := hid (K1.out.trans hk2)
  have XB2 := hid ((hk2.block xb (row_lt XB1.out) id).trans XB1.out); have YB2 := hid ((hk2.block (xb + 1) (row_lt YB1.out) id).trans YB1.out)
  have HA2 := hid ((HA1.out.same K1.out).same hk2)
  clear hc he1 he2 hk2 hw2 c0 c1 c2 c3 d0 d1 d2 d3 K1 XB1 YB1 HA1 hiA
  go_upto_region 5 with fail
  go_cut [1, 2, 21, 22, 53] from 24 to 53 (fun _ _ _ _ c wx => c = .bool false ∧ Kept (fun _ => False) W wx)
  case first =>
    obtain ⟨c0, c1, c2, c3⟩ := cells4' XB2.out
    obtain ⟨d0, d1, d2, d3⟩ := cells4' YB2.out
    go_wp2_with fail
    refine (elder_any (x1, x2, x3, x4) (y1, y2, y3, y4) _).mono ?_
    rintro e w3 ⟨rfl, hk3⟩
    rw [HE1.out]
    have K3 := hid (K2.out.trans hk3)
    have XB3 := hid ((hk3.block xb (row_lt XB2.out) id).trans XB2.out); have YB3 := hid ((hk3.block (xb + 1) (row_lt YB2.out) id).trans YB2.out)
    have HA3 := hid (HA2.out.same hk3)
    clear hk3 c0 c1 c2 c3 d0 d1 d2 d3 K2 XB2 YB2 HA2
    obtain ⟨c0, c1, c2, c3⟩ := cells4' XB3.out
    obtain ⟨d0, d1, d2, d3⟩ := cells4' YB3.out
    go_wp2_with fail
    refine (elder_any (y1, y2, y3, y4) (x1, x2, x3, x4) _).mono ?_
    rintro e w4 ⟨rfl, hk4⟩
    rw [HE2.out]
    have K4 := hid (K3.out.trans hk4)
    have XB4 := hid ((hk4.block xb (row_lt XB3.out) id).trans XB3.out); have YB4 := hid ((hk4.block (xb + 1) (row_lt YB3.out) id).trans YB3.out)
    have HA4 := hid (HA3.out.same hk4)
    clear hk4 c0 c1 c2 c3 d0 d1 d2 d3 K3 XB3 YB3 HA3
    obtain ⟨c0, c1, c2, c3⟩ := cells4' XB4.out
    obtain ⟨d0, d1, d2, d3⟩ := cells4' YB4.out
    go_wp2_with fail
    all_goals (go_meet; exact ⟨by rw [decide_eq_false (by omega : ¬ c < -1), decide_eq_false (by omega : ¬ 1 < c)]; rfl, K4.out⟩)
  case rest =>
    obtain ⟨rfl, hkc⟩ := hcut
    rename World => w5
    have K5 := hid hkc
    have HA5 := hid (HA0.out.same hkc)
    clear hkc XB2 YB2 HA2 K2 hc1 hc2 hc3 hc4 hc5 HA0
    go_wp2_with fail
    refine (stamps_any HA5.out HAL.out (by omega)).mono ?_
    rintro e w6 ⟨p1, q1, rfl, hq, ho, hf, hk⟩
    obtain ⟨mb, mc, hme, hmc1, hmc2⟩ := ho.some_of_pos (Nat.succ_pos N)
    simp only [Value.slice.injEq] at hme
    obtain ⟨rfl, _, rfl⟩ := hme
    unfold maxLen at hmc2
    have hm77 := last77 ho HAL.out
    have e1 : A.flatMap encS ++ encS (77, 0, 0, 0) = (A ++ [(77, 0, 0, 0)]).flatMap encS := by simp
    have h1 := ho.lies (F := fun g => w6.heap.size ≤ g) (by rw [e1]; exact encS_one _) (fun g hg => Nat.not_le_of_lt (ho.lt hg))
    rw [e1] at h1
    have h2 := h1.pre (L := A ++ [(77, 0, 0, 0)]) (by simp [HAL.out]) (Nat.le_succ N)
    rw [List.take_append_of_le_length (by rw [HAL.out]; exact Nat.le_refl _), List.take_of_length_le (by rw [HAL.out]; exact Nat.le_refl _)] at h2
    have ML6 := hid h2
    have M77a := hid hm77
    have K6 := hid (K5.out.trans hk); have HA6 := hid (HA5.out.same hk)
    have HW6 := hid K6.out.size
    clear ho hf hk hm77 e1 h1 h2 K5 HA5
    go_wp2_with fail
    refine (ssort_any (ML6.out.mono (G := fun _ => False) (fun _ _ h => h.elim)) HAL.out (by omega)).mono ?_
    rintro e w7 ⟨p2, q2, rfl, hs, hk⟩
    have HLC := hid (lies_cap hs.lies)
    unfold maxLen at HLC
    have L7 := hid hs.lies; have HSL := hid hs.1; have HS4 := hid hs.2.2.2
    have K7 := hid (K6.out.trans hk); have HA7 := hid (HA6.out.same hk); have ML7 := hid (ML6.out.same hk); have M77b := hid (hk.cell M77a.out id)
    clear hs hk K6 HA6 M77a
    go_wp2_with fail
    refine (eldest_all (ML7.out.mono (G := fun _ => False) (fun _ _ h => h.elim)) HAL.out (by omega)).mono ?_
    rintro e w8 ⟨rfl, hk⟩
    obtain ⟨⟨z1, z2, z3, z4⟩, hz⟩ : ∃ x, eldO A = x := ⟨_, rfl⟩
    obtain ⟨bA, hbA⟩ : ∃ b, has A = b := ⟨_, rfl⟩
    rw [hz, hbA]
    simp only [sv]
    have HZ := hid hz; have HBA := hid hbA
    have K8 := hid (K7.out.trans hk); have HA8 := hid (HA7.out.same hk); have ML8 := hid (ML7.out.same hk); have M77c := hid (hk.cell M77b.out id); have L8 := hid (L7.out.same hk); have K78 := hid hk
    clear hk hz hbA K7 HA7 ML7 M77b L7
    go_wp2_with fail
    have hr9 := row_new w8 (.cells #[.int .u64 z1, .int .u8 z2, .int .u32 z3, .int .u32 z4] 48)
    have hk9 := (Kept.refl (fun _ => False) w8).alloc (.cells #[.int .u64 z1, .int .u8 z2, .int .u32 z3, .int .u32 z4] 48)
    obtain ⟨w9, hw9⟩ : ∃ w9, w8.alloc (.cells #[.int .u64 z1, .int .u8 z2, .int .u32 z3, .int .u32 z4] 48) = w9 := ⟨_, rfl⟩
    obtain ⟨zb, hzb⟩ : ∃ zb, w8.heap.size = zb := ⟨_, rfl⟩
    rw [hw9] at hr9 hk9 ⊢
    rw [hzb] at hr9 ⊢
    have ZB9 := hid hr9; have K9 := hid (K8.out.trans hk9); have HA9 := hid (HA8.out.same hk9); have ML9 := hid (ML8.out.same hk9); have M77d := hid (hk9.cell M77c.out id); have L9 := hid (L8.out.same hk9); have K79 := hid (K78.out.trans hk9)
    clear hr9 hk9 hw9 hzb K8 HA8 ML8 M77c L8 K78
    refine (dsort_any HA9.out HAL.out (by omega)).mono ?_
    rintro e w10 ⟨p3, q3, rfl, hl, hk0⟩
    rw [docS_sortS] at hl
    have hk := hk0.trans (Kept.refl (fun _ => False) w10).drew
    have D10 := hid (hl.same (Kept.refl (fun _ => False) w10).drew)
    have ZB10 := hid ((hk.block zb (row_lt ZB9.out) id).trans ZB9.out); have K10 := hid (K9.out.trans hk); have HA10 := hid (HA9.out.same hk); have ML10 := hid (ML9.out.same hk); have M77 := hid (hk.cell M77d.out id); have L10 := hid (L9.out.same hk); have K710 := hid (K79.out.trans hk)
    clear hl hk hk0 ZB9 K9 HA9 ML9 M77d L9 K79
    obtain ⟨g1, g2⟩ := lies_cap D10.out
    unfold maxLen at g2
    have hq1 : (N : Int) + 1 ≤ (q1 : Int) := by omega
    have hq0 : 0 ≤ (N : Int) + 1 := by omega
    have hq2 : (N : Int) < (N : Int) + 1 := by omega
    have hw1 : IntKind.i64.wrap ((N : Int) + 1) = (N : Int) + 1 := by simp [IntKind.wrap, IntKind.bits, IntKind.signed]; omega
    go_wp2_with fail
    rcases Nat.eq_zero_or_pos N with h0 | h0
    · have hA0 : A = [] := List.length_eq_zero_iff.1 (by rw [HAL.out, h0])
      have hb : bA = false := by rw [← HBA.out, hA0]; rfl
      subst hb
      have hn1 : ¬ (0 : Int) < (N : Int) := by omega
      have hn2 : ¬ 0 < N := by omega
      clear hA0 h0
      refine wp_region_held_drew (S := fun w' => w'.cell? ⟨mb, N * 4, none⟩ = some (.int .u64 77)) (by kernel_rfl) (by exact M77.out) (fun hHeld => ?_)
      refine wpAnyH_at 0 (some 65) (v := ?v900) (by decide) rfl (by kernel_rfl) (by kernel_rfl) (by kernel_rfl) (fun _ _ _ h => h) (Or.inl ⟨by rfl, ?y900⟩) (by assumption) ?r900
      case y900 => (intro w hSw; (try dsimp only at hSw); go_simp; (try with_reducible rfl))
      simp only [Act.put, List.setIfInBounds_toArray, List.set_cons_zero, List.set_cons_succ]
      refine wpAnyH_at 2 (some 67) (v := ?v902) (by decide) rfl (by kernel_rfl) (by kernel_rfl) (by kernel_rfl) (fun _ _ _ h => h) (Or.inl ⟨by rfl, ?y902⟩) (by assumption) ?r902
      case y902 => (intro w hSw; (try dsimp only at hSw); go_simp; (try with_reducible rfl))
      simp only [Act.put, List.setIfInBounds_toArray, List.set_cons_zero, List.set_cons_succ]
      refine wpAnyH_ready (rs := [1]) (by kernel_rfl) (by simp) ?_
      refine AllReadyH.cons rfl (fun K hK => ?_) AllReadyH.nil
      go_simp
      refine (back_any L10.out HSL.out (by omega)).mono ?_
      rintro e w11 ⟨p11, q11, rfl, ho, hk⟩
      have B11 := hid (ho.lies (F := fun _ => False) (encS_one _) (fun _ _ => id)); have D11 := hid (D10.out.same hk); have KB11 := hid hk
      clear ho hk
      try dsimp only []
      refine hK.out _ _ (by exact KB11.out.cell M77.out id) (fun hHeld => ?_)
      clear hK K
      try simp only [Act.put, List.setIfInBounds_toArray, List.set_cons_zero, List.set_cons_succ]
      refine wpAnyH_ready (rs := [3]) (by kernel_rfl) (by simp) ?_
      refine AllReadyH.cons rfl (fun K hK => ?_) AllReadyH.nil
      go_simp
      refine (same_yes B11.out D11.out HSL.out (by omega)).mono ?_
      rintro e w12 ⟨rfl, hk⟩
      have KB12 := hid (KB11.out.trans hk)
      clear hk
      try dsimp only []
      refine hK.out _ _ (by exact KB12.out.cell M77.out id) (fun hHeld => ?_)
      clear hK K
      try simp only [Act.put, List.setIfInBounds_toArray, List.set_cons_zero, List.set_cons_succ]
      refine wpAnyH_at 4 (some 69) (v := ?v904) (by decide) rfl (by kernel_rfl) (by kernel_rfl) (by kernel_rfl) (fun _ _ _ h => h) (Or.inl ⟨by rfl, ?y904⟩) (by assumption) ?r904
      case y904 => (intro w hSw; (try dsimp only at hSw); go_simp; (try with_reducible rfl))
      simp only [Act.put, List.setIfInBounds_toArray, List.set_cons_zero, List.set_cons_succ]
      refine wpAnyH_at 5 (some 70) (v := ?v905) (by decide) rfl (by kernel_rfl) (by kernel_rfl) (by kernel_rfl) (fun _ _ _ h => h) (Or.inl ⟨by rfl, ?y905⟩) (by assumption) ?r905
      case y905 => (intro w hSw; (try dsimp only at hSw); go_simp; (try with_reducible rfl))
      simp only [Act.put, List.setIfInBounds_toArray, List.set_cons_zero, List.set_cons_succ]
      refine wpAnyH_at 6 (some 71) (v := ?v906) (by decide) rfl (by kernel_rfl) (by kernel_rfl) (by kernel_rfl) (fun _ _ _ h => h) (Or.inl ⟨by rfl, ?y906⟩) (by assumption) ?r906
      case y906 => (intro w hSw; (try dsimp only at hSw); go_simp; (try with_reducible rfl))
      simp only [Act.put, List.setIfInBounds_toArray, List.set_cons_zero, List.set_cons_succ]
      refine wpAnyH_at 7 (some 72) (v := ?v907) (by decide) rfl (by kernel_rfl) (by kernel_rfl) (by kernel_rfl) (fun _ _ _ h => h) (Or.inl ⟨by rfl, ?y907⟩) (by assumption) ?r907
      case y907 => (intro w hSw; (try dsimp only at hSw); go_simp; (try with_reducible rfl))
      simp only [Act.put, List.setIfInBounds_toArray, List.set_cons_zero, List.set_cons_succ]
      refine wpAnyH_at 8 (some 73) (v := ?v908) (by decide) rfl (by kernel_rfl) (by kernel_rfl) (by kernel_rfl) (fun _ _ _ h => h) (Or.inl ⟨by rfl, ?y908⟩) (by assumption) ?r908
      case y908 => (intro w hSw; (try dsimp only at hSw); go_simp; (try with_reducible rfl))
      simp only [Act.put, List.setIfInBounds_toArray, List.set_cons_zero, List.set_cons_succ]
      refine wpAnyH_at 9 (some 74) (v := ?v909) (by decide) rfl (by kernel_rfl) (by kernel_rfl) (by kernel_rfl) (fun _ _ _ h => h) (Or.inl ⟨by rfl, ?y909⟩) (by assumption) ?r909
      case y909 => (intro w hSw; (try dsimp only at hSw); go_simp; (try with_reducible rfl))
      simp only [Act.put, List.setIfInBounds_toArray, List.set_cons_zero, List.set_cons_succ]
      refine wpAnyH_at 10 (some 75) (v := ?v910) (by decide) rfl (by kernel_rfl) (by kernel_rfl) (by kernel_rfl) (fun _ _ _ h => h) (Or.inl ⟨by rfl, ?y910⟩) (by assumption) ?r910
      case y910 => (intro w hSw; (try dsimp only at hSw); go_simp; (try with_reducible rfl))
      simp only [Act.put, List.setIfInBounds_toArray, List.set_cons_zero, List.set_cons_succ]
      refine wpAnyH_at 11 (some 76) (v := ?v911) (by decide) rfl (by kernel_rfl) (by kernel_rfl) (by kernel_rfl) (fun _ _ _ h => h) (Or.inl ⟨by rfl, ?y911⟩) (by assumption) ?r911
      case y911 => (intro w hSw; (try dsimp only at hSw); go_simp; (try with_reducible rfl))
      simp only [Act.put, List.setIfInBounds_toArray, List.set_cons_zero, List.set_cons_succ]
      refine wpAnyH_at 12 (some 77) (v := ?v912) (by decide) rfl (by kernel_rfl) (by kernel_rfl) (by kernel_rfl) (fun _ _ _ h => h) (Or.inl ⟨by rfl, ?y912⟩) (by assumption) ?r912
      case y912 => (intro w hSw; (try dsimp only at hSw); go_simp; (try with_reducible rfl))
      simp only [Act.put, List.setIfInBounds_toArray, List.set_cons_zero, List.set_cons_succ]
      refine wpAnyH_at 13 (some 78) (v := ?v913) (by decide) rfl (by kernel_rfl) (by kernel_rfl) (by kernel_rfl) (fun _ _ _ h => h) (Or.inl ⟨by rfl, ?y913⟩) (by assumption) ?r913
      case y913 => (intro w hSw; (try dsimp only at hSw); go_simp; (try with_reducible rfl))
      simp only [Act.put, List.setIfInBounds_toArray, List.set_cons_zero, List.set_cons_succ]
      refine wpAnyH_at 14 (some 79) (v := ?v914) (by decide) rfl (by kernel_rfl) (by kernel_rfl) (by kernel_rfl) (fun _ _ _ h => h) (Or.inl ⟨by rfl, ?y914⟩) (by assumption) ?r914
      case y914 => (intro w hSw; (try dsimp only at hSw); go_simp; (try with_reducible rfl))
      simp only [Act.put, List.setIfInBounds_toArray, List.set_cons_zero, List.set_cons_succ]
      refine wpAnyH_at 15 (some 80) (v := undef) (by decide) rfl (by kernel_rfl) (by kernel_rfl) (by kernel_rfl) (fun _ _ _ h => h) (Or.inr ⟨by rfl, rfl⟩) (by assumption) ?_
      simp only [Act.put, List.setIfInBounds_toArray, List.set_cons_zero, List.set_cons_succ]
      refine wpAnyH_at 16 (some 81) (v := undef) (by decide) rfl (by kernel_rfl) (by kernel_rfl) (by kernel_rfl) (fun _ _ _ h => h) (Or.inr ⟨by rfl, rfl⟩) (by assumption) ?_
      simp only [Act.put, List.setIfInBounds_toArray, List.set_cons_zero, List.set_cons_succ]
      refine wpAnyH_at 17 (some 82) (v := undef) (by decide) rfl (by kernel_rfl) (by kernel_rfl) (by kernel_rfl) (fun _ _ _ h => h) (Or.inr ⟨by rfl, rfl⟩) (by assumption) ?_
      simp only [Act.put, List.setIfInBounds_toArray, List.set_cons_zero, List.set_cons_succ]
      refine wpAnyH_at 18 (some 83) (v := undef) (by decide) rfl (by kernel_rfl) (by kernel_rfl) (by kernel_rfl) (fun _ _ _ h => h) (Or.inr ⟨by rfl, rfl⟩) (by assumption) ?_
      simp only [Act.put, List.setIfInBounds_toArray, List.set_cons_zero, List.set_cons_succ]
      refine wpAnyH_at 19 (some 84) (v := undef) (by decide) rfl (by kernel_rfl) (by kernel_rfl) (by kernel_rfl) (fun _ _ _ h => h) (Or.inr ⟨by rfl, rfl⟩) (by assumption) ?_
      simp only [Act.put, List.setIfInBounds_toArray, List.set_cons_zero, List.set_cons_succ]
      refine wpAnyH_at 20 (some 85) (v := ?v920) (by decide) rfl (by kernel_rfl) (by kernel_rfl) (by kernel_rfl) (fun _ _ _ h => h) (Or.inl ⟨by rfl, ?y920⟩) (by assumption) ?r920
      case y920 => (intro w hSw; (try dsimp only at hSw); go_simp; (try with_reducible rfl))
      simp only [Act.put, List.setIfInBounds_toArray, List.set_cons_zero, List.set_cons_succ]
      refine wpAnyH_at 21 (some 86) (v := ?v921) (by decide) rfl (by kernel_rfl) (by kernel_rfl) (by kernel_rfl) (fun _ _ _ h => h) (Or.inl ⟨by rfl, ?y921⟩) (by assumption) ?r921
      case y921 => (intro w hSw; (try dsimp only at hSw); go_simp; (try with_reducible rfl))
      simp only [Act.put, List.setIfInBounds_toArray, List.set_cons_zero, List.set_cons_succ]
      refine wpAnyH_at 22 (some 87) (v := ?v922) (by decide) rfl (by kernel_rfl) (by kernel_rfl) (by kernel_rfl) (fun _ _ _ h => h) (Or.inl ⟨by rfl, ?y922⟩) (by assumption) ?r922
      case y922 => (intro w hSw; (try dsimp only at hSw); go_simp; (try with_reducible rfl))
      simp only [Act.put, List.setIfInBounds_toArray, List.set_cons_zero, List.set_cons_succ]
      refine wpAnyH_at 23 (some 88) (v := ?v923) (by decide) rfl (by kernel_rfl) (by kernel_rfl) (by kernel_rfl) (fun _ _ _ h => h) (Or.inl ⟨by rfl, ?y923⟩) (by assumption) ?r923
      case y923 => (intro w hSw; (try dsimp only at hSw); go_simp; (try with_reducible rfl))
      simp only [Act.put, List.setIfInBounds_toArray, List.set_cons_zero, List.set_cons_succ]
      refine wpAnyH_at 25 (some 90) (v := ?v925) (by decide) rfl (by kernel_rfl) (by kernel_rfl) (by kernel_rfl) (fun _ _ _ h => h) (Or.inl ⟨by rfl, ?y925⟩) (by assumption) ?r925
      case y925 => (intro w hSw; (try dsimp only at hSw); go_simp; (try with_reducible rfl))
      simp only [Act.put, List.setIfInBounds_toArray, List.set_cons_zero, List.set_cons_succ]
      refine wpAnyH_ready (rs := [24]) (by kernel_rfl) (by simp) ?_
      refine AllReadyH.cons rfl (fun K hK => ?_) AllReadyH.nil
      go_simp
      refine (back_any ((ML10.out.same KB12.out).mono (G := fun _ => False) (fun _ _ h => h.elim)) HAL.out (by omega)).mono ?_
      rintro e w13 ⟨p13, q13, rfl, ho, hk⟩
      have B13 := hid (ho.lies (F := fun _ => False) (encS_one _) (fun _ _ => id)); have KB13 := hid (KB12.out.trans hk)
      clear ho hk
      try dsimp only []
      refine hK.out _ _ (by exact KB13.out.cell M77.out id) (fun hHeld => ?_)
      clear hK K
      try simp only [Act.put, List.setIfInBounds_toArray, List.set_cons_zero, List.set_cons_succ]
      refine wpAnyH_ready (rs := [26]) (by kernel_rfl) (by simp) ?_
      refine AllReadyH.cons rfl (fun K hK => ?_) AllReadyH.nil
      go_simp
      refine (same_yes B13.out ((HA10.out.same KB13.out).mono (G := fun _ => False) (fun _ _ h => h.elim)) HAL.out (by omega)).mono ?_
      rintro e w14 ⟨rfl, hk⟩
      have KB14 := hid (KB13.out.trans hk)
      clear hk
      try dsimp only []
      refine hK.out _ _ (by exact KB14.out.cell M77.out id) (fun hHeld => ?_)
      clear hK K
      try simp only [Act.put, List.setIfInBounds_toArray, List.set_cons_zero, List.set_cons_succ]
      refine wpAnyH_at 27 (some 92) (v := ?v927) (by decide) rfl (by kernel_rfl) (by kernel_rfl) (by kernel_rfl) (fun _ _ _ h => h) (Or.inl ⟨by rfl, ?y927⟩) (by assumption) ?r927
      case y927 => (intro w hSw; (try dsimp only at hSw); go_simp; (try with_reducible rfl))
      simp only [Act.put, List.setIfInBounds_toArray, List.set_cons_zero, List.set_cons_succ]
      refine wpAnyH_at 28 (some 93) (v := ?v928) (by decide) rfl (by kernel_rfl) (by kernel_rfl) (by kernel_rfl) (fun _ _ _ h => h) (Or.inl ⟨by rfl, ?y928⟩) (by assumption) ?r928
      case y928 => (intro w hSw; (try dsimp only at hSw); go_simp; (try with_reducible rfl))
      simp only [Act.put, List.setIfInBounds_toArray, List.set_cons_zero, List.set_cons_succ]
      refine wpAnyH_at 29 (some 94) (v := ?v929) (by decide) rfl (by kernel_rfl) (by kernel_rfl) (by kernel_rfl) (fun _ _ _ h => h) (Or.inl ⟨by rfl, ?y929⟩) (by assumption) ?r929
      case y929 => (intro w hSw; (try dsimp only at hSw); go_simp; (try with_reducible rfl))
      simp only [Act.put, List.setIfInBounds_toArray, List.set_cons_zero, List.set_cons_succ]
      refine wpAnyH_at 30 (some 95) (v := ?v930) (by decide) rfl (by kernel_rfl) (by kernel_rfl) (by kernel_rfl) (fun _ _ _ h => h) (Or.inl ⟨by rfl, ?y930⟩) (by assumption) ?r930
      case y930 => (intro w hSw; (try dsimp only at hSw); go_simp; (try with_reducible rfl))
      simp only [Act.put, List.setIfInBounds_toArray, List.set_cons_zero, List.set_cons_succ]
      refine wpAnyH_at 31 (some 96) (v := ?v931) (by decide) rfl (by kernel_rfl) (by kernel_rfl) (by kernel_rfl) (fun _ _ _ h => h) (Or.inl ⟨by rfl, ?y931⟩) (by assumption) ?r931
      case y931 => (intro w hSw; (try dsimp only at hSw); go_simp; (try with_reducible rfl))
      simp only [Act.put, List.setIfInBounds_toArray, List.set_cons_zero, List.set_cons_succ]
      refine wpAnyH_at 32 (some 97) (v := ?v932) (by decide) rfl (by kernel_rfl) (by kernel_rfl) (by kernel_rfl) (fun _ _ _ h => h) (Or.inl ⟨by rfl, ?y932⟩) (by assumption) ?r932
      case y932 => (intro w hSw; (try dsimp only at hSw); go_simp; (try with_reducible rfl))
      simp only [Act.put, List.setIfInBounds_toArray, List.set_cons_zero, List.set_cons_succ]
      refine wpAnyH_at 33 (some 98) (v := ?v933) (by decide) rfl (by kernel_rfl) (by kernel_rfl) (by kernel_rfl) (fun _ _ _ h => h) (Or.inl ⟨by rfl, ?y933⟩) (by assumption) ?r933
      case y933 => (intro w hSw; (try dsimp only at hSw); go_simp; (try with_reducible rfl))
      simp only [Act.put, List.setIfInBounds_toArray, List.set_cons_zero, List.set_cons_succ]
      refine wpAnyH_at 34 (some 99) (v := ?v934) (by decide) rfl (by kernel_rfl) (by kernel_rfl) (by kernel_rfl) (fun _ _ _ h => h) (Or.inl ⟨by rfl, ?y934⟩) (by assumption) ?r934
      case y934 => (intro w hSw; (try dsimp only at hSw); go_simp; (try with_reducible rfl))
      simp only [Act.put, List.setIfInBounds_toArray, List.set_cons_zero, List.set_cons_succ]
      refine wpAnyH_at 35 (some 100) (v := ?v935) (by decide) rfl (by kernel_rfl) (by kernel_rfl) (by kernel_rfl) (fun _ _ _ h => h) (Or.inl ⟨by rfl, ?y935⟩) (by assumption) ?r935
      case y935 => (intro w hSw; (try dsimp only at hSw); go_simp; (try with_reducible rfl))
      simp only [Act.put, List.setIfInBounds_toArray, List.set_cons_zero, List.set_cons_succ]
      refine wpAnyH_at 36 (some 101) (v := ?v936) (by decide) rfl (by kernel_rfl) (by kernel_rfl) (by kernel_rfl) (fun _ _ _ h => h) (Or.inl ⟨by rfl, ?y936⟩) (by assumption) ?r936
      case y936 => (intro w hSw; (try dsimp only at hSw); go_simp; (try with_reducible rfl))
      simp only [Act.put, List.setIfInBounds_toArray, List.set_cons_zero, List.set_cons_succ]
      refine wpAnyH_at 37 (some 102) (v := ?v937) (by decide) rfl (by kernel_rfl) (by kernel_rfl) (by kernel_rfl) (fun _ _ _ h => h) (Or.inl ⟨by rfl, ?y937⟩) (by assumption) ?r937
      case y937 => (intro w hSw; (try dsimp only at hSw); go_simp; (try with_reducible rfl))
      simp only [Act.put, List.setIfInBounds_toArray, List.set_cons_zero, List.set_cons_succ]
      refine wpAnyH_at 38 (some 103) (v := ?v938) (by decide) rfl (by kernel_rfl) (by kernel_rfl) (by kernel_rfl) (fun _ _ _ h => h) (Or.inl ⟨by rfl, ?y938⟩) (by assumption) ?r938
      case y938 => (intro w hSw; (try dsimp only at hSw); go_simp; (try with_reducible rfl))
      simp only [Act.put, List.setIfInBounds_toArray, List.set_cons_zero, List.set_cons_succ]
      refine wpAnyH_at 39 (some 104) (v := ?v939) (by decide) rfl (by kernel_rfl) (by kernel_rfl) (by kernel_rfl) (fun _ _ _ h => h) (Or.inl ⟨by rfl, ?y939⟩) (by assumption) ?r939
      case y939 => (intro w hSw; (try dsimp only at hSw); go_simp; (try with_reducible rfl))
      simp only [Act.put, List.setIfInBounds_toArray, List.set_cons_zero, List.set_cons_succ]
      refine wpAnyH_at 40 (some 105) (v := ?v940) (by decide) rfl (by kernel_rfl) (by kernel_rfl) (by kernel_rfl) (fun _ _ _ h => h) (Or.inl ⟨by rfl, ?y940⟩) (by assumption) ?r940
      case y940 => (intro w hSw; (try dsimp only at hSw); go_simp; (try with_reducible rfl))
      simp only [Act.put, List.setIfInBounds_toArray, List.set_cons_zero, List.set_cons_succ]
      refine wpAnyH_at 41 (some 106) (v := ?v941) (by decide) rfl (by kernel_rfl) (by kernel_rfl) (by kernel_rfl) (fun _ _ _ h => h) (Or.inl ⟨by rfl, ?y941⟩) (by assumption) ?r941
      case y941 => (intro w hSw; (try dsimp only at hSw); go_simp; (try with_reducible rfl))
      simp only [Act.put, List.setIfInBounds_toArray, List.set_cons_zero, List.set_cons_succ]
      refine wpAnyH_done (by kernel_rfl) ?_ _
      go_wp2_with fail
      go_loopw [109] (fun i wr => i = .int .i64 0 ∧ Kept (fun _ => False) w14 wr) (fun _ _ => 0)
      case atStart => exact ⟨rfl, Kept.refl _ _⟩
      case round =>
        rename World => wr
        obtain ⟨rfl, hkp⟩ := hrel
        have KR := hid (KB14.out.trans hkp)
        clear hkp
        go_wp2_with fail
        refine (back_any ((ML10.out.same KR.out).mono (G := fun _ => False) (fun _ _ h => h.elim)) HAL.out (by omega)).mono ?_
        rintro e w15 ⟨p15, q15, rfl, ho, hk⟩
        have B15 := hid (ho.lies (F := fun _ => False) (encS_one _) (fun _ _ => id)); have K15 := hid (KR.out.trans hk)
        clear ho hk
        go_wp2_with fail
        refine (same_yes B15.out ((HA10.out.same K15.out).mono (G := fun _ => False) (fun _ _ h => h.elim)) HAL.out (by omega)).mono ?_
        rintro e w16 ⟨rfl, hk⟩
        have K16 := hid ((K10.out.trans K15.out).trans hk)
        clear hk
        go_wp2
        go_ret
        exact ⟨rfl, K16.out.below (Nat.le_refl _) (fun _ h => h.elim)⟩
    · have hpos : (0 : Int) < (N : Int) := by omega
      have hb : bA = true := by
        rw [← HBA.out]
        cases A with
        | nil => have := HAL.out; simp at this; omega
        | cons _ _ => rfl
      subst hb
      obtain ⟨xx, hx1⟩ : ∃ xx, (sortS A)[0]? = some xx := ⟨_, List.getElem?_eq_getElem (by rw [HSL.out]; exact h0)⟩
      have hx2 := sortS_first hx1
      rw [HZ.out] at hx2
      subst hx2
      obtain ⟨gw, ow, rfl, f0, f1, f2, f3⟩ := st_cells D10.out HSL.out (Kept.refl _ _) hx1
      have s1 := And.intro (And.intro f0 (And.intro f1 (And.intro f2 f3))) (And.intro (cells4' ZB10.out) M77.out)
      simp only [Nat.zero_mul, Nat.add_zero] at s1
      clear f0 f1 f2 f3 hx1
      go_region_held3 (fun w' => (w'.cell? ⟨gw, ow, none⟩ = some (.int .u64 z1) ∧ w'.cell? ⟨gw, ow + 1, none⟩ = some (.int .u8 z2) ∧ w'.cell? ⟨gw, ow + 2, none⟩ = some (.int .u32 z3) ∧ w'.cell? ⟨gw, ow + 3, none⟩ = some (.int .u32 z4)) ∧ (w'.cell? ⟨zb, 0, none⟩ = some (.int .u64 z1) ∧ w'.cell? ⟨zb, 1, none⟩ = some (.int .u8 z2) ∧ w'.cell? ⟨zb, 2, none⟩ = some (.int .u32 z3) ∧ w'.cell? ⟨zb, 3, none⟩ = some (.int .u32 z4)) ∧ w'.cell? ⟨mb, N * 4, none⟩ = some (.int .u64 77)) (first | exact s1 | exact s2 | exact s3 | exact s4 | exact s5)
        (first
          | (go_at_call 21; refine (back_any L10.out HSL.out (by omega)).mono ?_; rintro e w11 ⟨p11, q11, rfl, ho, hk⟩; have B11 := hid (ho.lies (F := fun _ => False) (encS_one _) (fun _ _ => id)); have D11 := hid (D10.out.same hk); have KB11 := hid hk; have s2 := keep9 hk s1; clear ho hk L10)
          | (go_at_call 20; refine (same_yes B11.out D11.out HSL.out (by omega)).mono ?_; rintro e w12 ⟨rfl, hk⟩; have KB12 := hid (KB11.out.trans hk); have s3 := keep9 hk s2; clear hk B11 D11)
          | (go_at_call 21; refine (back_any ((ML10.out.same KB12.out).mono (G := fun _ => False) (fun _ _ h => h.elim)) HAL.out (by omega)).mono ?_; rintro e w13 ⟨p13, q13, rfl, ho, hk⟩; have B13 := hid (ho.lies (F := fun _ => False) (encS_one _) (fun _ _ => id)); have KB13 := hid (KB12.out.trans hk); have s4 := keep9 hk s3; clear ho hk)
          | (go_at_call 20; refine (same_yes B13.out ((HA10.out.same KB13.out).mono (G := fun _ => False) (fun _ _ h => h.elim)) HAL.out (by omega)).mono ?_; rintro e w14 ⟨rfl, hk⟩; have KB14 := hid (KB13.out.trans hk); have s5 := keep9 hk s4; clear hk))
      go_wp2_with fail
      rcases HS4.out with ⟨h, _⟩ | ⟨gl, rfl, hg1, hg2, hH⟩
      · exact absurd h (by omega)
      have HG := hid (show w6.heap.size ≤ gl ∧ W.heap.size ≤ gl from ⟨hg1, Nat.le_trans HW6.out hg1⟩)
      have HC0 := hid (fun (j : Nat) (hj : j < N) => show ∃ x, w14.cell? ⟨gl, j * 4, none⟩ = some (.int .u64 x) ∧ w14.frozen? ⟨gl, j * 4, none⟩ = false from by
        obtain ⟨x, h1, h2⟩ := first_cells hH HSL.out hj
        have k := K710.out.trans KB14.out
        exact ⟨x, k.cell h1 id, (k.frozen hg2 id).trans h2⟩)
      obtain ⟨hl1, hl2⟩ := HLC.out
      clear hg1 hg2 hH HS4 s5
      go_loopw [109] (fun i wr => ∃ k : Nat, k ≤ N ∧ i = .int .i64 k ∧ Kept (fun b => b = gl) w14 wr ∧ ∀ j, k ≤ j → j < N → ∃ x, wr.cell? ⟨gl, j * 4, none⟩ = some (.int .u64 x) ∧ wr.frozen? ⟨gl, j * 4, none⟩ = false) (fun i _ => N - (RowKit.intOf i).toNat)
      case atStart => exact ⟨0, Nat.zero_le _, rfl, Kept.refl _ _, fun j _ hj => HC0.out j hj⟩
      case round =>
        rename World => wr
        obtain ⟨k, hkN, rfl, hkp, hc⟩ := hrel
        have KR := hid hkp; have HC := hid hc
        clear hkp hc HC0
        by_cases hlt : k < N
        · have hltI : (k : Int) < (N : Int) := by omega
          obtain ⟨x, cz, fz⟩ := HC.out k (Nat.le_refl _) hlt
          go_wp2
          go_roundw
          case rel =>
            refine ⟨k + 1, by omega, by go_num, KR.out.setCell (p := ⟨gl, k * 4, none⟩) (.inl rfl) _, fun j h1 h2 => ?_⟩
            obtain ⟨x', c', f'⟩ := HC.out j (by omega) h2
            exact ⟨x', (World.cell?_setCell_other _ _ _ _ (fun e => by have e2 := congrArg Addr.off e; simp only at e2; omega)).trans c', (World.frozen?_setCell _ _ _ _).trans f'⟩
          case measure => (simp only [RowKit.intOf]; omega)
        · obtain rfl : k = N := by omega
          have ML15 := hid (((ML10.out.same KB14.out).kept KR.out (fun g _ h => by rw [h]; exact HG.out.1)).mono (G := fun _ => False) (fun _ _ h => h.elim))
          have HA15 := hid (((HA10.out.same KB14.out).kept KR.out (fun g _ h => by rw [h]; exact HG.out.2)).mono (G := fun _ => False) (fun _ _ h => h.elim))
          have K15 := hid ((K10.out.trans KB14.out).trans' KR.out (fun i h => .inr (by rw [h]; exact HG.out.2)))
          go_wp2_with fail
          refine (back_any ML15.out HAL.out (by omega)).mono ?_
          rintro e w16 ⟨p15, q15, rfl, ho, hk⟩
          have B15 := hid (ho.lies (F := fun _ => False) (encS_one _) (fun _ _ => id)); have K16 := hid (K15.out.trans hk); have HA16 := hid (HA15.out.same hk)
          clear ho hk
          go_wp2_with fail
          refine (same_yes B15.out HA16.out HAL.out (by omega)).mono ?_
          rintro e w17 ⟨rfl, hk⟩
          have K17 := hid (K16.out.trans hk)
          clear hk
          go_wp2
          go_ret
          exact ⟨rfl, K17.out.below (Nat.le_refl _) (fun _ h => h.elim)⟩
end Go.Proofs.Ytfkkfjmdpkgicaa
