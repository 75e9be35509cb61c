/- Operations in form, by their kinds: the program's and the document's. -/
import Derived.Test.YtnlbdlbinoebgaaU
namespace Go.Proofs.Ytnlbdlbinoebgaa
open Go.RowKit
/-- an operation in form -/
def OpF (x : O) : Prop := ((x.kd = 1 ∨ x.kd = 2 ∨ x.kd = 8) ∧ OpG false false false x) ∨ ((x.kd = 3 ∨ x.kd = 9) ∧ OpG false true true x) ∨ (x.kd = 4 ∧ OpG false true false x) ∨ (x.kd = 5 ∧ OpG true false true x) ∨ ((x.kd = 6 ∨ x.kd = 7) ∧ OpG true false false x)
theorem SaysK.imp {P Q : Prop} {w w' : World} {e : Ending} (h : SaysK P w e w') (i : P ↔ Q) : SaysK Q w e w' := by
  obtain ⟨b, rfl, hb, k⟩ := h
  exact ⟨b, rfl, hb.trans i, k⟩
theorem formed_is (x : O) (hs : x.s.size ≤ 9223372036854775807) (w : World) : Calls Try.prog 38 #[.agg (ocell x).toArray] w (SaysK (OpF x) w) := by
  obtain ⟨kd, a, b, key, k, n, s⟩ := x
  unfold ocell
  by_cases h : kd < 1 ∨ 9 < kd
  · go_enter Try.func38, Try.ntmps38
    go_wp2_with fail
    refine (uses_no kd h _).mono ?_
    rintro e w' ⟨rfl, rfl⟩
    go_wp2
    go_ret
    exact SaysK.mk ((Kept.refl _ _).alloc _) (by simp [OpF]; omega)
  · have h' : kd = 1 ∨ kd = 2 ∨ kd = 3 ∨ kd = 4 ∨ kd = 5 ∨ kd = 6 ∨ kd = 7 ∨ kd = 8 ∨ kd = 9 := by omega
    clear h
    rcases h' with rfl | rfl | rfl | rfl | rfl | rfl | rfl | rfl | rfl
    · exact (formed_fff 1 a b key k n s uses_1 w).mono fun e w' h => h.imp (by simp [OpF])
    · exact (formed_fff 2 a b key k n s uses_2 w).mono fun e w' h => h.imp (by simp [OpF])
    · exact (formed_ftt 3 a b key k n s hs uses_3 w).mono fun e w' h => h.imp (by simp [OpF])
    · exact (formed_ftf 4 a b key k n s uses_4 w).mono fun e w' h => h.imp (by simp [OpF])
    · exact (formed_tft 5 a b key k n s hs uses_5 w).mono fun e w' h => h.imp (by simp [OpF])
    · exact (formed_tff 6 a b key k n s uses_6 w).mono fun e w' h => h.imp (by simp [OpF])
    · exact (formed_tff 7 a b key k n s uses_7 w).mono fun e w' h => h.imp (by simp [OpF])
    · exact (formed_fff 8 a b key k n s uses_8 w).mono fun e w' h => h.imp (by simp [OpF])
    · exact (formed_ftt 9 a b key k n s hs uses_9 w).mono fun e w' h => h.imp (by simp [OpF])
set_option linter.unusedSimpArgs false in
set_option maxRecDepth 100000 in
set_option maxHeartbeats 2000000 in
theorem dop_1 (a b key k n : Int) (s : ByteArray) (w : World) : Calls Try.prog 39 #[.agg #[.int .u8 1, .int .u32 a, .int .u32 b, .int .u8 key, .int .u8 k, .int .i64 n, .string s]] w (SaysK (OpG false false false ⟨1, a, b, key, k, n, s⟩) w) := by
  by_cases hk : k = 0
  · by_cases hn : n = 0
    · by_cases hs : s = ⟨#[]⟩
      · subst hk; subst hn; subst hs
        have HV := hid (show ZV 0 0 ⟨#[]⟩ ↔ True from ⟨fun _ => trivial, fun _ => ⟨rfl, rfl, rfl⟩⟩)
        go_enter Try.func39, Try.ntmps39
        go_wp2_with (first | (go_at_call 40; refine (number3_b _ _).mono ?_; rintro e w' ⟨⟨rfl, h2⟩ | ⟨rfl, h2⟩, rfl⟩ <;> ((first | (have hq := H1.out; clear hq; have H2 := hid h2) | have H1 := hid h2); clear h2)) | (go_at_call 43; refine (form_any (_, _, _) (by exact HS.out) _).mono ?_; rintro e w8 ⟨rfl, hk8⟩; have HK8 := hid hk8; clear hk8; rw [HFB.out]))
        all_goals go_ret
        all_goals exact SaysK.mk (by first | exact (Kept.refl _ _).alloc _ | exact ((Kept.refl _ _).alloc _).trans HK8.out | exact Kept.refl _ _ | exact HK8.out) (by
          (try have h1 := H1.out)
          (try have h2 := H2.out)
          (try simp only [bne_eq_false_iff_eq, bne_iff_ne, ne_eq, beq_iff_eq, beq_eq_false_iff_ne] at *)
          simp only [OpG, Num, HV.out, eq_self_iff_true, true_iff, false_iff, Bool.false_eq_true, and_true, and_false, not_false_eq_true, true_and, false_and, not_true_eq_false] <;> first | omega | decide)
      · subst hk; subst hn
        have hs2 : ¬ s.toList = [] := fun h => hs ((nilS s).2 h)
        have HV := hid (show ZV 0 0 s ↔ False from ⟨fun h => hs h.2.2, fun h => h.elim⟩)
        go_enter Try.func39, Try.ntmps39
        go_wp2_with (first | (go_at_call 40; refine (number3_b _ _).mono ?_; rintro e w' ⟨⟨rfl, h2⟩ | ⟨rfl, h2⟩, rfl⟩ <;> ((first | (have hq := H1.out; clear hq; have H2 := hid h2) | have H1 := hid h2); clear h2)) | (go_at_call 43; refine (form_any (_, _, _) (by exact HS.out) _).mono ?_; rintro e w8 ⟨rfl, hk8⟩; have HK8 := hid hk8; clear hk8; rw [HFB.out]))
        all_goals go_ret
        all_goals exact SaysK.mk (by first | exact (Kept.refl _ _).alloc _ | exact ((Kept.refl _ _).alloc _).trans HK8.out | exact Kept.refl _ _ | exact HK8.out) (by
          (try have h1 := H1.out)
          (try have h2 := H2.out)
          (try simp only [bne_eq_false_iff_eq, bne_iff_ne, ne_eq, beq_iff_eq, beq_eq_false_iff_ne] at *)
          simp only [OpG, Num, HV.out, eq_self_iff_true, true_iff, false_iff, Bool.false_eq_true, and_true, and_false, not_false_eq_true, true_and, false_and, not_true_eq_false] <;> first | omega | decide)
    · subst hk
      have HV := hid (show ZV 0 n s ↔ False from ⟨fun h => hn h.2.1, fun h => h.elim⟩)
      go_enter Try.func39, Try.ntmps39
      go_wp2_with (first | (go_at_call 40; refine (number3_b _ _).mono ?_; rintro e w' ⟨⟨rfl, h2⟩ | ⟨rfl, h2⟩, rfl⟩ <;> ((first | (have hq := H1.out; clear hq; have H2 := hid h2) | have H1 := hid h2); clear h2)) | (go_at_call 43; refine (form_any (_, _, _) (by exact HS.out) _).mono ?_; rintro e w8 ⟨rfl, hk8⟩; have HK8 := hid hk8; clear hk8; rw [HFB.out]))
      all_goals go_ret
      all_goals exact SaysK.mk (by first | exact (Kept.refl _ _).alloc _ | exact ((Kept.refl _ _).alloc _).trans HK8.out | exact Kept.refl _ _ | exact HK8.out) (by
        (try have h1 := H1.out)
        (try have h2 := H2.out)
        (try simp only [bne_eq_false_iff_eq, bne_iff_ne, ne_eq, beq_iff_eq, beq_eq_false_iff_ne] at *)
        simp only [OpG, Num, HV.out, eq_self_iff_true, true_iff, false_iff, Bool.false_eq_true, and_true, and_false, not_false_eq_true, true_and, false_and, not_true_eq_false] <;> first | omega | decide)
  · have HV := hid (show ZV k n s ↔ False from ⟨fun h => hk h.1, fun h => h.elim⟩)
    go_enter Try.func39, Try.ntmps39
    go_wp2_with (first | (go_at_call 40; refine (number3_b _ _).mono ?_; rintro e w' ⟨⟨rfl, h2⟩ | ⟨rfl, h2⟩, rfl⟩ <;> ((first | (have hq := H1.out; clear hq; have H2 := hid h2) | have H1 := hid h2); clear h2)) | (go_at_call 43; refine (form_any (_, _, _) (by exact HS.out) _).mono ?_; rintro e w8 ⟨rfl, hk8⟩; have HK8 := hid hk8; clear hk8; rw [HFB.out]))
    all_goals go_ret
    all_goals exact SaysK.mk (by first | exact (Kept.refl _ _).alloc _ | exact ((Kept.refl _ _).alloc _).trans HK8.out | exact Kept.refl _ _ | exact HK8.out) (by
      (try have h1 := H1.out)
      (try have h2 := H2.out)
      (try simp only [bne_eq_false_iff_eq, bne_iff_ne, ne_eq, beq_iff_eq, beq_eq_false_iff_ne] at *)
      simp only [OpG, Num, HV.out, eq_self_iff_true, true_iff, false_iff, Bool.false_eq_true, and_true, and_false, not_false_eq_true, true_and, false_and, not_true_eq_false] <;> first | omega | decide)
set_option linter.unusedSimpArgs false in
set_option maxRecDepth 100000 in
set_option maxHeartbeats 2000000 in
theorem dop_2 (a b key k n : Int) (s : ByteArray) (w : World) : Calls Try.prog 39 #[.agg #[.int .u8 2, .int .u32 a, .int .u32 b, .int .u8 key, .int .u8 k, .int .i64 n, .string s]] w (SaysK (OpG false false false ⟨2, a, b, key, k, n, s⟩) w) := by
  by_cases hk : k = 0
  · by_cases hn : n = 0
    · by_cases hs : s = ⟨#[]⟩
      · subst hk; subst hn; subst hs
        have HV := hid (show ZV 0 0 ⟨#[]⟩ ↔ True from ⟨fun _ => trivial, fun _ => ⟨rfl, rfl, rfl⟩⟩)
        go_enter Try.func39, Try.ntmps39
        go_wp2_with (first | (go_at_call 40; refine (number3_b _ _).mono ?_; rintro e w' ⟨⟨rfl, h2⟩ | ⟨rfl, h2⟩, rfl⟩ <;> ((first | (have hq := H1.out; clear hq; have H2 := hid h2) | have H1 := hid h2); clear h2)) | (go_at_call 43; refine (form_any (_, _, _) (by exact HS.out) _).mono ?_; rintro e w8 ⟨rfl, hk8⟩; have HK8 := hid hk8; clear hk8; rw [HFB.out]))
        all_goals go_ret
        all_goals exact SaysK.mk (by first | exact (Kept.refl _ _).alloc _ | exact ((Kept.refl _ _).alloc _).trans HK8.out | exact Kept.refl _ _ | exact HK8.out) (by
          (try have h1 := H1.out)
          (try have h2 := H2.out)
          (try simp only [bne_eq_false_iff_eq, bne_iff_ne, ne_eq, beq_iff_eq, beq_eq_false_iff_ne] at *)
          simp only [OpG, Num, HV.out, eq_self_iff_true, true_iff, false_iff, Bool.false_eq_true, and_true, and_false, not_false_eq_true, true_and, false_and, not_true_eq_false] <;> first | omega | decide)
      · subst hk; subst hn
        have hs2 : ¬ s.toList = [] := fun h => hs ((nilS s).2 h)
        have HV := hid (show ZV 0 0 s ↔ False from ⟨fun h => hs h.2.2, fun h => h.elim⟩)
        go_enter Try.func39, Try.ntmps39
        go_wp2_with (first | (go_at_call 40; refine (number3_b _ _).mono ?_; rintro e w' ⟨⟨rfl, h2⟩ | ⟨rfl, h2⟩, rfl⟩ <;> ((first | (have hq := H1.out; clear hq; have H2 := hid h2) | have H1 := hid h2); clear h2)) | (go_at_call 43; refine (form_any (_, _, _) (by exact HS.out) _).mono ?_; rintro e w8 ⟨rfl, hk8⟩; have HK8 := hid hk8; clear hk8; rw [HFB.out]))
        all_goals go_ret
        all_goals exact SaysK.mk (by first | exact (Kept.refl _ _).alloc _ | exact ((Kept.refl _ _).alloc _).trans HK8.out | exact Kept.refl _ _ | exact HK8.out) (by
          (try have h1 := H1.out)
          (try have h2 := H2.out)
          (try simp only [bne_eq_false_iff_eq, bne_iff_ne, ne_eq, beq_iff_eq, beq_eq_false_iff_ne] at *)
          simp only [OpG, Num, HV.out, eq_self_iff_true, true_iff, false_iff, Bool.false_eq_true, and_true, and_false, not_false_eq_true, true_and, false_and, not_true_eq_false] <;> first | omega | decide)
    · subst hk
      have HV := hid (show ZV 0 n s ↔ False from ⟨fun h => hn h.2.1, fun h => h.elim⟩)
      go_enter Try.func39, Try.ntmps39
      go_wp2_with (first | (go_at_call 40; refine (number3_b _ _).mono ?_; rintro e w' ⟨⟨rfl, h2⟩ | ⟨rfl, h2⟩, rfl⟩ <;> ((first | (have hq := H1.out; clear hq; have H2 := hid h2) | have H1 := hid h2); clear h2)) | (go_at_call 43; refine (form_any (_, _, _) (by exact HS.out) _).mono ?_; rintro e w8 ⟨rfl, hk8⟩; have HK8 := hid hk8; clear hk8; rw [HFB.out]))
      all_goals go_ret
      all_goals exact SaysK.mk (by first | exact (Kept.refl _ _).alloc _ | exact ((Kept.refl _ _).alloc _).trans HK8.out | exact Kept.refl _ _ | exact HK8.out) (by
        (try have h1 := H1.out)
        (try have h2 := H2.out)
        (try simp only [bne_eq_false_iff_eq, bne_iff_ne, ne_eq, beq_iff_eq, beq_eq_false_iff_ne] at *)
        simp only [OpG, Num, HV.out, eq_self_iff_true, true_iff, false_iff, Bool.false_eq_true, and_true, and_false, not_false_eq_true, true_and, false_and, not_true_eq_false] <;> first | omega | decide)
  · have HV := hid (show ZV k n s ↔ False from ⟨fun h => hk h.1, fun h => h.elim⟩)
    go_enter Try.func39, Try.ntmps39
    go_wp2_with (first | (go_at_call 40; refine (number3_b _ _).mono ?_; rintro e w' ⟨⟨rfl, h2⟩ | ⟨rfl, h2⟩, rfl⟩ <;> ((first | (have hq := H1.out; clear hq; have H2 := hid h2) | have H1 := hid h2); clear h2)) | (go_at_call 43; refine (form_any (_, _, _) (by exact HS.out) _).mono ?_; rintro e w8 ⟨rfl, hk8⟩; have HK8 := hid hk8; clear hk8; rw [HFB.out]))
    all_goals go_ret
    all_goals exact SaysK.mk (by first | exact (Kept.refl _ _).alloc _ | exact ((Kept.refl _ _).alloc _).trans HK8.out | exact Kept.refl _ _ | exact HK8.out) (by
      (try have h1 := H1.out)
      (try have h2 := H2.out)
      (try simp only [bne_eq_false_iff_eq, bne_iff_ne, ne_eq, beq_iff_eq, beq_eq_false_iff_ne] at *)
      simp only [OpG, Num, HV.out, eq_self_iff_true, true_iff, false_iff, Bool.false_eq_true, and_true, and_false, not_false_eq_true, true_and, false_and, not_true_eq_false] <;> first | omega | decide)
set_option linter.unusedSimpArgs false in
set_option maxRecDepth 100000 in
set_option maxHeartbeats 2000000 in
theorem dop_3 (a b key k n : Int) (s : ByteArray) (hs : s.size ≤ 9223372036854775807) (w : World) : Calls Try.prog 39 #[.agg #[.int .u8 3, .int .u32 a, .int .u32 b, .int .u8 key, .int .u8 k, .int .i64 n, .string s]] w (SaysK (OpG false true true ⟨3, a, b, key, k, n, s⟩) w) := by
  have HS := hid hs
  clear hs
  obtain ⟨fb, hfb⟩ : ∃ fb, formB (k, n, s) = fb := ⟨_, rfl⟩
  have HFB := hid hfb
  clear hfb
  cases fb
  · have HV := hid (show VV k n s ↔ False by unfold VV; rw [HFB.out]; decide)
    go_enter Try.func39, Try.ntmps39
    go_wp2_with (first | (go_at_call 40; refine (number3_b _ _).mono ?_; rintro e w' ⟨⟨rfl, h2⟩ | ⟨rfl, h2⟩, rfl⟩ <;> ((first | (have hq := H1.out; clear hq; have H2 := hid h2) | have H1 := hid h2); clear h2)) | (go_at_call 43; refine (form_any (_, _, _) (by exact HS.out) _).mono ?_; rintro e w8 ⟨rfl, hk8⟩; have HK8 := hid hk8; clear hk8; rw [HFB.out]))
    all_goals go_ret
    all_goals exact SaysK.mk (by first | exact (Kept.refl _ _).alloc _ | exact ((Kept.refl _ _).alloc _).trans HK8.out | exact Kept.refl _ _ | exact HK8.out) (by
      (try have h1 := H1.out)
      (try have h2 := H2.out)
      (try simp only [bne_eq_false_iff_eq, bne_iff_ne, ne_eq, beq_iff_eq, beq_eq_false_iff_ne] at *)
      simp only [OpG, Num, HV.out, eq_self_iff_true, true_iff, false_iff, Bool.false_eq_true, and_true, and_false, not_false_eq_true, true_and, false_and, not_true_eq_false] <;> first | omega | decide)
  · have HV := hid (show VV k n s ↔ True by unfold VV; rw [HFB.out]; decide)
    go_enter Try.func39, Try.ntmps39
    go_wp2_with (first | (go_at_call 40; refine (number3_b _ _).mono ?_; rintro e w' ⟨⟨rfl, h2⟩ | ⟨rfl, h2⟩, rfl⟩ <;> ((first | (have hq := H1.out; clear hq; have H2 := hid h2) | have H1 := hid h2); clear h2)) | (go_at_call 43; refine (form_any (_, _, _) (by exact HS.out) _).mono ?_; rintro e w8 ⟨rfl, hk8⟩; have HK8 := hid hk8; clear hk8; rw [HFB.out]))
    all_goals go_ret
    all_goals exact SaysK.mk (by first | exact (Kept.refl _ _).alloc _ | exact ((Kept.refl _ _).alloc _).trans HK8.out | exact Kept.refl _ _ | exact HK8.out) (by
      (try have h1 := H1.out)
      (try have h2 := H2.out)
      (try simp only [bne_eq_false_iff_eq, bne_iff_ne, ne_eq, beq_iff_eq, beq_eq_false_iff_ne] at *)
      simp only [OpG, Num, HV.out, eq_self_iff_true, true_iff, false_iff, Bool.false_eq_true, and_true, and_false, not_false_eq_true, true_and, false_and, not_true_eq_false] <;> first | omega | decide)
set_option linter.unusedSimpArgs false in
set_option maxRecDepth 100000 in
set_option maxHeartbeats 2000000 in
theorem dop_4 (a b key k n : Int) (s : ByteArray) (w : World) : Calls Try.prog 39 #[.agg #[.int .u8 4, .int .u32 a, .int .u32 b, .int .u8 key, .int .u8 k, .int .i64 n, .string s]] w (SaysK (OpG false true false ⟨4, a, b, key, k, n, s⟩) w) := by
  by_cases hk : k = 0
  · by_cases hn : n = 0
    · by_cases hs : s = ⟨#[]⟩
      · subst hk; subst hn; subst hs
        have HV := hid (show ZV 0 0 ⟨#[]⟩ ↔ True from ⟨fun _ => trivial, fun _ => ⟨rfl, rfl, rfl⟩⟩)
        go_enter Try.func39, Try.ntmps39
        go_wp2_with (first | (go_at_call 40; refine (number3_b _ _).mono ?_; rintro e w' ⟨⟨rfl, h2⟩ | ⟨rfl, h2⟩, rfl⟩ <;> ((first | (have hq := H1.out; clear hq; have H2 := hid h2) | have H1 := hid h2); clear h2)) | (go_at_call 43; refine (form_any (_, _, _) (by exact HS.out) _).mono ?_; rintro e w8 ⟨rfl, hk8⟩; have HK8 := hid hk8; clear hk8; rw [HFB.out]))
        all_goals go_ret
        all_goals exact SaysK.mk (by first | exact (Kept.refl _ _).alloc _ | exact ((Kept.refl _ _).alloc _).trans HK8.out | exact Kept.refl _ _ | exact HK8.out) (by
          (try have h1 := H1.out)
          (try have h2 := H2.out)
          (try simp only [bne_eq_false_iff_eq, bne_iff_ne, ne_eq, beq_iff_eq, beq_eq_false_iff_ne] at *)
          simp only [OpG, Num, HV.out, eq_self_iff_true, true_iff, false_iff, Bool.false_eq_true, and_true, and_false, not_false_eq_true, true_and, false_and, not_true_eq_false] <;> first | omega | decide)
      · subst hk; subst hn
        have hs2 : ¬ s.toList = [] := fun h => hs ((nilS s).2 h)
        have HV := hid (show ZV 0 0 s ↔ False from ⟨fun h => hs h.2.2, fun h => h.elim⟩)
        go_enter Try.func39, Try.ntmps39
        go_wp2_with (first | (go_at_call 40; refine (number3_b _ _).mono ?_; rintro e w' ⟨⟨rfl, h2⟩ | ⟨rfl, h2⟩, rfl⟩ <;> ((first | (have hq := H1.out; clear hq; have H2 := hid h2) | have H1 := hid h2); clear h2)) | (go_at_call 43; refine (form_any (_, _, _) (by exact HS.out) _).mono ?_; rintro e w8 ⟨rfl, hk8⟩; have HK8 := hid hk8; clear hk8; rw [HFB.out]))
        all_goals go_ret
        all_goals exact SaysK.mk (by first | exact (Kept.refl _ _).alloc _ | exact ((Kept.refl _ _).alloc _).trans HK8.out | exact Kept.refl _ _ | exact HK8.out) (by
          (try have h1 := H1.out)
          (try have h2 := H2.out)
          (try simp only [bne_eq_false_iff_eq, bne_iff_ne, ne_eq, beq_iff_eq, beq_eq_false_iff_ne] at *)
          simp only [OpG, Num, HV.out, eq_self_iff_true, true_iff, false_iff, Bool.false_eq_true, and_true, and_false, not_false_eq_true, true_and, false_and, not_true_eq_false] <;> first | omega | decide)
    · subst hk
      have HV := hid (show ZV 0 n s ↔ False from ⟨fun h => hn h.2.1, fun h => h.elim⟩)
      go_enter Try.func39, Try.ntmps39
      go_wp2_with (first | (go_at_call 40; refine (number3_b _ _).mono ?_; rintro e w' ⟨⟨rfl, h2⟩ | ⟨rfl, h2⟩, rfl⟩ <;> ((first | (have hq := H1.out; clear hq; have H2 := hid h2) | have H1 := hid h2); clear h2)) | (go_at_call 43; refine (form_any (_, _, _) (by exact HS.out) _).mono ?_; rintro e w8 ⟨rfl, hk8⟩; have HK8 := hid hk8; clear hk8; rw [HFB.out]))
      all_goals go_ret
      all_goals exact SaysK.mk (by first | exact (Kept.refl _ _).alloc _ | exact ((Kept.refl _ _).alloc _).trans HK8.out | exact Kept.refl _ _ | exact HK8.out) (by
        (try have h1 := H1.out)
        (try have h2 := H2.out)
        (try simp only [bne_eq_false_iff_eq, bne_iff_ne, ne_eq, beq_iff_eq, beq_eq_false_iff_ne] at *)
        simp only [OpG, Num, HV.out, eq_self_iff_true, true_iff, false_iff, Bool.false_eq_true, and_true, and_false, not_false_eq_true, true_and, false_and, not_true_eq_false] <;> first | omega | decide)
  · have HV := hid (show ZV k n s ↔ False from ⟨fun h => hk h.1, fun h => h.elim⟩)
    go_enter Try.func39, Try.ntmps39
    go_wp2_with (first | (go_at_call 40; refine (number3_b _ _).mono ?_; rintro e w' ⟨⟨rfl, h2⟩ | ⟨rfl, h2⟩, rfl⟩ <;> ((first | (have hq := H1.out; clear hq; have H2 := hid h2) | have H1 := hid h2); clear h2)) | (go_at_call 43; refine (form_any (_, _, _) (by exact HS.out) _).mono ?_; rintro e w8 ⟨rfl, hk8⟩; have HK8 := hid hk8; clear hk8; rw [HFB.out]))
    all_goals go_ret
    all_goals exact SaysK.mk (by first | exact (Kept.refl _ _).alloc _ | exact ((Kept.refl _ _).alloc _).trans HK8.out | exact Kept.refl _ _ | exact HK8.out) (by
      (try have h1 := H1.out)
      (try have h2 := H2.out)
      (try simp only [bne_eq_false_iff_eq, bne_iff_ne, ne_eq, beq_iff_eq, beq_eq_false_iff_ne] at *)
      simp only [OpG, Num, HV.out, eq_self_iff_true, true_iff, false_iff, Bool.false_eq_true, and_true, and_false, not_false_eq_true, true_and, false_and, not_true_eq_false] <;> first | omega | decide)
set_option linter.unusedSimpArgs false in
set_option maxRecDepth 100000 in
set_option maxHeartbeats 2000000 in
theorem dop_5 (a b key k n : Int) (s : ByteArray) (hs : s.size ≤ 9223372036854775807) (w : World) : Calls Try.prog 39 #[.agg #[.int .u8 5, .int .u32 a, .int .u32 b, .int .u8 key, .int .u8 k, .int .i64 n, .string s]] w (SaysK (OpG true false true ⟨5, a, b, key, k, n, s⟩) w) := by
  have HS := hid hs
  clear hs
  obtain ⟨fb, hfb⟩ : ∃ fb, formB (k, n, s) = fb := ⟨_, rfl⟩
  have HFB := hid hfb
  clear hfb
  cases fb
  · have HV := hid (show VV k n s ↔ False by unfold VV; rw [HFB.out]; decide)
    go_enter Try.func39, Try.ntmps39
    go_wp2_with (first | (go_at_call 40; refine (number3_b _ _).mono ?_; rintro e w' ⟨⟨rfl, h2⟩ | ⟨rfl, h2⟩, rfl⟩ <;> ((first | (have hq := H1.out; clear hq; have H2 := hid h2) | have H1 := hid h2); clear h2)) | (go_at_call 43; refine (form_any (_, _, _) (by exact HS.out) _).mono ?_; rintro e w8 ⟨rfl, hk8⟩; have HK8 := hid hk8; clear hk8; rw [HFB.out]))
    all_goals go_ret
    all_goals exact SaysK.mk (by first | exact (Kept.refl _ _).alloc _ | exact ((Kept.refl _ _).alloc _).trans HK8.out | exact Kept.refl _ _ | exact HK8.out) (by
      (try have h1 := H1.out)
      (try have h2 := H2.out)
      (try simp only [bne_eq_false_iff_eq, bne_iff_ne, ne_eq, beq_iff_eq, beq_eq_false_iff_ne] at *)
      simp only [OpG, Num, HV.out, eq_self_iff_true, true_iff, false_iff, Bool.false_eq_true, and_true, and_false, not_false_eq_true, true_and, false_and, not_true_eq_false] <;> first | omega | decide)
  · have HV := hid (show VV k n s ↔ True by unfold VV; rw [HFB.out]; decide)
    go_enter Try.func39, Try.ntmps39
    go_wp2_with (first | (go_at_call 40; refine (number3_b _ _).mono ?_; rintro e w' ⟨⟨rfl, h2⟩ | ⟨rfl, h2⟩, rfl⟩ <;> ((first | (have hq := H1.out; clear hq; have H2 := hid h2) | have H1 := hid h2); clear h2)) | (go_at_call 43; refine (form_any (_, _, _) (by exact HS.out) _).mono ?_; rintro e w8 ⟨rfl, hk8⟩; have HK8 := hid hk8; clear hk8; rw [HFB.out]))
    all_goals go_ret
    all_goals exact SaysK.mk (by first | exact (Kept.refl _ _).alloc _ | exact ((Kept.refl _ _).alloc _).trans HK8.out | exact Kept.refl _ _ | exact HK8.out) (by
      (try have h1 := H1.out)
      (try have h2 := H2.out)
      (try simp only [bne_eq_false_iff_eq, bne_iff_ne, ne_eq, beq_iff_eq, beq_eq_false_iff_ne] at *)
      simp only [OpG, Num, HV.out, eq_self_iff_true, true_iff, false_iff, Bool.false_eq_true, and_true, and_false, not_false_eq_true, true_and, false_and, not_true_eq_false] <;> first | omega | decide)
set_option linter.unusedSimpArgs false in
set_option maxRecDepth 100000 in
set_option maxHeartbeats 2000000 in
theorem dop_6 (a b key k n : Int) (s : ByteArray) (w : World) : Calls Try.prog 39 #[.agg #[.int .u8 6, .int .u32 a, .int .u32 b, .int .u8 key, .int .u8 k, .int .i64 n, .string s]] w (SaysK (OpG true false false ⟨6, a, b, key, k, n, s⟩) w) := by
  by_cases hk : k = 0
  · by_cases hn : n = 0
    · by_cases hs : s = ⟨#[]⟩
      · subst hk; subst hn; subst hs
        have HV := hid (show ZV 0 0 ⟨#[]⟩ ↔ True from ⟨fun _ => trivial, fun _ => ⟨rfl, rfl, rfl⟩⟩)
        go_enter Try.func39, Try.ntmps39
        go_wp2_with (first | (go_at_call 40; refine (number3_b _ _).mono ?_; rintro e w' ⟨⟨rfl, h2⟩ | ⟨rfl, h2⟩, rfl⟩ <;> ((first | (have hq := H1.out; clear hq; have H2 := hid h2) | have H1 := hid h2); clear h2)) | (go_at_call 43; refine (form_any (_, _, _) (by exact HS.out) _).mono ?_; rintro e w8 ⟨rfl, hk8⟩; have HK8 := hid hk8; clear hk8; rw [HFB.out]))
        all_goals go_ret
        all_goals exact SaysK.mk (by first | exact (Kept.refl _ _).alloc _ | exact ((Kept.refl _ _).alloc _).trans HK8.out | exact Kept.refl _ _ | exact HK8.out) (by
          (try have h1 := H1.out)
          (try have h2 := H2.out)
          (try simp only [bne_eq_false_iff_eq, bne_iff_ne, ne_eq, beq_iff_eq, beq_eq_false_iff_ne] at *)
          simp only [OpG, Num, HV.out, eq_self_iff_true, true_iff, false_iff, Bool.false_eq_true, and_true, and_false, not_false_eq_true, true_and, false_and, not_true_eq_false] <;> first | omega | decide)
      · subst hk; subst hn
        have hs2 : ¬ s.toList = [] := fun h => hs ((nilS s).2 h)
        have HV := hid (show ZV 0 0 s ↔ False from ⟨fun h => hs h.2.2, fun h => h.elim⟩)
        go_enter Try.func39, Try.ntmps39
        go_wp2_with (first | (go_at_call 40; refine (number3_b _ _).mono ?_; rintro e w' ⟨⟨rfl, h2⟩ | ⟨rfl, h2⟩, rfl⟩ <;> ((first | (have hq := H1.out; clear hq; have H2 := hid h2) | have H1 := hid h2); clear h2)) | (go_at_call 43; refine (form_any (_, _, _) (by exact HS.out) _).mono ?_; rintro e w8 ⟨rfl, hk8⟩; have HK8 := hid hk8; clear hk8; rw [HFB.out]))
        all_goals go_ret
        all_goals exact SaysK.mk (by first | exact (Kept.refl _ _).alloc _ | exact ((Kept.refl _ _).alloc _).trans HK8.out | exact Kept.refl _ _ | exact HK8.out) (by
          (try have h1 := H1.out)
          (try have h2 := H2.out)
          (try simp only [bne_eq_false_iff_eq, bne_iff_ne, ne_eq, beq_iff_eq, beq_eq_false_iff_ne] at *)
          simp only [OpG, Num, HV.out, eq_self_iff_true, true_iff, false_iff, Bool.false_eq_true, and_true, and_false, not_false_eq_true, true_and, false_and, not_true_eq_false] <;> first | omega | decide)
    · subst hk
      have HV := hid (show ZV 0 n s ↔ False from ⟨fun h => hn h.2.1, fun h => h.elim⟩)
      go_enter Try.func39, Try.ntmps39
      go_wp2_with (first | (go_at_call 40; refine (number3_b _ _).mono ?_; rintro e w' ⟨⟨rfl, h2⟩ | ⟨rfl, h2⟩, rfl⟩ <;> ((first | (have hq := H1.out; clear hq; have H2 := hid h2) | have H1 := hid h2); clear h2)) | (go_at_call 43; refine (form_any (_, _, _) (by exact HS.out) _).mono ?_; rintro e w8 ⟨rfl, hk8⟩; have HK8 := hid hk8; clear hk8; rw [HFB.out]))
      all_goals go_ret
      all_goals exact SaysK.mk (by first | exact (Kept.refl _ _).alloc _ | exact ((Kept.refl _ _).alloc _).trans HK8.out | exact Kept.refl _ _ | exact HK8.out) (by
        (try have h1 := H1.out)
        (try have h2 := H2.out)
        (try simp only [bne_eq_false_iff_eq, bne_iff_ne, ne_eq, beq_iff_eq, beq_eq_false_iff_ne] at *)
        simp only [OpG, Num, HV.out, eq_self_iff_true, true_iff, false_iff, Bool.false_eq_true, and_true, and_false, not_false_eq_true, true_and, false_and, not_true_eq_false] <;> first | omega | decide)
  · have HV := hid (show ZV k n s ↔ False from ⟨fun h => hk h.1, fun h => h.elim⟩)
    go_enter Try.func39, Try.ntmps39
    go_wp2_with (first | (go_at_call 40; refine (number3_b _ _).mono ?_; rintro e w' ⟨⟨rfl, h2⟩ | ⟨rfl, h2⟩, rfl⟩ <;> ((first | (have hq := H1.out; clear hq; have H2 := hid h2) | have H1 := hid h2); clear h2)) | (go_at_call 43; refine (form_any (_, _, _) (by exact HS.out) _).mono ?_; rintro e w8 ⟨rfl, hk8⟩; have HK8 := hid hk8; clear hk8; rw [HFB.out]))
    all_goals go_ret
    all_goals exact SaysK.mk (by first | exact (Kept.refl _ _).alloc _ | exact ((Kept.refl _ _).alloc _).trans HK8.out | exact Kept.refl _ _ | exact HK8.out) (by
      (try have h1 := H1.out)
      (try have h2 := H2.out)
      (try simp only [bne_eq_false_iff_eq, bne_iff_ne, ne_eq, beq_iff_eq, beq_eq_false_iff_ne] at *)
      simp only [OpG, Num, HV.out, eq_self_iff_true, true_iff, false_iff, Bool.false_eq_true, and_true, and_false, not_false_eq_true, true_and, false_and, not_true_eq_false] <;> first | omega | decide)
set_option linter.unusedSimpArgs false in
set_option maxRecDepth 100000 in
set_option maxHeartbeats 2000000 in
theorem dop_7 (a b key k n : Int) (s : ByteArray) (w : World) : Calls Try.prog 39 #[.agg #[.int .u8 7, .int .u32 a, .int .u32 b, .int .u8 key, .int .u8 k, .int .i64 n, .string s]] w (SaysK (OpG true false false ⟨7, a, b, key, k, n, s⟩) w) := by
  by_cases hk : k = 0
  · by_cases hn : n = 0
    · by_cases hs : s = ⟨#[]⟩
      · subst hk; subst hn; subst hs
        have HV := hid (show ZV 0 0 ⟨#[]⟩ ↔ True from ⟨fun _ => trivial, fun _ => ⟨rfl, rfl, rfl⟩⟩)
        go_enter Try.func39, Try.ntmps39
        go_wp2_with (first | (go_at_call 40; refine (number3_b _ _).mono ?_; rintro e w' ⟨⟨rfl, h2⟩ | ⟨rfl, h2⟩, rfl⟩ <;> ((first | (have hq := H1.out; clear hq; have H2 := hid h2) | have H1 := hid h2); clear h2)) | (go_at_call 43; refine (form_any (_, _, _) (by exact HS.out) _).mono ?_; rintro e w8 ⟨rfl, hk8⟩; have HK8 := hid hk8; clear hk8; rw [HFB.out]))
        all_goals go_ret
        all_goals exact SaysK.mk (by first | exact (Kept.refl _ _).alloc _ | exact ((Kept.refl _ _).alloc _).trans HK8.out | exact Kept.refl _ _ | exact HK8.out) (by
          (try have h1 := H1.out)
          (try have h2 := H2.out)
          (try simp only [bne_eq_false_iff_eq, bne_iff_ne, ne_eq, beq_iff_eq, beq_eq_false_iff_ne] at *)
          simp only [OpG, Num, HV.out, eq_self_iff_true, true_iff, false_iff, Bool.false_eq_true, and_true, and_false, not_false_eq_true, true_and, false_and, not_true_eq_false] <;> first | omega | decide)
      · subst hk; subst hn
        have hs2 : ¬ s.toList = [] := fun h => hs ((nilS s).2 h)
        have HV := hid (show ZV 0 0 s ↔ False from ⟨fun h => hs h.2.2, fun h => h.elim⟩)
        go_enter Try.func39, Try.ntmps39
        go_wp2_with (first | (go_at_call 40; refine (number3_b _ _).mono ?_; rintro e w' ⟨⟨rfl, h2⟩ | ⟨rfl, h2⟩, rfl⟩ <;> ((first | (have hq := H1.out; clear hq; have H2 := hid h2) | have H1 := hid h2); clear h2)) | (go_at_call 43; refine (form_any (_, _, _) (by exact HS.out) _).mono ?_; rintro e w8 ⟨rfl, hk8⟩; have HK8 := hid hk8; clear hk8; rw [HFB.out]))
        all_goals go_ret
        all_goals exact SaysK.mk (by first | exact (Kept.refl _ _).alloc _ | exact ((Kept.refl _ _).alloc _).trans HK8.out | exact Kept.refl _ _ | exact HK8.out) (by
          (try have h1 := H1.out)
          (try have h2 := H2.out)
          (try simp only [bne_eq_false_iff_eq, bne_iff_ne, ne_eq, beq_iff_eq, beq_eq_false_iff_ne] at *)
          simp only [OpG, Num, HV.out, eq_self_iff_true, true_iff, false_iff, Bool.false_eq_true, and_true, and_false, not_false_eq_true, true_and, false_and, not_true_eq_false] <;> first | omega | decide)
    · subst hk
      have HV := hid (show ZV 0 n s ↔ False from ⟨fun h => hn h.2.1, fun h => h.elim⟩)
      go_enter Try.func39, Try.ntmps39
      go_wp2_with (first | (go_at_call 40; refine (number3_b _ _).mono ?_; rintro e w' ⟨⟨rfl, h2⟩ | ⟨rfl, h2⟩, rfl⟩ <;> ((first | (have hq := H1.out; clear hq; have H2 := hid h2) | have H1 := hid h2); clear h2)) | (go_at_call 43; refine (form_any (_, _, _) (by exact HS.out) _).mono ?_; rintro e w8 ⟨rfl, hk8⟩; have HK8 := hid hk8; clear hk8; rw [HFB.out]))
      all_goals go_ret
      all_goals exact SaysK.mk (by first | exact (Kept.refl _ _).alloc _ | exact ((Kept.refl _ _).alloc _).trans HK8.out | exact Kept.refl _ _ | exact HK8.out) (by
        (try have h1 := H1.out)
        (try have h2 := H2.out)
        (try simp only [bne_eq_false_iff_eq, bne_iff_ne, ne_eq, beq_iff_eq, beq_eq_false_iff_ne] at *)
        simp only [OpG, Num, HV.out, eq_self_iff_true, true_iff, false_iff, Bool.false_eq_true, and_true, and_false, not_false_eq_true, true_and, false_and, not_true_eq_false] <;> first | omega | decide)
  · have HV := hid (show ZV k n s ↔ False from ⟨fun h => hk h.1, fun h => h.elim⟩)
    go_enter Try.func39, Try.ntmps39
    go_wp2_with (first | (go_at_call 40; refine (number3_b _ _).mono ?_; rintro e w' ⟨⟨rfl, h2⟩ | ⟨rfl, h2⟩, rfl⟩ <;> ((first | (have hq := H1.out; clear hq; have H2 := hid h2) | have H1 := hid h2); clear h2)) | (go_at_call 43; refine (form_any (_, _, _) (by exact HS.out) _).mono ?_; rintro e w8 ⟨rfl, hk8⟩; have HK8 := hid hk8; clear hk8; rw [HFB.out]))
    all_goals go_ret
    all_goals exact SaysK.mk (by first | exact (Kept.refl _ _).alloc _ | exact ((Kept.refl _ _).alloc _).trans HK8.out | exact Kept.refl _ _ | exact HK8.out) (by
      (try have h1 := H1.out)
      (try have h2 := H2.out)
      (try simp only [bne_eq_false_iff_eq, bne_iff_ne, ne_eq, beq_iff_eq, beq_eq_false_iff_ne] at *)
      simp only [OpG, Num, HV.out, eq_self_iff_true, true_iff, false_iff, Bool.false_eq_true, and_true, and_false, not_false_eq_true, true_and, false_and, not_true_eq_false] <;> first | omega | decide)
set_option linter.unusedSimpArgs false in
set_option maxRecDepth 100000 in
set_option maxHeartbeats 2000000 in
theorem dop_8 (a b key k n : Int) (s : ByteArray) (w : World) : Calls Try.prog 39 #[.agg #[.int .u8 8, .int .u32 a, .int .u32 b, .int .u8 key, .int .u8 k, .int .i64 n, .string s]] w (SaysK (OpG false false false ⟨8, a, b, key, k, n, s⟩) w) := by
  by_cases hk : k = 0
  · by_cases hn : n = 0
    · by_cases hs : s = ⟨#[]⟩
      · subst hk; subst hn; subst hs
        have HV := hid (show ZV 0 0 ⟨#[]⟩ ↔ True from ⟨fun _ => trivial, fun _ => ⟨rfl, rfl, rfl⟩⟩)
        go_enter Try.func39, Try.ntmps39
        go_wp2_with (first | (go_at_call 40; refine (number3_b _ _).mono ?_; rintro e w' ⟨⟨rfl, h2⟩ | ⟨rfl, h2⟩, rfl⟩ <;> ((first | (have hq := H1.out; clear hq; have H2 := hid h2) | have H1 := hid h2); clear h2)) | (go_at_call 43; refine (form_any (_, _, _) (by exact HS.out) _).mono ?_; rintro e w8 ⟨rfl, hk8⟩; have HK8 := hid hk8; clear hk8; rw [HFB.out]))
        all_goals go_ret
        all_goals exact SaysK.mk (by first | exact (Kept.refl _ _).alloc _ | exact ((Kept.refl _ _).alloc _).trans HK8.out | exact Kept.refl _ _ | exact HK8.out) (by
          (try have h1 := H1.out)
          (try have h2 := H2.out)
          (try simp only [bne_eq_false_iff_eq, bne_iff_ne, ne_eq, beq_iff_eq, beq_eq_false_iff_ne] at *)
          simp only [OpG, Num, HV.out, eq_self_iff_true, true_iff, false_iff, Bool.false_eq_true, and_true, and_false, not_false_eq_true, true_and, false_and, not_true_eq_false] <;> first | omega | decide)
      · subst hk; subst hn
        have hs2 : ¬ s.toList = [] := fun h => hs ((nilS s).2 h)
        have HV := hid (show ZV 0 0 s ↔ False from ⟨fun h => hs h.2.2, fun h => h.elim⟩)
        go_enter Try.func39, Try.ntmps39
        go_wp2_with (first | (go_at_call 40; refine (number3_b _ _).mono ?_; rintro e w' ⟨⟨rfl, h2⟩ | ⟨rfl, h2⟩, rfl⟩ <;> ((first | (have hq := H1.out; clear hq; have H2 := hid h2) | have H1 := hid h2); clear h2)) | (go_at_call 43; refine (form_any (_, _, _) (by exact HS.out) _).mono ?_; rintro e w8 ⟨rfl, hk8⟩; have HK8 := hid hk8; clear hk8; rw [HFB.out]))
        all_goals go_ret
        all_goals exact SaysK.mk (by first | exact (Kept.refl _ _).alloc _ | exact ((Kept.refl _ _).alloc _).trans HK8.out | exact Kept.refl _ _ | exact HK8.out) (by
          (try have h1 := H1.out)
          (try have h2 := H2.out)
          (try simp only [bne_eq_false_iff_eq, bne_iff_ne, ne_eq, beq_iff_eq, beq_eq_false_iff_ne] at *)
          simp only [OpG, Num, HV.out, eq_self_iff_true, true_iff, false_iff, Bool.false_eq_true, and_true, and_false, not_false_eq_true, true_and, false_and, not_true_eq_false] <;> first | omega | decide)
    · subst hk
      have HV := hid (show ZV 0 n s ↔ False from ⟨fun h => hn h.2.1, fun h => h.elim⟩)
      go_enter Try.func39, Try.ntmps39
      go_wp2_with (first | (go_at_call 40; refine (number3_b _ _).mono ?_; rintro e w' ⟨⟨rfl, h2⟩ | ⟨rfl, h2⟩, rfl⟩ <;> ((first | (have hq := H1.out; clear hq; have H2 := hid h2) | have H1 := hid h2); clear h2)) | (go_at_call 43; refine (form_any (_, _, _) (by exact HS.out) _).mono ?_; rintro e w8 ⟨rfl, hk8⟩; have HK8 := hid hk8; clear hk8; rw [HFB.out]))
      all_goals go_ret
      all_goals exact SaysK.mk (by first | exact (Kept.refl _ _).alloc _ | exact ((Kept.refl _ _).alloc _).trans HK8.out | exact Kept.refl _ _ | exact HK8.out) (by
        (try have h1 := H1.out)
        (try have h2 := H2.out)
        (try simp only [bne_eq_false_iff_eq, bne_iff_ne, ne_eq, beq_iff_eq, beq_eq_false_iff_ne] at *)
        simp only [OpG, Num, HV.out, eq_self_iff_true, true_iff, false_iff, Bool.false_eq_true, and_true, and_false, not_false_eq_true, true_and, false_and, not_true_eq_false] <;> first | omega | decide)
  · have HV := hid (show ZV k n s ↔ False from ⟨fun h => hk h.1, fun h => h.elim⟩)
    go_enter Try.func39, Try.ntmps39
    go_wp2_with (first | (go_at_call 40; refine (number3_b _ _).mono ?_; rintro e w' ⟨⟨rfl, h2⟩ | ⟨rfl, h2⟩, rfl⟩ <;> ((first | (have hq := H1.out; clear hq; have H2 := hid h2) | have H1 := hid h2); clear h2)) | (go_at_call 43; refine (form_any (_, _, _) (by exact HS.out) _).mono ?_; rintro e w8 ⟨rfl, hk8⟩; have HK8 := hid hk8; clear hk8; rw [HFB.out]))
    all_goals go_ret
    all_goals exact SaysK.mk (by first | exact (Kept.refl _ _).alloc _ | exact ((Kept.refl _ _).alloc _).trans HK8.out | exact Kept.refl _ _ | exact HK8.out) (by
      (try have h1 := H1.out)
      (try have h2 := H2.out)
      (try simp only [bne_eq_false_iff_eq, bne_iff_ne, ne_eq, beq_iff_eq, beq_eq_false_iff_ne] at *)
      simp only [OpG, Num, HV.out, eq_self_iff_true, true_iff, false_iff, Bool.false_eq_true, and_true, and_false, not_false_eq_true, true_and, false_and, not_true_eq_false] <;> first | omega | decide)
set_option linter.unusedSimpArgs false in
set_option maxRecDepth 100000 in
set_option maxHeartbeats 2000000 in
theorem dop_9 (a b key k n : Int) (s : ByteArray) (hs : s.size ≤ 9223372036854775807) (w : World) : Calls Try.prog 39 #[.agg #[.int .u8 9, .int .u32 a, .int .u32 b, .int .u8 key, .int .u8 k, .int .i64 n, .string s]] w (SaysK (OpG false true true ⟨9, a, b, key, k, n, s⟩) w) := by
  have HS := hid hs
  clear hs
  obtain ⟨fb, hfb⟩ : ∃ fb, formB (k, n, s) = fb := ⟨_, rfl⟩
  have HFB := hid hfb
  clear hfb
  cases fb
  · have HV := hid (show VV k n s ↔ False by unfold VV; rw [HFB.out]; decide)
    go_enter Try.func39, Try.ntmps39
    go_wp2_with (first | (go_at_call 40; refine (number3_b _ _).mono ?_; rintro e w' ⟨⟨rfl, h2⟩ | ⟨rfl, h2⟩, rfl⟩ <;> ((first | (have hq := H1.out; clear hq; have H2 := hid h2) | have H1 := hid h2); clear h2)) | (go_at_call 43; refine (form_any (_, _, _) (by exact HS.out) _).mono ?_; rintro e w8 ⟨rfl, hk8⟩; have HK8 := hid hk8; clear hk8; rw [HFB.out]))
    all_goals go_ret
    all_goals exact SaysK.mk (by first | exact (Kept.refl _ _).alloc _ | exact ((Kept.refl _ _).alloc _).trans HK8.out | exact Kept.refl _ _ | exact HK8.out) (by
      (try have h1 := H1.out)
      (try have h2 := H2.out)
      (try simp only [bne_eq_false_iff_eq, bne_iff_ne, ne_eq, beq_iff_eq, beq_eq_false_iff_ne] at *)
      simp only [OpG, Num, HV.out, eq_self_iff_true, true_iff, false_iff, Bool.false_eq_true, and_true, and_false, not_false_eq_true, true_and, false_and, not_true_eq_false] <;> first | omega | decide)
  · have HV := hid (show VV k n s ↔ True by unfold VV; rw [HFB.out]; decide)
    go_enter Try.func39, Try.ntmps39
    go_wp2_with (first | (go_at_call 40; refine (number3_b _ _).mono ?_; rintro e w' ⟨⟨rfl, h2⟩ | ⟨rfl, h2⟩, rfl⟩ <;> ((first | (have hq := H1.out; clear hq; have H2 := hid h2) | have H1 := hid h2); clear h2)) | (go_at_call 43; refine (form_any (_, _, _) (by exact HS.out) _).mono ?_; rintro e w8 ⟨rfl, hk8⟩; have HK8 := hid hk8; clear hk8; rw [HFB.out]))
    all_goals go_ret
    all_goals exact SaysK.mk (by first | exact (Kept.refl _ _).alloc _ | exact ((Kept.refl _ _).alloc _).trans HK8.out | exact Kept.refl _ _ | exact HK8.out) (by
      (try have h1 := H1.out)
      (try have h2 := H2.out)
      (try simp only [bne_eq_false_iff_eq, bne_iff_ne, ne_eq, beq_iff_eq, beq_eq_false_iff_ne] at *)
      simp only [OpG, Num, HV.out, eq_self_iff_true, true_iff, false_iff, Bool.false_eq_true, and_true, and_false, not_false_eq_true, true_and, false_and, not_true_eq_false] <;> first | omega | decide)
set_option linter.unusedSimpArgs false in
set_option maxRecDepth 100000 in
set_option maxHeartbeats 2000000 in
theorem dop_no (kd a b key k n : Int) (s : ByteArray) (h : kd < 1 ∨ 9 < kd) (w : World) : Calls Try.prog 39 #[.agg #[.int .u8 kd, .int .u32 a, .int .u32 b, .int .u8 key, .int .u8 k, .int .i64 n, .string s]] w (SaysK False w) := by
  have n1 : (kd == 1) = false := by rw [beq_eq_false_iff_ne]; omega
  have n3 : (kd == 3) = false := by rw [beq_eq_false_iff_ne]; omega
  have n4 : (kd == 4) = false := by rw [beq_eq_false_iff_ne]; omega
  have n5 : (kd == 5) = false := by rw [beq_eq_false_iff_ne]; omega
  have n6 : (kd == 6) = false := by rw [beq_eq_false_iff_ne]; omega
  have n7 : (kd == 7) = false := by rw [beq_eq_false_iff_ne]; omega
  have n9 : (kd == 9) = false := by rw [beq_eq_false_iff_ne]; omega
  by_cases h1 : kd < 1
  · go_enter Try.func39, Try.ntmps39
    go_wp2
    go_ret
    exact SaysK.mk (by first | exact (Kept.refl _ _).alloc _ | exact Kept.refl _ _) (by simp)
  · have h9 : 9 < kd := by omega
    clear h
    go_enter Try.func39, Try.ntmps39
    go_wp2
    go_ret
    exact SaysK.mk (by first | exact (Kept.refl _ _).alloc _ | exact Kept.refl _ _) (by simp)
theorem dop_is (x : O) (hs : x.s.size ≤ 9223372036854775807) (w : World) : Calls Try.prog 39 #[.agg (ocell x).toArray] w (SaysK (OpF x) w) := by
  obtain ⟨kd, a, b, key, k, n, s⟩ := x
  unfold ocell
  by_cases h : kd < 1 ∨ 9 < kd
  · exact (dop_no kd a b key k n s h w).mono fun e w' hh => hh.imp (by simp [OpF]; omega)
  · have h' : kd = 1 ∨ kd = 2 ∨ kd = 3 ∨ kd = 4 ∨ kd = 5 ∨ kd = 6 ∨ kd = 7 ∨ kd = 8 ∨ kd = 9 := by omega
    clear h
    rcases h' with rfl | rfl | rfl | rfl | rfl | rfl | rfl | rfl | rfl
    · exact (dop_1 a b key k n s w).mono fun e w' h => h.imp (by simp [OpF])
    · exact (dop_2 a b key k n s w).mono fun e w' h => h.imp (by simp [OpF])
    · exact (dop_3 a b key k n s hs w).mono fun e w' h => h.imp (by simp [OpF])
    · exact (dop_4 a b key k n s w).mono fun e w' h => h.imp (by simp [OpF])
    · exact (dop_5 a b key k n s hs w).mono fun e w' h => h.imp (by simp [OpF])
    · exact (dop_6 a b key k n s w).mono fun e w' h => h.imp (by simp [OpF])
    · exact (dop_7 a b key k n s w).mono fun e w' h => h.imp (by simp [OpF])
    · exact (dop_8 a b key k n s w).mono fun e w' h => h.imp (by simp [OpF])
    · exact (dop_9 a b key k n s hs w).mono fun e w' h => h.imp (by simp [OpF])
end Go.Proofs.Ytnlbdlbinoebgaa
