/- Operations and requests in form, exactly. -/
import Derived.Test.YtnlbdlbinoebgaaT
namespace Go.Proofs.Ytnlbdlbinoebgaa
open Go.RowKit
def Num (v : Int) : Prop := 1 ≤ v ∧ v ≤ 40
/-- a bool that says P; nothing turned -/
def SaysB (P : Prop) (w : World) (e : Ending) (w' : World) : Prop := ∃ b : Bool, e = .returned (.bool b) ∧ (b = true ↔ P) ∧ w = w'
def SaysK (P : Prop) (w : World) (e : Ending) (w' : World) : Prop := ∃ b : Bool, e = .returned (.bool b) ∧ (b = true ↔ P) ∧ Kept (fun _ => False) w w'
theorem SaysB.mk {P : Prop} {w : World} {b : Bool} (h : b = true ↔ P) : SaysB P w (.returned (.bool b)) w := ⟨b, rfl, h, rfl⟩
theorem SaysK.mk {P : Prop} {w w' : World} {b : Bool} (k : Kept (fun _ => False) w w') (h : b = true ↔ P) : SaysK P w (.returned (.bool b)) w' := ⟨b, rfl, h, k⟩
set_option maxHeartbeats 1000000 in
theorem number_is (v : Int) (w : World) : Calls Try.prog 32 #[.int .u32 v] w (SaysB (Num v) w) := by
  go_enter Try.func32, Try.ntmps32
  go_wp2
  all_goals
    go_ret
    refine SaysB.mk ?_
    unfold Num
    try simp
    try omega
set_option maxHeartbeats 1000000 in
theorem number3_is (v : Int) (w : World) : Calls Try.prog 40 #[.int .u32 v] w (SaysB (Num v) w) := by
  go_enter Try.func40, Try.ntmps40
  go_wp2
  all_goals
    go_ret
    refine SaysB.mk ?_
    unfold Num
    try simp
    try omega
/-- uses at a known kind -/
theorem uses_1 (w : World) : Calls Try.prog 41 #[.int .u8 1] w fun e w' => e = .returned (.tuple #[.bool false, .bool false, .bool false, .bool true]) ∧ w = w' := by
  go_enter Try.func41, Try.ntmps41
  go_wp2
  go_returns
  exact ⟨rfl, rfl⟩
theorem uses_2 (w : World) : Calls Try.prog 41 #[.int .u8 2] w fun e w' => e = .returned (.tuple #[.bool false, .bool false, .bool false, .bool true]) ∧ w = w' := by
  go_enter Try.func41, Try.ntmps41
  go_wp2
  go_returns
  exact ⟨rfl, rfl⟩
theorem uses_3 (w : World) : Calls Try.prog 41 #[.int .u8 3] w fun e w' => e = .returned (.tuple #[.bool false, .bool true, .bool true, .bool true]) ∧ w = w' := by
  go_enter Try.func41, Try.ntmps41
  go_wp2
  go_returns
  exact ⟨rfl, rfl⟩
theorem uses_4 (w : World) : Calls Try.prog 41 #[.int .u8 4] w fun e w' => e = .returned (.tuple #[.bool false, .bool true, .bool false, .bool true]) ∧ w = w' := by
  go_enter Try.func41, Try.ntmps41
  go_wp2
  go_returns
  exact ⟨rfl, rfl⟩
theorem uses_5 (w : World) : Calls Try.prog 41 #[.int .u8 5] w fun e w' => e = .returned (.tuple #[.bool true, .bool false, .bool true, .bool true]) ∧ w = w' := by
  go_enter Try.func41, Try.ntmps41
  go_wp2
  go_returns
  exact ⟨rfl, rfl⟩
theorem uses_6 (w : World) : Calls Try.prog 41 #[.int .u8 6] w fun e w' => e = .returned (.tuple #[.bool true, .bool false, .bool false, .bool true]) ∧ w = w' := by
  go_enter Try.func41, Try.ntmps41
  go_wp2
  go_returns
  exact ⟨rfl, rfl⟩
theorem uses_7 (w : World) : Calls Try.prog 41 #[.int .u8 7] w fun e w' => e = .returned (.tuple #[.bool true, .bool false, .bool false, .bool true]) ∧ w = w' := by
  go_enter Try.func41, Try.ntmps41
  go_wp2
  go_returns
  exact ⟨rfl, rfl⟩
theorem uses_8 (w : World) : Calls Try.prog 41 #[.int .u8 8] w fun e w' => e = .returned (.tuple #[.bool false, .bool false, .bool false, .bool true]) ∧ w = w' := by
  go_enter Try.func41, Try.ntmps41
  go_wp2
  go_returns
  exact ⟨rfl, rfl⟩
theorem uses_9 (w : World) : Calls Try.prog 41 #[.int .u8 9] w fun e w' => e = .returned (.tuple #[.bool false, .bool true, .bool true, .bool true]) ∧ w = w' := by
  go_enter Try.func41, Try.ntmps41
  go_wp2
  go_returns
  exact ⟨rfl, rfl⟩
set_option maxHeartbeats 1000000 in
theorem uses_no (k : Int) (h : k < 1 ∨ 9 < k) (w : World) : Calls Try.prog 41 #[.int .u8 k] w fun e w' => e = .returned (.tuple #[.bool false, .bool false, .bool false, .bool false]) ∧ w = w' := by
  have n1 : ¬ k = 1 := by omega
  have n2 : ¬ k = 2 := by omega
  have n3 : ¬ k = 3 := by omega
  have n4 : ¬ k = 4 := by omega
  have n5 : ¬ k = 5 := by omega
  have n6 : ¬ k = 6 := by omega
  have n7 : ¬ k = 7 := by omega
  have n8 : ¬ k = 8 := by omega
  have n9 : ¬ k = 9 := by omega
  go_enter Try.func41, Try.ntmps41
  go_wp2
  go_returns
  exact ⟨rfl, rfl⟩
theorem nilS (s : ByteArray) : s = ⟨#[]⟩ ↔ s.toList = [] := by
  rw [ByteArray.toList_eq]
  exact ⟨fun h => by rw [h], fun h => toList_inj (by rw [h])⟩
theorem check_x (k n : Int) (s : ByteArray) (hs : s.size ≤ 9223372036854775807) (w : World) : Calls Try.prog 42 #[.agg #[.int .u8 k, .int .i64 n, .string s]] w fun e w' => ∃ c : Int, e = .returned (.int .i64 c) ∧ ((c = 0 ∧ formB (k, n, s) = true) ∨ (c = 3 ∧ formB (k, n, s) = false)) ∧ Kept (fun _ => False) w w' := by
  refine (check_any (k, n, s) hs w).mono ?_
  rintro e w' ⟨rfl, hk⟩
  refine ⟨_, rfl, ?_, hk⟩
  cases formB (k, n, s)
  · exact .inr ⟨rfl, rfl⟩
  · exact .inl ⟨rfl, rfl⟩
theorem number_b (v : Int) (w : World) : Calls Try.prog 32 #[.int .u32 v] w fun e w' => ((e = .returned (.bool true) ∧ 1 ≤ v ∧ v ≤ 40) ∨ (e = .returned (.bool false) ∧ ¬ (1 ≤ v ∧ v ≤ 40))) ∧ w = w' := by
  refine (number_is v w).mono ?_
  rintro e w' ⟨b, rfl, hb, rfl⟩
  refine ⟨?_, rfl⟩
  cases b
  · exact .inr ⟨rfl, fun h => nomatch hb.2 h⟩
  · exact .inl ⟨rfl, hb.1 rfl⟩
theorem number3_b (v : Int) (w : World) : Calls Try.prog 40 #[.int .u32 v] w fun e w' => ((e = .returned (.bool true) ∧ 1 ≤ v ∧ v ≤ 40) ∨ (e = .returned (.bool false) ∧ ¬ (1 ≤ v ∧ v ≤ 40))) ∧ w = w' := by
  refine (number3_is v w).mono ?_
  rintro e w' ⟨b, rfl, hb, rfl⟩
  refine ⟨?_, rfl⟩
  cases b
  · exact .inr ⟨rfl, fun h => nomatch hb.2 h⟩
  · exact .inl ⟨rfl, hb.1 rfl⟩
def ZV (k n : Int) (s : ByteArray) : Prop := k = 0 ∧ n = 0 ∧ s = ⟨#[]⟩
def VV (k n : Int) (s : ByteArray) : Prop := formB (k, n, s) = true
/-- in form, by what the kind has -/
def OpG (b key val : Bool) (x : O) : Prop := Num x.a ∧ (match b with | true => Num x.b ∧ x.a ≠ x.b | false => x.b = 0) ∧ (match key with | true => x.key ≤ 3 | false => x.key = 0) ∧ (match val with | true => VV x.k x.n x.s | false => ZV x.k x.n x.s)
set_option linter.unusedSimpArgs false in
set_option maxRecDepth 100000 in
set_option maxHeartbeats 2000000 in
theorem formed_fff (kd a b key k n : Int) (s : ByteArray) (hu : ∀ w, Calls Try.prog 41 #[.int .u8 kd] w fun e w' => e = .returned (.tuple #[.bool false, .bool false, .bool false, .bool true]) ∧ w = w') (w : World) : Calls Try.prog 38 #[.agg #[.int .u8 kd, .int .u32 a, .int .u32 b, .int .u8 key, .int .u8 k, .int .i64 n, .string s]] w (SaysK (OpG false false false ⟨kd, a, b, key, k, n, s⟩) w) := by
  have HU := hid hu
  clear hu
  by_cases hk : k = 0
  · by_cases hn : n = 0
    · by_cases hs : s = ⟨#[]⟩
      · subst hk; subst hn; subst hs
        have HV := hid (show ZV 0 0 ⟨#[]⟩ ↔ True from ⟨fun _ => trivial, fun _ => ⟨rfl, rfl, rfl⟩⟩)
        have HS := hid (show (⟨#[]⟩ : ByteArray).size ≤ 9223372036854775807 by decide)
        have HFB := hid (show formB (0, 0, ⟨#[]⟩) = true by rfl)
        go_enter Try.func38, Try.ntmps38
        go_wp2_with fail
        refine (HU.out _).mono ?_
        rintro e w' ⟨rfl, rfl⟩
        go_wp2_with fail
        refine (number_b _ _).mono ?_
        rintro e w' ⟨⟨rfl, h1⟩ | ⟨rfl, h1⟩, rfl⟩
        · have H1 := hid h1
          clear h1
          go_wp2_with (first | (go_at_call 32; refine (number_b _ _).mono ?_; rintro e w' ⟨⟨rfl, h2⟩ | ⟨rfl, h2⟩, rfl⟩ <;> (have H2 := hid h2; clear h2)) | (go_at_call 42; refine (check_any (_, _, _) (by exact HS.out) _).mono ?_; rintro e w8 ⟨rfl, hk8⟩; have HK8 := hid hk8; clear hk8; rw [HFB.out]))
          all_goals go_ret
          all_goals exact SaysK.mk (by first | exact (Kept.refl _ _).alloc _ | exact ((Kept.refl _ _).alloc _).trans HK8.out) (by
            have h1 := H1.out
            (try have h2 := H2.out)
            (try simp only [bne_eq_false_iff_eq, bne_iff_ne, ne_eq, beq_iff_eq, beq_eq_false_iff_ne] at *)
            simp only [OpG, chkV, if_true, if_false, beq_self_eq_true, (show ((3 : Int) == 0) = false from rfl), Num, HV.out, eq_self_iff_true, true_iff, false_iff, Bool.false_eq_true, and_true, and_false, not_false_eq_true, true_and, false_and, not_true_eq_false] <;> first | omega | decide)
        · have H1 := hid h1
          clear h1
          go_wp2
          go_ret
          exact SaysK.mk ((Kept.refl _ _).alloc _) (by
            have h1 := H1.out
            simp only [OpG, Num, Bool.false_eq_true, false_iff]
            exact fun h => h1 h.1)
      · subst hk; subst hn
        have hs2 : ¬ s.toList = [] := fun h => hs ((nilS s).2 h)
        have HV := hid (show ZV 0 0 s ↔ False from ⟨fun h => hs h.2.2, fun h => h.elim⟩)
        go_enter Try.func38, Try.ntmps38
        go_wp2_with fail
        refine (HU.out _).mono ?_
        rintro e w' ⟨rfl, rfl⟩
        go_wp2_with fail
        refine (number_b _ _).mono ?_
        rintro e w' ⟨⟨rfl, h1⟩ | ⟨rfl, h1⟩, rfl⟩
        · have H1 := hid h1
          clear h1
          go_wp2_with (first | (go_at_call 32; refine (number_b _ _).mono ?_; rintro e w' ⟨⟨rfl, h2⟩ | ⟨rfl, h2⟩, rfl⟩ <;> (have H2 := hid h2; clear h2)) | (go_at_call 42; refine (check_any (_, _, _) (by exact HS.out) _).mono ?_; rintro e w8 ⟨rfl, hk8⟩; have HK8 := hid hk8; clear hk8; rw [HFB.out]))
          all_goals go_ret
          all_goals exact SaysK.mk (by first | exact (Kept.refl _ _).alloc _ | exact ((Kept.refl _ _).alloc _).trans HK8.out) (by
            have h1 := H1.out
            (try have h2 := H2.out)
            (try simp only [bne_eq_false_iff_eq, bne_iff_ne, ne_eq, beq_iff_eq, beq_eq_false_iff_ne] at *)
            simp only [OpG, chkV, if_true, if_false, beq_self_eq_true, (show ((3 : Int) == 0) = false from rfl), Num, HV.out, eq_self_iff_true, true_iff, false_iff, Bool.false_eq_true, and_true, and_false, not_false_eq_true, true_and, false_and, not_true_eq_false] <;> first | omega | decide)
        · have H1 := hid h1
          clear h1
          go_wp2
          go_ret
          exact SaysK.mk ((Kept.refl _ _).alloc _) (by
            have h1 := H1.out
            simp only [OpG, Num, Bool.false_eq_true, false_iff]
            exact fun h => h1 h.1)
    · subst hk
      have HV := hid (show ZV 0 n s ↔ False from ⟨fun h => hn h.2.1, fun h => h.elim⟩)
      go_enter Try.func38, Try.ntmps38
      go_wp2_with fail
      refine (HU.out _).mono ?_
      rintro e w' ⟨rfl, rfl⟩
      go_wp2_with fail
      refine (number_b _ _).mono ?_
      rintro e w' ⟨⟨rfl, h1⟩ | ⟨rfl, h1⟩, rfl⟩
      · have H1 := hid h1
        clear h1
        go_wp2_with (first | (go_at_call 32; refine (number_b _ _).mono ?_; rintro e w' ⟨⟨rfl, h2⟩ | ⟨rfl, h2⟩, rfl⟩ <;> (have H2 := hid h2; clear h2)) | (go_at_call 42; refine (check_any (_, _, _) (by exact HS.out) _).mono ?_; rintro e w8 ⟨rfl, hk8⟩; have HK8 := hid hk8; clear hk8; rw [HFB.out]))
        all_goals go_ret
        all_goals exact SaysK.mk (by first | exact (Kept.refl _ _).alloc _ | exact ((Kept.refl _ _).alloc _).trans HK8.out) (by
          have h1 := H1.out
          (try have h2 := H2.out)
          (try simp only [bne_eq_false_iff_eq, bne_iff_ne, ne_eq, beq_iff_eq, beq_eq_false_iff_ne] at *)
          simp only [OpG, chkV, if_true, if_false, beq_self_eq_true, (show ((3 : Int) == 0) = false from rfl), Num, HV.out, eq_self_iff_true, true_iff, false_iff, Bool.false_eq_true, and_true, and_false, not_false_eq_true, true_and, false_and, not_true_eq_false] <;> first | omega | decide)
      · have H1 := hid h1
        clear h1
        go_wp2
        go_ret
        exact SaysK.mk ((Kept.refl _ _).alloc _) (by
          have h1 := H1.out
          simp only [OpG, Num, Bool.false_eq_true, false_iff]
          exact fun h => h1 h.1)
  · have HV := hid (show ZV k n s ↔ False from ⟨fun h => hk h.1, fun h => h.elim⟩)
    go_enter Try.func38, Try.ntmps38
    go_wp2_with fail
    refine (HU.out _).mono ?_
    rintro e w' ⟨rfl, rfl⟩
    go_wp2_with fail
    refine (number_b _ _).mono ?_
    rintro e w' ⟨⟨rfl, h1⟩ | ⟨rfl, h1⟩, rfl⟩
    · have H1 := hid h1
      clear h1
      go_wp2_with (first | (go_at_call 32; refine (number_b _ _).mono ?_; rintro e w' ⟨⟨rfl, h2⟩ | ⟨rfl, h2⟩, rfl⟩ <;> (have H2 := hid h2; clear h2)) | (go_at_call 42; refine (check_any (_, _, _) (by exact HS.out) _).mono ?_; rintro e w8 ⟨rfl, hk8⟩; have HK8 := hid hk8; clear hk8; rw [HFB.out]))
      all_goals go_ret
      all_goals exact SaysK.mk (by first | exact (Kept.refl _ _).alloc _ | exact ((Kept.refl _ _).alloc _).trans HK8.out) (by
        have h1 := H1.out
        (try have h2 := H2.out)
        (try simp only [bne_eq_false_iff_eq, bne_iff_ne, ne_eq, beq_iff_eq, beq_eq_false_iff_ne] at *)
        simp only [OpG, chkV, if_true, if_false, beq_self_eq_true, (show ((3 : Int) == 0) = false from rfl), Num, HV.out, eq_self_iff_true, true_iff, false_iff, Bool.false_eq_true, and_true, and_false, not_false_eq_true, true_and, false_and, not_true_eq_false] <;> first | omega | decide)
    · have H1 := hid h1
      clear h1
      go_wp2
      go_ret
      exact SaysK.mk ((Kept.refl _ _).alloc _) (by
        have h1 := H1.out
        simp only [OpG, Num, Bool.false_eq_true, false_iff]
        exact fun h => h1 h.1)
set_option linter.unusedSimpArgs false in
set_option maxRecDepth 100000 in
set_option maxHeartbeats 2000000 in
theorem formed_ftf (kd a b key k n : Int) (s : ByteArray) (hu : ∀ w, Calls Try.prog 41 #[.int .u8 kd] w fun e w' => e = .returned (.tuple #[.bool false, .bool true, .bool false, .bool true]) ∧ w = w') (w : World) : Calls Try.prog 38 #[.agg #[.int .u8 kd, .int .u32 a, .int .u32 b, .int .u8 key, .int .u8 k, .int .i64 n, .string s]] w (SaysK (OpG false true false ⟨kd, a, b, key, k, n, s⟩) w) := by
  have HU := hid hu
  clear hu
  by_cases hk : k = 0
  · by_cases hn : n = 0
    · by_cases hs : s = ⟨#[]⟩
      · subst hk; subst hn; subst hs
        have HV := hid (show ZV 0 0 ⟨#[]⟩ ↔ True from ⟨fun _ => trivial, fun _ => ⟨rfl, rfl, rfl⟩⟩)
        have HS := hid (show (⟨#[]⟩ : ByteArray).size ≤ 9223372036854775807 by decide)
        have HFB := hid (show formB (0, 0, ⟨#[]⟩) = true by rfl)
        go_enter Try.func38, Try.ntmps38
        go_wp2_with fail
        refine (HU.out _).mono ?_
        rintro e w' ⟨rfl, rfl⟩
        go_wp2_with fail
        refine (number_b _ _).mono ?_
        rintro e w' ⟨⟨rfl, h1⟩ | ⟨rfl, h1⟩, rfl⟩
        · have H1 := hid h1
          clear h1
          go_wp2_with (first | (go_at_call 32; refine (number_b _ _).mono ?_; rintro e w' ⟨⟨rfl, h2⟩ | ⟨rfl, h2⟩, rfl⟩ <;> (have H2 := hid h2; clear h2)) | (go_at_call 42; refine (check_any (_, _, _) (by exact HS.out) _).mono ?_; rintro e w8 ⟨rfl, hk8⟩; have HK8 := hid hk8; clear hk8; rw [HFB.out]))
          all_goals go_ret
          all_goals exact SaysK.mk (by first | exact (Kept.refl _ _).alloc _ | exact ((Kept.refl _ _).alloc _).trans HK8.out) (by
            have h1 := H1.out
            (try have h2 := H2.out)
            (try simp only [bne_eq_false_iff_eq, bne_iff_ne, ne_eq, beq_iff_eq, beq_eq_false_iff_ne] at *)
            simp only [OpG, chkV, if_true, if_false, beq_self_eq_true, (show ((3 : Int) == 0) = false from rfl), Num, HV.out, eq_self_iff_true, true_iff, false_iff, Bool.false_eq_true, and_true, and_false, not_false_eq_true, true_and, false_and, not_true_eq_false] <;> first | omega | decide)
        · have H1 := hid h1
          clear h1
          go_wp2
          go_ret
          exact SaysK.mk ((Kept.refl _ _).alloc _) (by
            have h1 := H1.out
            simp only [OpG, Num, Bool.false_eq_true, false_iff]
            exact fun h => h1 h.1)
      · subst hk; subst hn
        have hs2 : ¬ s.toList = [] := fun h => hs ((nilS s).2 h)
        have HV := hid (show ZV 0 0 s ↔ False from ⟨fun h => hs h.2.2, fun h => h.elim⟩)
        go_enter Try.func38, Try.ntmps38
        go_wp2_with fail
        refine (HU.out _).mono ?_
        rintro e w' ⟨rfl, rfl⟩
        go_wp2_with fail
        refine (number_b _ _).mono ?_
        rintro e w' ⟨⟨rfl, h1⟩ | ⟨rfl, h1⟩, rfl⟩
        · have H1 := hid h1
          clear h1
          go_wp2_with (first | (go_at_call 32; refine (number_b _ _).mono ?_; rintro e w' ⟨⟨rfl, h2⟩ | ⟨rfl, h2⟩, rfl⟩ <;> (have H2 := hid h2; clear h2)) | (go_at_call 42; refine (check_any (_, _, _) (by exact HS.out) _).mono ?_; rintro e w8 ⟨rfl, hk8⟩; have HK8 := hid hk8; clear hk8; rw [HFB.out]))
          all_goals go_ret
          all_goals exact SaysK.mk (by first | exact (Kept.refl _ _).alloc _ | exact ((Kept.refl _ _).alloc _).trans HK8.out) (by
            have h1 := H1.out
            (try have h2 := H2.out)
            (try simp only [bne_eq_false_iff_eq, bne_iff_ne, ne_eq, beq_iff_eq, beq_eq_false_iff_ne] at *)
            simp only [OpG, chkV, if_true, if_false, beq_self_eq_true, (show ((3 : Int) == 0) = false from rfl), Num, HV.out, eq_self_iff_true, true_iff, false_iff, Bool.false_eq_true, and_true, and_false, not_false_eq_true, true_and, false_and, not_true_eq_false] <;> first | omega | decide)
        · have H1 := hid h1
          clear h1
          go_wp2
          go_ret
          exact SaysK.mk ((Kept.refl _ _).alloc _) (by
            have h1 := H1.out
            simp only [OpG, Num, Bool.false_eq_true, false_iff]
            exact fun h => h1 h.1)
    · subst hk
      have HV := hid (show ZV 0 n s ↔ False from ⟨fun h => hn h.2.1, fun h => h.elim⟩)
      go_enter Try.func38, Try.ntmps38
      go_wp2_with fail
      refine (HU.out _).mono ?_
      rintro e w' ⟨rfl, rfl⟩
      go_wp2_with fail
      refine (number_b _ _).mono ?_
      rintro e w' ⟨⟨rfl, h1⟩ | ⟨rfl, h1⟩, rfl⟩
      · have H1 := hid h1
        clear h1
        go_wp2_with (first | (go_at_call 32; refine (number_b _ _).mono ?_; rintro e w' ⟨⟨rfl, h2⟩ | ⟨rfl, h2⟩, rfl⟩ <;> (have H2 := hid h2; clear h2)) | (go_at_call 42; refine (check_any (_, _, _) (by exact HS.out) _).mono ?_; rintro e w8 ⟨rfl, hk8⟩; have HK8 := hid hk8; clear hk8; rw [HFB.out]))
        all_goals go_ret
        all_goals exact SaysK.mk (by first | exact (Kept.refl _ _).alloc _ | exact ((Kept.refl _ _).alloc _).trans HK8.out) (by
          have h1 := H1.out
          (try have h2 := H2.out)
          (try simp only [bne_eq_false_iff_eq, bne_iff_ne, ne_eq, beq_iff_eq, beq_eq_false_iff_ne] at *)
          simp only [OpG, chkV, if_true, if_false, beq_self_eq_true, (show ((3 : Int) == 0) = false from rfl), Num, HV.out, eq_self_iff_true, true_iff, false_iff, Bool.false_eq_true, and_true, and_false, not_false_eq_true, true_and, false_and, not_true_eq_false] <;> first | omega | decide)
      · have H1 := hid h1
        clear h1
        go_wp2
        go_ret
        exact SaysK.mk ((Kept.refl _ _).alloc _) (by
          have h1 := H1.out
          simp only [OpG, Num, Bool.false_eq_true, false_iff]
          exact fun h => h1 h.1)
  · have HV := hid (show ZV k n s ↔ False from ⟨fun h => hk h.1, fun h => h.elim⟩)
    go_enter Try.func38, Try.ntmps38
    go_wp2_with fail
    refine (HU.out _).mono ?_
    rintro e w' ⟨rfl, rfl⟩
    go_wp2_with fail
    refine (number_b _ _).mono ?_
    rintro e w' ⟨⟨rfl, h1⟩ | ⟨rfl, h1⟩, rfl⟩
    · have H1 := hid h1
      clear h1
      go_wp2_with (first | (go_at_call 32; refine (number_b _ _).mono ?_; rintro e w' ⟨⟨rfl, h2⟩ | ⟨rfl, h2⟩, rfl⟩ <;> (have H2 := hid h2; clear h2)) | (go_at_call 42; refine (check_any (_, _, _) (by exact HS.out) _).mono ?_; rintro e w8 ⟨rfl, hk8⟩; have HK8 := hid hk8; clear hk8; rw [HFB.out]))
      all_goals go_ret
      all_goals exact SaysK.mk (by first | exact (Kept.refl _ _).alloc _ | exact ((Kept.refl _ _).alloc _).trans HK8.out) (by
        have h1 := H1.out
        (try have h2 := H2.out)
        (try simp only [bne_eq_false_iff_eq, bne_iff_ne, ne_eq, beq_iff_eq, beq_eq_false_iff_ne] at *)
        simp only [OpG, chkV, if_true, if_false, beq_self_eq_true, (show ((3 : Int) == 0) = false from rfl), Num, HV.out, eq_self_iff_true, true_iff, false_iff, Bool.false_eq_true, and_true, and_false, not_false_eq_true, true_and, false_and, not_true_eq_false] <;> first | omega | decide)
    · have H1 := hid h1
      clear h1
      go_wp2
      go_ret
      exact SaysK.mk ((Kept.refl _ _).alloc _) (by
        have h1 := H1.out
        simp only [OpG, Num, Bool.false_eq_true, false_iff]
        exact fun h => h1 h.1)
set_option linter.unusedSimpArgs false in
set_option maxRecDepth 100000 in
set_option maxHeartbeats 2000000 in
theorem formed_tff (kd a b key k n : Int) (s : ByteArray) (hu : ∀ w, Calls Try.prog 41 #[.int .u8 kd] w fun e w' => e = .returned (.tuple #[.bool true, .bool false, .bool false, .bool true]) ∧ w = w') (w : World) : Calls Try.prog 38 #[.agg #[.int .u8 kd, .int .u32 a, .int .u32 b, .int .u8 key, .int .u8 k, .int .i64 n, .string s]] w (SaysK (OpG true false false ⟨kd, a, b, key, k, n, s⟩) w) := by
  have HU := hid hu
  clear hu
  by_cases hk : k = 0
  · by_cases hn : n = 0
    · by_cases hs : s = ⟨#[]⟩
      · subst hk; subst hn; subst hs
        have HV := hid (show ZV 0 0 ⟨#[]⟩ ↔ True from ⟨fun _ => trivial, fun _ => ⟨rfl, rfl, rfl⟩⟩)
        have HS := hid (show (⟨#[]⟩ : ByteArray).size ≤ 9223372036854775807 by decide)
        have HFB := hid (show formB (0, 0, ⟨#[]⟩) = true by rfl)
        go_enter Try.func38, Try.ntmps38
        go_wp2_with fail
        refine (HU.out _).mono ?_
        rintro e w' ⟨rfl, rfl⟩
        go_wp2_with fail
        refine (number_b _ _).mono ?_
        rintro e w' ⟨⟨rfl, h1⟩ | ⟨rfl, h1⟩, rfl⟩
        · have H1 := hid h1
          clear h1
          go_wp2_with (first | (go_at_call 32; refine (number_b _ _).mono ?_; rintro e w' ⟨⟨rfl, h2⟩ | ⟨rfl, h2⟩, rfl⟩ <;> (have H2 := hid h2; clear h2)) | (go_at_call 42; refine (check_any (_, _, _) (by exact HS.out) _).mono ?_; rintro e w8 ⟨rfl, hk8⟩; have HK8 := hid hk8; clear hk8; rw [HFB.out]))
          all_goals go_ret
          all_goals exact SaysK.mk (by first | exact (Kept.refl _ _).alloc _ | exact ((Kept.refl _ _).alloc _).trans HK8.out) (by
            have h1 := H1.out
            (try have h2 := H2.out)
            (try simp only [bne_eq_false_iff_eq, bne_iff_ne, ne_eq, beq_iff_eq, beq_eq_false_iff_ne] at *)
            simp only [OpG, chkV, if_true, if_false, beq_self_eq_true, (show ((3 : Int) == 0) = false from rfl), Num, HV.out, eq_self_iff_true, true_iff, false_iff, Bool.false_eq_true, and_true, and_false, not_false_eq_true, true_and, false_and, not_true_eq_false] <;> first | omega | decide)
        · have H1 := hid h1
          clear h1
          go_wp2
          go_ret
          exact SaysK.mk ((Kept.refl _ _).alloc _) (by
            have h1 := H1.out
            simp only [OpG, Num, Bool.false_eq_true, false_iff]
            exact fun h => h1 h.1)
      · subst hk; subst hn
        have hs2 : ¬ s.toList = [] := fun h => hs ((nilS s).2 h)
        have HV := hid (show ZV 0 0 s ↔ False from ⟨fun h => hs h.2.2, fun h => h.elim⟩)
        go_enter Try.func38, Try.ntmps38
        go_wp2_with fail
        refine (HU.out _).mono ?_
        rintro e w' ⟨rfl, rfl⟩
        go_wp2_with fail
        refine (number_b _ _).mono ?_
        rintro e w' ⟨⟨rfl, h1⟩ | ⟨rfl, h1⟩, rfl⟩
        · have H1 := hid h1
          clear h1
          go_wp2_with (first | (go_at_call 32; refine (number_b _ _).mono ?_; rintro e w' ⟨⟨rfl, h2⟩ | ⟨rfl, h2⟩, rfl⟩ <;> (have H2 := hid h2; clear h2)) | (go_at_call 42; refine (check_any (_, _, _) (by exact HS.out) _).mono ?_; rintro e w8 ⟨rfl, hk8⟩; have HK8 := hid hk8; clear hk8; rw [HFB.out]))
          all_goals go_ret
          all_goals exact SaysK.mk (by first | exact (Kept.refl _ _).alloc _ | exact ((Kept.refl _ _).alloc _).trans HK8.out) (by
            have h1 := H1.out
            (try have h2 := H2.out)
            (try simp only [bne_eq_false_iff_eq, bne_iff_ne, ne_eq, beq_iff_eq, beq_eq_false_iff_ne] at *)
            simp only [OpG, chkV, if_true, if_false, beq_self_eq_true, (show ((3 : Int) == 0) = false from rfl), Num, HV.out, eq_self_iff_true, true_iff, false_iff, Bool.false_eq_true, and_true, and_false, not_false_eq_true, true_and, false_and, not_true_eq_false] <;> first | omega | decide)
        · have H1 := hid h1
          clear h1
          go_wp2
          go_ret
          exact SaysK.mk ((Kept.refl _ _).alloc _) (by
            have h1 := H1.out
            simp only [OpG, Num, Bool.false_eq_true, false_iff]
            exact fun h => h1 h.1)
    · subst hk
      have HV := hid (show ZV 0 n s ↔ False from ⟨fun h => hn h.2.1, fun h => h.elim⟩)
      go_enter Try.func38, Try.ntmps38
      go_wp2_with fail
      refine (HU.out _).mono ?_
      rintro e w' ⟨rfl, rfl⟩
      go_wp2_with fail
      refine (number_b _ _).mono ?_
      rintro e w' ⟨⟨rfl, h1⟩ | ⟨rfl, h1⟩, rfl⟩
      · have H1 := hid h1
        clear h1
        go_wp2_with (first | (go_at_call 32; refine (number_b _ _).mono ?_; rintro e w' ⟨⟨rfl, h2⟩ | ⟨rfl, h2⟩, rfl⟩ <;> (have H2 := hid h2; clear h2)) | (go_at_call 42; refine (check_any (_, _, _) (by exact HS.out) _).mono ?_; rintro e w8 ⟨rfl, hk8⟩; have HK8 := hid hk8; clear hk8; rw [HFB.out]))
        all_goals go_ret
        all_goals exact SaysK.mk (by first | exact (Kept.refl _ _).alloc _ | exact ((Kept.refl _ _).alloc _).trans HK8.out) (by
          have h1 := H1.out
          (try have h2 := H2.out)
          (try simp only [bne_eq_false_iff_eq, bne_iff_ne, ne_eq, beq_iff_eq, beq_eq_false_iff_ne] at *)
          simp only [OpG, chkV, if_true, if_false, beq_self_eq_true, (show ((3 : Int) == 0) = false from rfl), Num, HV.out, eq_self_iff_true, true_iff, false_iff, Bool.false_eq_true, and_true, and_false, not_false_eq_true, true_and, false_and, not_true_eq_false] <;> first | omega | decide)
      · have H1 := hid h1
        clear h1
        go_wp2
        go_ret
        exact SaysK.mk ((Kept.refl _ _).alloc _) (by
          have h1 := H1.out
          simp only [OpG, Num, Bool.false_eq_true, false_iff]
          exact fun h => h1 h.1)
  · have HV := hid (show ZV k n s ↔ False from ⟨fun h => hk h.1, fun h => h.elim⟩)
    go_enter Try.func38, Try.ntmps38
    go_wp2_with fail
    refine (HU.out _).mono ?_
    rintro e w' ⟨rfl, rfl⟩
    go_wp2_with fail
    refine (number_b _ _).mono ?_
    rintro e w' ⟨⟨rfl, h1⟩ | ⟨rfl, h1⟩, rfl⟩
    · have H1 := hid h1
      clear h1
      go_wp2_with (first | (go_at_call 32; refine (number_b _ _).mono ?_; rintro e w' ⟨⟨rfl, h2⟩ | ⟨rfl, h2⟩, rfl⟩ <;> (have H2 := hid h2; clear h2)) | (go_at_call 42; refine (check_any (_, _, _) (by exact HS.out) _).mono ?_; rintro e w8 ⟨rfl, hk8⟩; have HK8 := hid hk8; clear hk8; rw [HFB.out]))
      all_goals go_ret
      all_goals exact SaysK.mk (by first | exact (Kept.refl _ _).alloc _ | exact ((Kept.refl _ _).alloc _).trans HK8.out) (by
        have h1 := H1.out
        (try have h2 := H2.out)
        (try simp only [bne_eq_false_iff_eq, bne_iff_ne, ne_eq, beq_iff_eq, beq_eq_false_iff_ne] at *)
        simp only [OpG, chkV, if_true, if_false, beq_self_eq_true, (show ((3 : Int) == 0) = false from rfl), Num, HV.out, eq_self_iff_true, true_iff, false_iff, Bool.false_eq_true, and_true, and_false, not_false_eq_true, true_and, false_and, not_true_eq_false] <;> first | omega | decide)
    · have H1 := hid h1
      clear h1
      go_wp2
      go_ret
      exact SaysK.mk ((Kept.refl _ _).alloc _) (by
        have h1 := H1.out
        simp only [OpG, Num, Bool.false_eq_true, false_iff]
        exact fun h => h1 h.1)
set_option linter.unusedSimpArgs false in
set_option maxRecDepth 100000 in
set_option maxHeartbeats 2000000 in
theorem formed_ftt (kd a b key k n : Int) (s : ByteArray) (hs : s.size ≤ 9223372036854775807) (hu : ∀ w, Calls Try.prog 41 #[.int .u8 kd] w fun e w' => e = .returned (.tuple #[.bool false, .bool true, .bool true, .bool true]) ∧ w = w') (w : World) : Calls Try.prog 38 #[.agg #[.int .u8 kd, .int .u32 a, .int .u32 b, .int .u8 key, .int .u8 k, .int .i64 n, .string s]] w (SaysK (OpG false true true ⟨kd, a, b, key, k, n, s⟩) w) := by
  have HU := hid hu
  have HS := hid hs
  clear hu hs
  obtain ⟨fb, hfb⟩ : ∃ fb, formB (k, n, s) = fb := ⟨_, rfl⟩
  have HFB := hid hfb
  clear hfb
  cases fb
  · have HV := hid (show VV k n s ↔ False by unfold VV; rw [HFB.out]; decide)
    go_enter Try.func38, Try.ntmps38
    go_wp2_with fail
    refine (HU.out _).mono ?_
    rintro e w' ⟨rfl, rfl⟩
    go_wp2_with fail
    refine (number_b _ _).mono ?_
    rintro e w' ⟨⟨rfl, h1⟩ | ⟨rfl, h1⟩, rfl⟩
    · have H1 := hid h1
      clear h1
      go_wp2_with (first | (go_at_call 32; refine (number_b _ _).mono ?_; rintro e w' ⟨⟨rfl, h2⟩ | ⟨rfl, h2⟩, rfl⟩ <;> (have H2 := hid h2; clear h2)) | (go_at_call 42; refine (check_any (_, _, _) (by exact HS.out) _).mono ?_; rintro e w8 ⟨rfl, hk8⟩; have HK8 := hid hk8; clear hk8; rw [HFB.out]))
      all_goals go_ret
      all_goals exact SaysK.mk (by first | exact (Kept.refl _ _).alloc _ | exact ((Kept.refl _ _).alloc _).trans HK8.out) (by
        have h1 := H1.out
        (try have h2 := H2.out)
        (try simp only [bne_eq_false_iff_eq, bne_iff_ne, ne_eq, beq_iff_eq, beq_eq_false_iff_ne] at *)
        simp only [OpG, chkV, if_true, if_false, beq_self_eq_true, (show ((3 : Int) == 0) = false from rfl), Num, HV.out, eq_self_iff_true, true_iff, false_iff, Bool.false_eq_true, and_true, and_false, not_false_eq_true, true_and, false_and, not_true_eq_false] <;> first | omega | decide)
    · have H1 := hid h1
      clear h1
      go_wp2
      go_ret
      exact SaysK.mk ((Kept.refl _ _).alloc _) (by
        have h1 := H1.out
        simp only [OpG, Num, Bool.false_eq_true, false_iff]
        exact fun h => h1 h.1)
  · have HV := hid (show VV k n s ↔ True by unfold VV; rw [HFB.out]; decide)
    go_enter Try.func38, Try.ntmps38
    go_wp2_with fail
    refine (HU.out _).mono ?_
    rintro e w' ⟨rfl, rfl⟩
    go_wp2_with fail
    refine (number_b _ _).mono ?_
    rintro e w' ⟨⟨rfl, h1⟩ | ⟨rfl, h1⟩, rfl⟩
    · have H1 := hid h1
      clear h1
      go_wp2_with (first | (go_at_call 32; refine (number_b _ _).mono ?_; rintro e w' ⟨⟨rfl, h2⟩ | ⟨rfl, h2⟩, rfl⟩ <;> (have H2 := hid h2; clear h2)) | (go_at_call 42; refine (check_any (_, _, _) (by exact HS.out) _).mono ?_; rintro e w8 ⟨rfl, hk8⟩; have HK8 := hid hk8; clear hk8; rw [HFB.out]))
      all_goals go_ret
      all_goals exact SaysK.mk (by first | exact (Kept.refl _ _).alloc _ | exact ((Kept.refl _ _).alloc _).trans HK8.out) (by
        have h1 := H1.out
        (try have h2 := H2.out)
        (try simp only [bne_eq_false_iff_eq, bne_iff_ne, ne_eq, beq_iff_eq, beq_eq_false_iff_ne] at *)
        simp only [OpG, chkV, if_true, if_false, beq_self_eq_true, (show ((3 : Int) == 0) = false from rfl), Num, HV.out, eq_self_iff_true, true_iff, false_iff, Bool.false_eq_true, and_true, and_false, not_false_eq_true, true_and, false_and, not_true_eq_false] <;> first | omega | decide)
    · have H1 := hid h1
      clear h1
      go_wp2
      go_ret
      exact SaysK.mk ((Kept.refl _ _).alloc _) (by
        have h1 := H1.out
        simp only [OpG, Num, Bool.false_eq_true, false_iff]
        exact fun h => h1 h.1)
set_option linter.unusedSimpArgs false in
set_option maxRecDepth 100000 in
set_option maxHeartbeats 2000000 in
theorem formed_tft (kd a b key k n : Int) (s : ByteArray) (hs : s.size ≤ 9223372036854775807) (hu : ∀ w, Calls Try.prog 41 #[.int .u8 kd] w fun e w' => e = .returned (.tuple #[.bool true, .bool false, .bool true, .bool true]) ∧ w = w') (w : World) : Calls Try.prog 38 #[.agg #[.int .u8 kd, .int .u32 a, .int .u32 b, .int .u8 key, .int .u8 k, .int .i64 n, .string s]] w (SaysK (OpG true false true ⟨kd, a, b, key, k, n, s⟩) w) := by
  have HU := hid hu
  have HS := hid hs
  clear hu hs
  obtain ⟨fb, hfb⟩ : ∃ fb, formB (k, n, s) = fb := ⟨_, rfl⟩
  have HFB := hid hfb
  clear hfb
  cases fb
  · have HV := hid (show VV k n s ↔ False by unfold VV; rw [HFB.out]; decide)
    go_enter Try.func38, Try.ntmps38
    go_wp2_with fail
    refine (HU.out _).mono ?_
    rintro e w' ⟨rfl, rfl⟩
    go_wp2_with fail
    refine (number_b _ _).mono ?_
    rintro e w' ⟨⟨rfl, h1⟩ | ⟨rfl, h1⟩, rfl⟩
    · have H1 := hid h1
      clear h1
      go_wp2_with (first | (go_at_call 32; refine (number_b _ _).mono ?_; rintro e w' ⟨⟨rfl, h2⟩ | ⟨rfl, h2⟩, rfl⟩ <;> (have H2 := hid h2; clear h2)) | (go_at_call 42; refine (check_any (_, _, _) (by exact HS.out) _).mono ?_; rintro e w8 ⟨rfl, hk8⟩; have HK8 := hid hk8; clear hk8; rw [HFB.out]))
      all_goals go_ret
      all_goals exact SaysK.mk (by first | exact (Kept.refl _ _).alloc _ | exact ((Kept.refl _ _).alloc _).trans HK8.out) (by
        have h1 := H1.out
        (try have h2 := H2.out)
        (try simp only [bne_eq_false_iff_eq, bne_iff_ne, ne_eq, beq_iff_eq, beq_eq_false_iff_ne] at *)
        simp only [OpG, chkV, if_true, if_false, beq_self_eq_true, (show ((3 : Int) == 0) = false from rfl), Num, HV.out, eq_self_iff_true, true_iff, false_iff, Bool.false_eq_true, and_true, and_false, not_false_eq_true, true_and, false_and, not_true_eq_false] <;> first | omega | decide)
    · have H1 := hid h1
      clear h1
      go_wp2
      go_ret
      exact SaysK.mk ((Kept.refl _ _).alloc _) (by
        have h1 := H1.out
        simp only [OpG, Num, Bool.false_eq_true, false_iff]
        exact fun h => h1 h.1)
  · have HV := hid (show VV k n s ↔ True by unfold VV; rw [HFB.out]; decide)
    go_enter Try.func38, Try.ntmps38
    go_wp2_with fail
    refine (HU.out _).mono ?_
    rintro e w' ⟨rfl, rfl⟩
    go_wp2_with fail
    refine (number_b _ _).mono ?_
    rintro e w' ⟨⟨rfl, h1⟩ | ⟨rfl, h1⟩, rfl⟩
    · have H1 := hid h1
      clear h1
      go_wp2_with (first | (go_at_call 32; refine (number_b _ _).mono ?_; rintro e w' ⟨⟨rfl, h2⟩ | ⟨rfl, h2⟩, rfl⟩ <;> (have H2 := hid h2; clear h2)) | (go_at_call 42; refine (check_any (_, _, _) (by exact HS.out) _).mono ?_; rintro e w8 ⟨rfl, hk8⟩; have HK8 := hid hk8; clear hk8; rw [HFB.out]))
      all_goals go_ret
      all_goals exact SaysK.mk (by first | exact (Kept.refl _ _).alloc _ | exact ((Kept.refl _ _).alloc _).trans HK8.out) (by
        have h1 := H1.out
        (try have h2 := H2.out)
        (try simp only [bne_eq_false_iff_eq, bne_iff_ne, ne_eq, beq_iff_eq, beq_eq_false_iff_ne] at *)
        simp only [OpG, chkV, if_true, if_false, beq_self_eq_true, (show ((3 : Int) == 0) = false from rfl), Num, HV.out, eq_self_iff_true, true_iff, false_iff, Bool.false_eq_true, and_true, and_false, not_false_eq_true, true_and, false_and, not_true_eq_false] <;> first | omega | decide)
    · have H1 := hid h1
      clear h1
      go_wp2
      go_ret
      exact SaysK.mk ((Kept.refl _ _).alloc _) (by
        have h1 := H1.out
        simp only [OpG, Num, Bool.false_eq_true, false_iff]
        exact fun h => h1 h.1)
end Go.Proofs.Ytnlbdlbinoebgaa
