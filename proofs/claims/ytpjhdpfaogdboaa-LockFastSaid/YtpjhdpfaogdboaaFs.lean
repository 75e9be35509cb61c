/- PROVED: the law LockFast returns true for every input and leaves its arguments as they were. No condition. -/
import Derived.Test.YtpjhdpfaogdboaaAp
namespace Go.Proofs.Ytpjhdpfaogdboaa
set_option linter.unusedSimpArgs false
set_option linter.unusedVariables false
open Go.RowKit
set_option maxRecDepth 100000 in
set_option maxHeartbeats 8000000 in
theorem fast_walk (W : World) (args : Array Value) (h : RdAll Try.prog W Try.f7.params.toList args.toList) :
    Calls Try.prog 7 args W fun e W' => e = .returned (.bool true) ∧ Below W.heap.size W W' := by
  rw [Try.params7] at h
  obtain ⟨v0, v1, v2, rfl⟩ : ∃ v0 v1 v2, args = #[v0, v1, v2] := by
    rcases args with ⟨_ | ⟨v0, _ | ⟨v1, _ | ⟨v2, _ | ⟨v3, l⟩⟩⟩⟩⟩ <;> simp [RdAll] at h
    exact ⟨v0, v1, v2, rfl⟩
  obtain ⟨r0, r1, r2, _⟩ := h
  obtain ⟨a, N, cap, rfl, h1⟩ := r0.slice Try.underlying40
  obtain ⟨ops, hsc⟩ := scr_read h1
  obtain ⟨a2, N2, cap2, rfl, h2⟩ := r2.slice Try.underlying40
  obtain ⟨ops2, hsc2⟩ := scr_read h2
  obtain ⟨cs, rfl, hrd⟩ := r1.struct Try.underlying43
  obtain ⟨l6, -⟩ := hrd.struct Try.underlying43
  rw [cellsOp] at l6
  obtain ⟨⟨akd, ⟨s1, s2, s3⟩, aage, aws⟩, abo, abc, hae, haok⟩ := op_read l6 hrd
  obtain rfl : cs = #[.int .u8 akd, .int .u8 s1, .int .u32 s2, .int .u32 s3, .int .u64 aage, .slice abo aws.length abc] := by
    apply Array.ext'
    rw [hae]
    rfl
  have HNO := hid hsc.1
  have hNc := hsc.2.1
  have hcm := hsc.2.2.1
  have HNO2 := hid hsc2.1
  have hNc2 := hsc2.2.1
  have hcm2 := hsc2.2.2.1
  unfold maxLen at hcm hcm2
  obtain ⟨ab, hab⟩ : ∃ ab, W.heap.size = ab := ⟨_, rfl⟩
  obtain ⟨w0, hw0⟩ : ∃ w0, W.alloc (opRow akd s1 s2 s3 aage abo aws.length abc) = w0 := ⟨_, rfl⟩
  have k0 : Kept (fun _ => False) W w0 := by rw [← hw0]; exact (Kept.refl _ _).alloc _
  have AB := hid (show w0.heap[ab]? = some (opRow akd s1 s2 s3 aage abo aws.length abc) by rw [← hw0, ← hab]; exact row_new _ _)
  have SC := hid (hsc.kept k0 (fun _ _ h => h.elim)); have SC2 := hid (hsc2.kept k0 (fun _ _ h => h.elim)); have AOK := hid (haok.kept k0 (fun _ _ h => h.elim))
  have K0 := hid k0
  have HABW := hid hab
  unfold opRow at hw0
  have HW0 := hid hw0
  clear h1 h2 r0 r1 r2 hsc hsc2 hae haok l6 hrd k0 hab hw0
  go_enter Try.func7, Try.ntmps7
  go_wp2_with fail
  rw [HW0.out, HABW.out]
  refine (awake_any _).mono ?_; rintro e w1 ⟨rfl, hk1⟩
  have K1 := hid (K0.out.trans hk1)
  have K01 := hid hk1
  clear hk1 HW0
  go_wp2_with fail
  refine (new_x w1).mono ?_
  rintro e w3 ⟨tb, rfl, ht, hle, hk⟩
  have K3 := hid (K1.out.trans hk)
  have K02 := hid (K01.out.trans hk)
  have habl : ab < w1.heap.size := Nat.lt_of_lt_of_le (row_lt AB.out) K01.out.size
  obtain ⟨P, hP⟩ : ∃ P : Nat → Prop, (fun i => i < W.heap.size ∨ i = ab) = P := ⟨_, rfl⟩
  have HP1 := hid (show ∀ i, i < W.heap.size → P i from fun i hi => by rw [← hP]; exact .inl hi)
  have HPa := hid (show P ab by rw [← hP]; exact .inr rfl)
  have HPw := hid (show ∀ i, ¬ P i → W.heap.size ≤ i from fun i hi => by
    rcases Nat.lt_or_ge i W.heap.size with h | h
    · exact absurd (HP1.out i h) hi
    · exact h)
  have hwz := K1.out.size
  have T3 := hid (show TabX P w3 tb [] from ht.mono (fun i hi => by rw [← hP] at hi; omega))
  have S3 := hid ((SC.out.kept K02.out (fun _ _ h => h.elim)).mono (G := fun g => ¬ P g) (fun g hg => HPw.out g hg))
  have S32 := hid ((SC2.out.kept K02.out (fun _ _ h => h.elim)).mono (G := fun g => ¬ P g) (fun g hg => HPw.out g hg))
  have AO3 := hid (show OpOk (fun g => ¬ P g) w3 ⟨akd, (s1, s2, s3), aage, aws⟩ abo abc from ⟨(AOK.out.b.same K02.out).mono (fun g _ hg => HPw.out g hg), AOK.out.k, AOK.out.a, AOK.out.l, AOK.out.p⟩)
  have AB3 := hid ((K02.out.block _ (row_lt AB.out) id).trans AB.out)
  clear ht hle hk hwz K1 hP habl K01 K02 SC SC2 AOK AB K0
  go_upto_block 0 with fail
  go_cut [] from 8 to 48 (fun wx => ∃ L, Inv L ∧ L.length ≤ 40 ∧ TabX P wx tb L ∧ Kept (fun i => ¬ P i) w3 wx)
  case first =>
    go_wp2_with fail
    go_loopw [21] (fun i wr => ∃ (k : Nat) (L : List Ow), i = .int .i64 k ∧ k ≤ N ∧ k ≤ 40 ∧ runL false [] (ops.take k) = L ∧ TabX P wr tb L ∧ Kept (fun i => ¬ P i) w3 wr) (fun i _ => N - (RowKit.intOf i).toNat)
    case atStart => exact ⟨0, [], rfl, Nat.zero_le _, Nat.zero_le _, rfl, T3.out, Kept.refl _ _⟩
    case round =>
      rename World => wr
      clear T3
      obtain ⟨k, L, rfl, hk, hk80, hrl, ht, hkw⟩ := hrel
      have HRL := hid hrl; have TR := hid ht; have KR := hid hkw
      obtain ⟨hinv, hlen, -⟩ := run_all hrl
      have HIN := hid hinv
      have HLL := hid (show L.length ≤ 900000 by omega)
      have HCN := hid (cnt_ok hinv hlen (by omega))
      have HL80 := hid (show L.length ≤ 40 by omega)
      clear hrl ht hkw hinv hlen
      by_cases hlt : k < N
      · have hltI : (k : Int) < (N : Int) := by omega
        obtain ⟨x, hx⟩ : ∃ x, ops[k]? = some x := ⟨_, List.getElem?_eq_getElem (by rw [HNO.out]; exact hlt)⟩
        have HST := hid (run_take hx HRL.out)
        have S4 := hid (S3.out.kept KR.out (fun _ _ h => h))
        obtain ⟨b, off, bo, bc, rfl, c0, c1, c2, c3, c4, c5, hok⟩ := op_cells S4.out hx
        obtain ⟨kd, ⟨t1, t2, t3⟩, age, ws⟩ := x
        simp only at c0 c1 c2 c3 c4 c5
        obtain ⟨ob, hob⟩ : ∃ ob, wr.heap.size = ob := ⟨_, rfl⟩
        obtain ⟨w2, hw2⟩ : ∃ w2, wr.alloc (opRow kd t1 t2 t3 age bo ws.length bc) = w2 := ⟨_, rfl⟩
        have k2 : Kept (fun _ => False) wr w2 := by rw [← hw2]; exact (Kept.refl _ _).alloc _
        have OB := hid (show w2.heap[ob]? = some (opRow kd t1 t2 t3 age bo ws.length bc) by rw [← hw2, ← hob]; exact row_new _ _)
        have OK2 := hid (hok.kept k2 (fun _ _ h => h.elim))
        obtain ⟨z0, z1, z2, z3, z4, z5⟩ := cells6 (row_new wr (opRow kd t1 t2 t3 age bo ws.length bc))
        unfold opRow at hw2 z0 z1 z2 z3 z4 z5
        have HW2 := hid hw2; have HOB := hid hob
        clear hw2 hob
        have T2 := hid (TR.out.same k2)
        have K2 := hid k2
        clear hx hok k2
        by_cases h80 : k < 40
        · have h80D : decide ((40 : Int) ≤ (k : Int)) = false := by simp; omega
          rcases (show kd = 0 ∨ kd = 1 ∨ kd = 2 ∨ (kd ≠ 0 ∧ kd ≠ 1 ∧ kd ≠ 2) by omega) with rfl | rfl | rfl | ⟨n0, n1, n2⟩
          · have HSN := hid (HST.out.trans (stepL0 false L (t1, t2, t3) age ws))
            go_wp2_with fail
            try rw [HW2.out]
            try rw [HOB.out]
            clear HW2 HOB c0 c1 c2 c3 c4 c5 z0 z1 z2 z3 z4 z5
            obtain ⟨d0, d1, d2, d3, d4, d5⟩ := cells6 OB.out
            refine wp_region_till (fun w' : World => w'.cell? ⟨ob, 1, none⟩ = some (.int .u8 t1) ∧ w'.cell? ⟨ob, 2, none⟩ = some (.int .u32 t2) ∧ w'.cell? ⟨ob, 3, none⟩ = some (.int .u32 t3) ∧ w'.cell? ⟨ob, 4, none⟩ = some (.int .u64 age) ∧ w'.cell? ⟨ob, 5, none⟩ = some (.slice bo ws.length bc)) 9 (by kernel_rfl) (by exact ⟨d1, d2, d3, d4, d5⟩) (fun hHeld => ?_)
            refine till_pure 0 (some 32) (v := ?v3100) (by decide) rfl (by kernel_rfl) (by kernel_rfl) (by kernel_rfl) (by kernel_rfl) (by decide) (fun _ _ _ h => h) (Or.inl ⟨by rfl, ?y3100⟩) (by assumption) ?r3100
            case y3100 => (intro w hSw; clear hSw; go_simp; (try with_reducible rfl))
            simp only [Act.put, List.setIfInBounds_toArray, List.set_cons_zero, List.set_cons_succ]
            refine till_pure 1 (some 33) (v := ?v3101) (by decide) rfl (by kernel_rfl) (by kernel_rfl) (by kernel_rfl) (by kernel_rfl) (by decide) (fun _ _ _ h => h) (Or.inl ⟨by rfl, ?y3101⟩) (by assumption) ?r3101
            case y3101 => (intro w hSw; clear hSw; go_simp; (try with_reducible rfl))
            simp only [Act.put, List.setIfInBounds_toArray, List.set_cons_zero, List.set_cons_succ]
            refine till_load 2 (some 34) [] (v := ?v3102) (by decide) rfl (by kernel_rfl) (by kernel_rfl) (by kernel_rfl) (by kernel_rfl) (by kernel_rfl) (by decide) (by decide) (fun _ _ _ h => h) (Or.inl ⟨by rfl, ?y3102⟩) (by assumption) ?r3102
            case y3102 => (intro w hSw; (try dsimp only at hSw); go_simp; (try with_reducible rfl))
            simp only [Act.put, List.setIfInBounds_toArray, List.set_cons_zero, List.set_cons_succ]
            refine till_pure 3 (some 35) (v := ?v3103) (by decide) rfl (by kernel_rfl) (by kernel_rfl) (by kernel_rfl) (by kernel_rfl) (by decide) (fun _ _ _ h => h) (Or.inl ⟨by rfl, ?y3103⟩) (by assumption) ?r3103
            case y3103 => (intro w hSw; clear hSw; go_simp; (try with_reducible rfl))
            simp only [Act.put, List.setIfInBounds_toArray, List.set_cons_zero, List.set_cons_succ]
            refine till_load 4 (some 36) [] (v := ?v3104) (by decide) rfl (by kernel_rfl) (by kernel_rfl) (by kernel_rfl) (by kernel_rfl) (by kernel_rfl) (by decide) (by decide) (fun _ _ _ h => h) (Or.inl ⟨by rfl, ?y3104⟩) (by assumption) ?r3104
            case y3104 => (intro w hSw; (try dsimp only at hSw); go_simp; (try with_reducible rfl))
            simp only [Act.put, List.setIfInBounds_toArray, List.set_cons_zero, List.set_cons_succ]
            refine till_pure 6 (some 38) (v := ?v3106) (by decide) rfl (by kernel_rfl) (by kernel_rfl) (by kernel_rfl) (by kernel_rfl) (by decide) (fun _ _ _ h => h) (Or.inl ⟨by rfl, ?y3106⟩) (by assumption) ?r3106
            case y3106 => (intro w hSw; clear hSw; go_simp; (try with_reducible rfl))
            simp only [Act.put, List.setIfInBounds_toArray, List.set_cons_zero, List.set_cons_succ]
            refine till_load 7 (some 39) [8] (v := ?v3107) (by decide) rfl (by kernel_rfl) (by kernel_rfl) (by kernel_rfl) (by kernel_rfl) (by kernel_rfl) (by decide) (by decide) (fun _ _ _ h => h) (Or.inl ⟨by rfl, ?y3107⟩) (by assumption) ?r3107
            case y3107 => (intro w hSw; (try dsimp only at hSw); go_simp; (try with_reducible rfl))
            simp only [Act.put, List.setIfInBounds_toArray, List.set_cons_zero, List.set_cons_succ]
            refine till_call 5 (by kernel_rfl) rfl (fun K hK => ?_)
            go_simp
            have hS3 := sop_kept (((Kept.refl (fun _ => False) w2).drew).alloc (.cells #[] 36)) ⟨d1, d2, d3, d4, d5⟩
            try dsimp only []
            refine hK.out _ _ (by exact hS3) (fun hHeld => ?_)
            clear hK K
            try simp only [Act.put, List.setIfInBounds_toArray, List.set_cons_zero, List.set_cons_succ]
            refine till_call 8 (by kernel_rfl) rfl (fun K hK => ?_)
            refine step_appd (some 40) rfl (by rfl) (.tmp 37) (.tmp 39) 37 rfl 36 (.agg #[.int .u32 0, .int .u8 0]) 2 8 Try.underlying37 infoW rfl (by decide) (.slice (some ⟨w2.heap.size, 0, none⟩) 0 0) 0 [] rfl (by exact own_empty w2.drew 36 2) _ rfl ws.length (wcells ws) (by exact (OK2.out.b.same (((Kept.refl (fun _ => False) w2).drew).alloc (.cells #[] 36))).src) (by have := OK2.out.l; simp only [maxLen]; simp only at this; omega) (by have := OK2.out.l; simp only at this; omega) ?_
            intro a6 c6 w6 ho6 hk6 hf6 _
            simp only [Act.put, List.setIfInBounds_toArray, List.set_cons_zero, List.set_cons_succ]
            have k26 : Kept (fun _ => False) w2 w6 := (((Kept.refl (fun _ => False) w2).drew).alloc (.cells #[] 36)).trans' hk6 (fun i hi => by simp [Value.ownBlock] at hi; exact .inr (by omega))
            rw [Nat.zero_add, List.nil_append] at ho6
            rw [Nat.zero_add] at hf6 ⊢
            have hge : ∀ i, (Value.slice a6 ws.length c6).ownBlock = some i → w2.heap.size ≤ i := fun i hi => by
              rcases hf6 i hi with h | h
              · simp [Value.ownBlock] at h; omega
              · simp at h; omega
            have T6 := hid (T2.out.fresh (Q := fun i => P i ∨ (Value.slice a6 ws.length c6).ownBlock = some i) k26 (fun _ _ h => h.elim) (fun i hi => hi.imp id (fun h => ⟨hge i h, ho6.lt h⟩)))
            have L6 := hid (ho6.lies (F := fun i => ¬ (P i ∨ (Value.slice a6 ws.length c6).ownBlock = some i)) (wcells_one ws) (fun g hg h => h (.inr hg)))
            have hS6 := sop_kept k26 ⟨d1, d2, d3, d4, d5⟩
            have K26 := hid k26
            have HGE := hid hge
            try dsimp only []
            refine hK.out _ _ (by exact hS6) (fun hHeld => ?_)
            clear hK K
            try simp only [Act.put, List.setIfInBounds_toArray, List.set_cons_zero, List.set_cons_succ]
            refine till_list [] (by kernel_rfl) (by kernel_rfl) (by decide) (by decide) ?_
            simp only [pickOps, List.getElem?_toArray, List.getElem?_cons_zero, List.getElem?_cons_succ]
            clear hHeld hS3 hS6 ho6 hk6 hf6 k26 hge d1 d2 d3 d4 d5
            go_wp2_with fail
            refine (ask_x T6.out (t1, t2, t3) age (ws := ws) L6.out HCN.out HLL.out).mono ?_
            rintro e w7 ⟨v1, v2, rfl, -, -, ht7, hk7⟩
            have T7 := hid (ht7.mono (Q := P) (fun i hi => .inl (.inl hi)))
            have K27 := hid (show Kept (fun i => ¬ P i) w2 w7 from (K26.out.mono (fun _ _ h => h.elim)).trans' hk7 (fun i hi => .inl (fun hp => hi (.inl hp))))
            clear ht7 hk7 T6 L6 K26 HGE
            have KN := hid (KR.out.trans ((K2.out.mono (fun _ _ h => h.elim)).trans K27.out))
            go_wp2
            go_roundw
            case rel => exact ⟨k + 1, _, by go_num, by omega, by omega, HSN.out, T7.out, KN.out⟩
            case measure => (simp only [RowKit.intOf]; omega)
          · have HSN := hid (HST.out.trans (stepL1n L (t1, t2, t3) age ws))
            have KN := hid (KR.out.trans (K2.out.mono (fun _ _ h => h.elim)))
            go_wp2
            go_roundw
            case rel => exact ⟨k + 1, _, by go_num, by omega, by omega, HSN.out, by first | exact T2.out | (rw [HW2.out]; exact T2.out), by first | exact KN.out | (rw [HW2.out]; exact KN.out)⟩
            case measure => (simp only [RowKit.intOf]; omega)
          · have HSN := hid (HST.out.trans (stepL2 false L (t1, t2, t3) age ws))
            go_wp2_with fail
            try rw [HW2.out]
            try rw [HOB.out]
            clear HW2 HOB c0 c1 c2 c3 c4 c5 z0 z1 z2 z3 z4 z5
            obtain ⟨d0, d1, d2, d3, d4, d5⟩ := cells6 OB.out
            refine (rel_x T2.out (t1, t2, t3) (by have := HLL.out; omega)).mono ?_
            rintro e w7 ⟨v1, rfl, -, ht7, hk7⟩
            have T7 := hid (ht7.mono (Q := P) (fun i hi => .inl hi))
            have KN := hid (KR.out.trans ((K2.out.mono (fun _ _ h => h.elim)).trans hk7))
            clear ht7 hk7 d0 d1 d2 d3 d4 d5
            go_wp2
            go_roundw
            case rel => exact ⟨k + 1, _, by go_num, by omega, by omega, HSN.out, T7.out, KN.out⟩
            case measure => (simp only [RowKit.intOf]; omega)
          · have HSN := hid (HST.out.trans (stepLx n0 n1 n2))
            have KN := hid (KR.out.trans (K2.out.mono (fun _ _ h => h.elim)))
            have h0 : (kd == 0) = false := by simpa using n0
            have h2 : (kd == 2) = false := by simpa using n2
            clear n0 n1 n2
            go_wp2
            go_roundw
            case rel => exact ⟨k + 1, _, by go_num, by omega, by omega, HSN.out, by first | exact T2.out | (rw [HW2.out]; exact T2.out), by first | exact KN.out | (rw [HW2.out]; exact KN.out)⟩
            case measure => (simp only [RowKit.intOf]; omega)
        · have h80D : decide ((40 : Int) ≤ (k : Int)) = true := by simp; omega
          have KN := hid (KR.out.trans (K2.out.mono (fun _ _ h => h.elim)))
          go_wp2_with fail
          go_meet
          (try rw [HW2.out])
          exact ⟨L, HIN.out, HL80.out, T2.out, KN.out⟩
      · obtain rfl : k = N := by omega
        go_wp2_with fail
        go_meet
        exact ⟨L, HIN.out, HL80.out, TR.out, KR.out⟩
  case rest =>
    obtain ⟨L1, hinv, hlen, ht, hk⟩ := hcut
    rename World => wc
    have TC := hid ht; have KC := hid hk; have HI1 := hid hinv
    have HLL1 := hid (show L1.length ≤ 900000 by omega)
    have HCN1 := hid (cnt_ok hinv hlen (by omega))
    have HLN1 := hid hlen
    have ABC := hid ((hk.block ab (row_lt AB3.out) (fun h => h HPa.out)).trans AB3.out)
    have AOC := hid (AO3.out.kept hk (fun _ _ h => h))
    clear hinv hlen ht hk
    obtain ⟨d0, d1, d2, d3, d4, d5⟩ := cells6 ABC.out
    go_wp2_with fail
    refine wp_region_till (fun w' : World => w'.cell? ⟨ab, 1, none⟩ = some (.int .u8 s1) ∧ w'.cell? ⟨ab, 2, none⟩ = some (.int .u32 s2) ∧ w'.cell? ⟨ab, 3, none⟩ = some (.int .u32 s3) ∧ w'.cell? ⟨ab, 4, none⟩ = some (.int .u64 aage) ∧ w'.cell? ⟨ab, 5, none⟩ = some (.slice abo aws.length abc)) 16 (by kernel_rfl) (by exact ⟨d1, d2, d3, d4, d5⟩) (fun hHeld => ?_)
    refine till_pure 0 (some 50) (v := ?v7100) (by decide) rfl (by kernel_rfl) (by kernel_rfl) (by kernel_rfl) (by kernel_rfl) (by decide) (fun _ _ _ h => h) (Or.inl ⟨by rfl, ?y7100⟩) (by assumption) ?r7100
    case y7100 => (intro w hSw; clear hSw; go_simp; (try with_reducible rfl))
    simp only [Act.put, List.setIfInBounds_toArray, List.set_cons_zero, List.set_cons_succ]
    refine till_pure 1 (some 51) (v := ?v7101) (by decide) rfl (by kernel_rfl) (by kernel_rfl) (by kernel_rfl) (by kernel_rfl) (by decide) (fun _ _ _ h => h) (Or.inl ⟨by rfl, ?y7101⟩) (by assumption) ?r7101
    case y7101 => (intro w hSw; clear hSw; go_simp; (try with_reducible rfl))
    simp only [Act.put, List.setIfInBounds_toArray, List.set_cons_zero, List.set_cons_succ]
    refine till_load 2 (some 52) [13, 10, 9] (v := ?v7102) (by decide) rfl (by kernel_rfl) (by kernel_rfl) (by kernel_rfl) (by kernel_rfl) (by kernel_rfl) (by decide) (by decide) (fun _ _ _ h => h) (Or.inl ⟨by rfl, ?y7102⟩) (by assumption) ?r7102
    case y7102 => (intro w hSw; (try dsimp only at hSw); go_simp; (try with_reducible rfl))
    simp only [Act.put, List.setIfInBounds_toArray, List.set_cons_zero, List.set_cons_succ]
    refine till_pure 3 (some 53) (v := ?v7103) (by decide) rfl (by kernel_rfl) (by kernel_rfl) (by kernel_rfl) (by kernel_rfl) (by decide) (fun _ _ _ h => h) (Or.inl ⟨by rfl, ?y7103⟩) (by assumption) ?r7103
    case y7103 => (intro w hSw; clear hSw; go_simp; (try with_reducible rfl))
    simp only [Act.put, List.setIfInBounds_toArray, List.set_cons_zero, List.set_cons_succ]
    refine till_load 4 (some 54) [13, 10, 9] (v := ?v7104) (by decide) rfl (by kernel_rfl) (by kernel_rfl) (by kernel_rfl) (by kernel_rfl) (by kernel_rfl) (by decide) (by decide) (fun _ _ _ h => h) (Or.inl ⟨by rfl, ?y7104⟩) (by assumption) ?r7104
    case y7104 => (intro w hSw; (try dsimp only at hSw); go_simp; (try with_reducible rfl))
    simp only [Act.put, List.setIfInBounds_toArray, List.set_cons_zero, List.set_cons_succ]
    refine till_pure 6 (some 56) (v := ?v7106) (by decide) rfl (by kernel_rfl) (by kernel_rfl) (by kernel_rfl) (by kernel_rfl) (by decide) (fun _ _ _ h => h) (Or.inl ⟨by rfl, ?y7106⟩) (by assumption) ?r7106
    case y7106 => (intro w hSw; clear hSw; go_simp; (try with_reducible rfl))
    simp only [Act.put, List.setIfInBounds_toArray, List.set_cons_zero, List.set_cons_succ]
    refine till_load 7 (some 57) [13, 10, 9, 8] (v := ?v7107) (by decide) rfl (by kernel_rfl) (by kernel_rfl) (by kernel_rfl) (by kernel_rfl) (by kernel_rfl) (by decide) (by decide) (fun _ _ _ h => h) (Or.inl ⟨by rfl, ?y7107⟩) (by assumption) ?r7107
    case y7107 => (intro w hSw; (try dsimp only at hSw); go_simp; (try with_reducible rfl))
    simp only [Act.put, List.setIfInBounds_toArray, List.set_cons_zero, List.set_cons_succ]
    refine till_call 5 (by kernel_rfl) rfl (fun K hK => ?_)
    go_simp
    have hS3 := sop_kept (((Kept.refl (fun _ => False) wc).drew).alloc (.cells #[] 36)) ⟨d1, d2, d3, d4, d5⟩
    try dsimp only []
    refine hK.out _ _ (by exact hS3) (fun hHeld => ?_)
    clear hK K
    try simp only [Act.put, List.setIfInBounds_toArray, List.set_cons_zero, List.set_cons_succ]
    refine till_call 8 (by kernel_rfl) rfl (fun K hK => ?_)
    refine step_appd (some 58) rfl (by rfl) (.tmp 55) (.tmp 57) 37 rfl 36 (.agg #[.int .u32 0, .int .u8 0]) 2 8 Try.underlying37 infoW rfl (by decide) (.slice (some ⟨wc.heap.size, 0, none⟩) 0 0) 0 [] rfl (by exact own_empty wc.drew 36 2) _ rfl aws.length (wcells aws) (by exact (AOC.out.b.same (((Kept.refl (fun _ => False) wc).drew).alloc (.cells #[] 36))).src) (by have := AOC.out.l; simp only [maxLen]; simp only at this; omega) (by have := AOC.out.l; simp only at this; omega) ?_
    intro a6 c6 w6 ho6 hk6 hf6 _
    simp only [Act.put, List.setIfInBounds_toArray, List.set_cons_zero, List.set_cons_succ]
    have k26 : Kept (fun _ => False) wc w6 := (((Kept.refl (fun _ => False) wc).drew).alloc (.cells #[] 36)).trans' hk6 (fun i hi => by simp [Value.ownBlock] at hi; exact .inr (by omega))
    rw [Nat.zero_add, List.nil_append] at ho6
    rw [Nat.zero_add] at hf6 ⊢
    have hge : ∀ i, (Value.slice a6 aws.length c6).ownBlock = some i → wc.heap.size ≤ i := fun i hi => by
      rcases hf6 i hi with h | h
      · simp [Value.ownBlock] at h; omega
      · simp at h; omega
    have T6 := hid (TC.out.fresh (Q := fun i => P i ∨ (Value.slice a6 aws.length c6).ownBlock = some i) k26 (fun _ _ h => h.elim) (fun i hi => hi.imp id (fun h => ⟨hge i h, ho6.lt h⟩)))
    have L6 := hid (ho6.lies (F := fun i => ¬ (P i ∨ (Value.slice a6 aws.length c6).ownBlock = some i)) (wcells_one aws) (fun g hg h => h (.inr hg)))
    have hS6 := sop_kept k26 ⟨d1, d2, d3, d4, d5⟩
    have K26 := hid k26
    try dsimp only []
    refine hK.out _ _ (by exact hS6) (fun hHeld => ?_)
    clear hK K
    try simp only [Act.put, List.setIfInBounds_toArray, List.set_cons_zero, List.set_cons_succ]
    refine till_call 9 (by kernel_rfl) rfl (fun K hK => ?_)
    go_simp
    refine (ask_x T6.out (s1, s2, s3) aage (ws := aws) L6.out HCN1.out HLL1.out).mono ?_
    rintro e w7 ⟨v1, v2, rfl, -, -, ht7, hk7⟩
    have T7 := hid (ht7.mono (Q := P) (fun i hi => .inl (.inl hi)))
    have K27 := hid (show Kept (fun i => ¬ P i) wc w7 from (K26.out.mono (fun _ _ h => h.elim)).trans' hk7 (fun i hi => .inl (fun hp => hi (.inl hp))))
    have AB7 := hid ((K27.out.block ab (row_lt ABC.out) (fun h => h HPa.out)).trans ABC.out)
    obtain ⟨f0, f1, f2, f3, f4, f5⟩ := cells6 AB7.out
    clear hHeld hS3 hS6 ho6 hk6 hf6 k26 hge ht7 hk7 T6 L6 K26 d0 d1 d2 d3 d4 d5
    try dsimp only []
    refine hK.out _ _ (by exact ⟨f1, f2, f3, f4, f5⟩) (fun hHeld => ?_)
    clear hK K
    try simp only [Act.put, List.setIfInBounds_toArray, List.set_cons_zero, List.set_cons_succ]
    refine till_pure 10 (some 49) (v := ?v7110) (by decide) rfl (by kernel_rfl) (by kernel_rfl) (by kernel_rfl) (by kernel_rfl) (by decide) (fun _ _ _ h => h) (Or.inl ⟨by rfl, ?y7110⟩) (by assumption) ?r7110
    case y7110 => (intro w hSw; clear hSw; go_simp; (try with_reducible rfl))
    simp only [Act.put, List.setIfInBounds_toArray, List.set_cons_zero, List.set_cons_succ]
    refine till_pure 11 (some 60) (v := ?v7111) (by decide) rfl (by kernel_rfl) (by kernel_rfl) (by kernel_rfl) (by kernel_rfl) (by decide) (fun _ _ _ h => h) (Or.inl ⟨by rfl, ?y7111⟩) (by assumption) ?r7111
    case y7111 => (intro w hSw; clear hSw; go_simp; (try with_reducible rfl))
    simp only [Act.put, List.setIfInBounds_toArray, List.set_cons_zero, List.set_cons_succ]
    refine till_pure 12 (some 61) (v := ?v7112) (by decide) rfl (by kernel_rfl) (by kernel_rfl) (by kernel_rfl) (by kernel_rfl) (by decide) (fun _ _ _ h => h) (Or.inl ⟨by rfl, ?y7112⟩) (by assumption) ?r7112
    case y7112 => (intro w hSw; clear hSw; go_simp; (try with_reducible rfl))
    simp only [Act.put, List.setIfInBounds_toArray, List.set_cons_zero, List.set_cons_succ]
    refine till_pure 13 (some 62) (v := ?v7113) (by decide) rfl (by kernel_rfl) (by kernel_rfl) (by kernel_rfl) (by kernel_rfl) (by decide) (fun _ _ _ h => h) (Or.inl ⟨by rfl, ?y7113⟩) (by assumption) ?r7113
    case y7113 => (intro w hSw; clear hSw; go_simp; (try with_reducible rfl))
    simp only [Act.put, List.setIfInBounds_toArray, List.set_cons_zero, List.set_cons_succ]
    refine till_pure 14 (some 10) (v := ?v7114) (by decide) rfl (by kernel_rfl) (by kernel_rfl) (by kernel_rfl) (by kernel_rfl) (by decide) (fun _ _ _ h => h) (Or.inl ⟨by rfl, ?y7114⟩) (by assumption) ?r7114
    case y7114 => (intro w hSw; clear hSw; go_simp; (try with_reducible rfl))
    simp only [Act.put, List.setIfInBounds_toArray, List.set_cons_zero, List.set_cons_succ]
    refine till_pure 15 (some 11) (v := ?v7115) (by decide) rfl (by kernel_rfl) (by kernel_rfl) (by kernel_rfl) (by kernel_rfl) (by decide) (fun _ _ _ h => h) (Or.inl ⟨by rfl, ?y7115⟩) (by assumption) ?r7115
    case y7115 => (intro w hSw; clear hSw; go_simp; (try with_reducible rfl))
    simp only [Act.put, List.setIfInBounds_toArray, List.set_cons_zero, List.set_cons_succ]
    refine till_list [] (by kernel_rfl) (by kernel_rfl) (by decide) (by decide) ?_
    simp only [pickOps, List.getElem?_toArray, List.getElem?_cons_zero, List.getElem?_cons_succ]
    clear hHeld
    obtain ⟨z, hz⟩ : ∃ z, stO L1 (s1, s2, s3) aage aws = z := ⟨_, rfl⟩
    rw [hz]
    have HZ := hid hz
    clear hz
    by_cases hz0 : z = 0
    · subst hz0
      obtain ⟨L2, hL2⟩ : ∃ L2, askP L1 (s1, s2, s3) aage aws = L2 := ⟨_, rfl⟩
      rw [hL2] at T7
      have HL2 := hid hL2
      have hlen2 : L2.length ≤ 41 := by have h1 := askP_len L1 (s1, s2, s3) aage aws; rw [hL2] at h1; have := HLN1.out; omega
      have HLN2 := hid hlen2
      clear hL2 hlen2
      go_wp2_with fail
      refine (hold_x T7.out (s1, s2, s3)).mono ?_
      rintro e w8 ⟨rfl, ht8, hk8⟩
      have T8 := hid ht8
      have K28 := hid (K27.out.trans hk8)
      have AB8 := hid ((hk8.block ab (row_lt AB7.out) (fun h => h HPa.out)).trans AB7.out)
      obtain ⟨y, hy⟩ : ∃ y, holdE L2 (s1, s2, s3) = y := ⟨_, rfl⟩
      rw [hy]
      have HY := hid hy
      clear ht8 hk8 hy f0 f1 f2 f3 f4 f5
      by_cases hy0 : y = 0
      · subst hy0
        obtain ⟨f0, f1, f2, f3, f4, f5⟩ := cells6 AB8.out
        have hfb := fast_begin (ws := aws) HI1.out HZ.out (by rw [HL2.out]; exact HY.out)
        rw [HL2.out] at hfb
        obtain ⟨l, hF, hlk, hlp⟩ := hfb
        have HIN3 := hid (holdP_inv (HL2.out ▸ askP_inv HI1.out (s1, s2, s3) aage aws : Inv L2) (s1, s2, s3))
        obtain ⟨L3, hL3⟩ : ∃ L3, holdP L2 (s1, s2, s3) = L3 := ⟨_, rfl⟩
        have hlen3 : L3.length ≤ 41 := by rw [← hL3, holdP_len]; exact HLN2.out
        rw [hL3] at T8 hF hlk HIN3
        have HF := hid hF; have HLK := hid hlk; have HLN3 := hid hlen3
        obtain ⟨n, hn⟩ : ∃ n, l.length = n := ⟨_, rfl⟩
        rw [hn] at hlp
        have hlpI : 0 < (n : Int) := by omega
        have HNL := hid hn
        clear hF hlk hL3 hlen3 hn
        go_wp2_with fail
        refine (locks_x T8.out (s1, s2, s3)).mono ?_
        rintro e w9 ⟨v3, rfl, ⟨la, lc, rfl, hlo, hln⟩, ht9, hk9⟩
        rw [HLK.out, HNL.out] at hlo hln ht9 ⊢
        obtain ⟨P2, hP2⟩ : ∃ P2 : Nat → Prop, (fun i => P i ∨ (Value.slice la n lc).ownBlock = some i) = P2 := ⟨_, rfl⟩
        have HP2 := hid (show ∀ i, P i → P2 i from fun i hi => by rw [← hP2]; exact .inl hi)
        have HPl := hid (show ∀ b, (Value.slice la n lc).ownBlock = some b → P2 b from fun b hb => by rw [← hP2]; exact .inr hb)
        rw [hP2] at ht9
        have T9 := hid ht9; have LO := hid hlo
        have K39 := hid (KC.out.trans (K28.out.trans (hk9.mono (fun _ _ h => h.elim))))
        have S9 := hid ((S32.out.kept K39.out (fun _ _ h => h)).mono (G := fun g => ¬ P2 g) (fun g hg hp => hg (HP2.out g hp)))
        have AB9 := hid ((hk9.block ab (row_lt AB8.out) id).trans AB8.out)
        clear hlo hln ht9 hk9 hP2 f0 f1 f2 f3 f4 f5
        go_wp2_with fail
        go_loopw [76] (fun i wr => ∃ (k : Nat) (L : List Ow), i = .int .i64 k ∧ k ≤ N2 ∧ k ≤ 40 ∧ Inv L ∧ L.length ≤ 41 + k ∧ Fst L (s1, s2, s3) l ∧ TabX P2 wr tb L ∧ Kept (fun i => ¬ P2 i) w9 wr) (fun i _ => N2 - (RowKit.intOf i).toNat)
        case atStart => exact ⟨0, L3, rfl, Nat.zero_le _, Nat.zero_le _, HIN3.out, HLN3.out, HF.out, T9.out, Kept.refl _ _⟩
        case round =>
          rename World => wr
          clear T9 HF HIN3
          obtain ⟨k, L, rfl, hk, hk80, hinv, hlen, hfs, ht, hkw⟩ := hrel
          have HIN := hid hinv; have HFS := hid hfs; have TR := hid ht; have KR := hid hkw
          have HLL := hid (show L.length ≤ 900000 by omega)
          have HCN := hid (cnt_ok hinv hlen (by omega))
          have HLN := hid hlen
          have ABR := hid ((hkw.block ab (row_lt AB9.out) (fun h => h (HP2.out _ HPa.out))).trans AB9.out)
          clear hinv hlen hfs ht hkw
          by_cases hlt : k < N2
          · have hltI : (k : Int) < (N2 : Int) := by omega
            obtain ⟨x, hx⟩ : ∃ x, ops2[k]? = some x := ⟨_, List.getElem?_eq_getElem (by rw [HNO2.out]; exact hlt)⟩
            have S4 := hid (S9.out.kept KR.out (fun _ _ h => h))
            obtain ⟨b, off, bo, bc, rfl, c0, c1, c2, c3, c4, c5, hok⟩ := op_cells S4.out hx
            obtain ⟨kd, ⟨t1, t2, t3⟩, age, ws⟩ := x
            simp only at c0 c1 c2 c3 c4 c5
            obtain ⟨ob, hob⟩ : ∃ ob, wr.heap.size = ob := ⟨_, rfl⟩
            obtain ⟨w2, hw2⟩ : ∃ w2, wr.alloc (opRow kd t1 t2 t3 age bo ws.length bc) = w2 := ⟨_, rfl⟩
            have k2 : Kept (fun _ => False) wr w2 := by rw [← hw2]; exact (Kept.refl _ _).alloc _
            have OB := hid (show w2.heap[ob]? = some (opRow kd t1 t2 t3 age bo ws.length bc) by rw [← hw2, ← hob]; exact row_new _ _)
            have OK2 := hid (hok.kept k2 (fun _ _ h => h.elim))
            obtain ⟨z0, z1, z2, z3, z4, z5⟩ := cells6 (row_new wr (opRow kd t1 t2 t3 age bo ws.length bc))
            unfold opRow at hw2 z0 z1 z2 z3 z4 z5
            have HW2 := hid hw2; have HOB := hid hob
            clear hw2 hob
            have T2 := hid (TR.out.same k2)
            have K2 := hid k2
            have AB2 := hid ((k2.block ab (row_lt ABR.out) id).trans ABR.out)
            clear hx hok
            by_cases h80 : k < 40
            · have h80D : decide ((40 : Int) ≤ (k : Int)) = false := by simp; omega
              have y0 := k2.cell (cells6 ABR.out).2.1 id
              have y1 := k2.cell (cells6 ABR.out).2.2.1 id
              have y2 := k2.cell (cells6 ABR.out).2.2.2.1 id
              rw [← HW2.out] at y0 y1 y2
              have heq := fun W => tx_eq (t1, t2, t3) (s1, s2, s3) W
              unfold txv at heq
              by_cases e : ((t1, t2, t3) : Tx) = (s1, s2, s3)
              · simp only [e, decide_true] at heq
                have KN := hid (KR.out.trans (k2.mono (fun _ _ h => h.elim)))
                clear e k2
                go_wp2
                go_roundw
                case rel => exact ⟨k + 1, L, by go_num, by omega, by omega, HIN.out, by have := HLN.out; omega, HFS.out, by first | exact T2.out | (rw [HW2.out]; exact T2.out), by first | exact KN.out | (rw [HW2.out]; exact KN.out)⟩
                case measure => (simp only [RowKit.intOf]; omega)
              · simp only [e, decide_false] at heq
                have hstep : ∀ kd age ws, Inv (stepL true L ⟨kd, (t1, t2, t3), age, ws⟩) ∧ (stepL true L ⟨kd, (t1, t2, t3), age, ws⟩).length ≤ 41 + (k + 1) ∧ Fst (stepL true L ⟨kd, (t1, t2, t3), age, ws⟩) (s1, s2, s3) l := fun kd age ws => ⟨stepL_inv true HIN.out _, by have h1 := stepL_len true L ⟨kd, (t1, t2, t3), age, ws⟩; have := HLN.out; omega, HFS.out.step e⟩
                have HSP := hid hstep
                clear e k2 hstep
                rcases (show kd = 0 ∨ kd = 1 ∨ kd = 2 ∨ (kd ≠ 0 ∧ kd ≠ 1 ∧ kd ≠ 2) by omega) with rfl | rfl | rfl | ⟨n0, n1, n2⟩
                · go_wp2_with fail
                  clear y0 y1 y2
                  try rw [HW2.out]
                  try rw [HOB.out]
                  clear HW2 HOB c0 c1 c2 c3 c4 c5 z0 z1 z2 z3 z4 z5
                  obtain ⟨d0, d1, d2, d3, d4, d5⟩ := cells6 OB.out
                  refine wp_region_till (fun w' : World => w'.cell? ⟨ob, 1, none⟩ = some (.int .u8 t1) ∧ w'.cell? ⟨ob, 2, none⟩ = some (.int .u32 t2) ∧ w'.cell? ⟨ob, 3, none⟩ = some (.int .u32 t3) ∧ w'.cell? ⟨ob, 4, none⟩ = some (.int .u64 age) ∧ w'.cell? ⟨ob, 5, none⟩ = some (.slice bo ws.length bc)) 9 (by kernel_rfl) (by exact ⟨d1, d2, d3, d4, d5⟩) (fun hHeld => ?_)
                  refine till_pure 0 (some 92) (v := ?v9100) (by decide) rfl (by kernel_rfl) (by kernel_rfl) (by kernel_rfl) (by kernel_rfl) (by decide) (fun _ _ _ h => h) (Or.inl ⟨by rfl, ?y9100⟩) (by assumption) ?r9100
                  case y9100 => (intro w hSw; clear hSw; go_simp; (try with_reducible rfl))
                  simp only [Act.put, List.setIfInBounds_toArray, List.set_cons_zero, List.set_cons_succ]
                  refine till_pure 1 (some 93) (v := ?v9101) (by decide) rfl (by kernel_rfl) (by kernel_rfl) (by kernel_rfl) (by kernel_rfl) (by decide) (fun _ _ _ h => h) (Or.inl ⟨by rfl, ?y9101⟩) (by assumption) ?r9101
                  case y9101 => (intro w hSw; clear hSw; go_simp; (try with_reducible rfl))
                  simp only [Act.put, List.setIfInBounds_toArray, List.set_cons_zero, List.set_cons_succ]
                  refine till_load 2 (some 94) [] (v := ?v9102) (by decide) rfl (by kernel_rfl) (by kernel_rfl) (by kernel_rfl) (by kernel_rfl) (by kernel_rfl) (by decide) (by decide) (fun _ _ _ h => h) (Or.inl ⟨by rfl, ?y9102⟩) (by assumption) ?r9102
                  case y9102 => (intro w hSw; (try dsimp only at hSw); go_simp; (try with_reducible rfl))
                  simp only [Act.put, List.setIfInBounds_toArray, List.set_cons_zero, List.set_cons_succ]
                  refine till_pure 3 (some 95) (v := ?v9103) (by decide) rfl (by kernel_rfl) (by kernel_rfl) (by kernel_rfl) (by kernel_rfl) (by decide) (fun _ _ _ h => h) (Or.inl ⟨by rfl, ?y9103⟩) (by assumption) ?r9103
                  case y9103 => (intro w hSw; clear hSw; go_simp; (try with_reducible rfl))
                  simp only [Act.put, List.setIfInBounds_toArray, List.set_cons_zero, List.set_cons_succ]
                  refine till_load 4 (some 96) [] (v := ?v9104) (by decide) rfl (by kernel_rfl) (by kernel_rfl) (by kernel_rfl) (by kernel_rfl) (by kernel_rfl) (by decide) (by decide) (fun _ _ _ h => h) (Or.inl ⟨by rfl, ?y9104⟩) (by assumption) ?r9104
                  case y9104 => (intro w hSw; (try dsimp only at hSw); go_simp; (try with_reducible rfl))
                  simp only [Act.put, List.setIfInBounds_toArray, List.set_cons_zero, List.set_cons_succ]
                  refine till_pure 6 (some 98) (v := ?v9106) (by decide) rfl (by kernel_rfl) (by kernel_rfl) (by kernel_rfl) (by kernel_rfl) (by decide) (fun _ _ _ h => h) (Or.inl ⟨by rfl, ?y9106⟩) (by assumption) ?r9106
                  case y9106 => (intro w hSw; clear hSw; go_simp; (try with_reducible rfl))
                  simp only [Act.put, List.setIfInBounds_toArray, List.set_cons_zero, List.set_cons_succ]
                  refine till_load 7 (some 99) [8] (v := ?v9107) (by decide) rfl (by kernel_rfl) (by kernel_rfl) (by kernel_rfl) (by kernel_rfl) (by kernel_rfl) (by decide) (by decide) (fun _ _ _ h => h) (Or.inl ⟨by rfl, ?y9107⟩) (by assumption) ?r9107
                  case y9107 => (intro w hSw; (try dsimp only at hSw); go_simp; (try with_reducible rfl))
                  simp only [Act.put, List.setIfInBounds_toArray, List.set_cons_zero, List.set_cons_succ]
                  refine till_call 5 (by kernel_rfl) rfl (fun K hK => ?_)
                  go_simp
                  have hS3 := sop_kept (((Kept.refl (fun _ => False) w2).drew).alloc (.cells #[] 36)) ⟨d1, d2, d3, d4, d5⟩
                  try dsimp only []
                  refine hK.out _ _ (by exact hS3) (fun hHeld => ?_)
                  clear hK K
                  try simp only [Act.put, List.setIfInBounds_toArray, List.set_cons_zero, List.set_cons_succ]
                  refine till_call 8 (by kernel_rfl) rfl (fun K hK => ?_)
                  refine step_appd (some 100) rfl (by rfl) (.tmp 97) (.tmp 99) 37 rfl 36 (.agg #[.int .u32 0, .int .u8 0]) 2 8 Try.underlying37 infoW rfl (by decide) (.slice (some ⟨w2.heap.size, 0, none⟩) 0 0) 0 [] rfl (by exact own_empty w2.drew 36 2) _ rfl ws.length (wcells ws) (by exact (OK2.out.b.same (((Kept.refl (fun _ => False) w2).drew).alloc (.cells #[] 36))).src) (by have := OK2.out.l; simp only [maxLen]; simp only at this; omega) (by have := OK2.out.l; simp only at this; omega) ?_
                  intro a6 c6 w6 ho6 hk6 hf6 _
                  simp only [Act.put, List.setIfInBounds_toArray, List.set_cons_zero, List.set_cons_succ]
                  have k26 : Kept (fun _ => False) w2 w6 := (((Kept.refl (fun _ => False) w2).drew).alloc (.cells #[] 36)).trans' hk6 (fun i hi => by simp [Value.ownBlock] at hi; exact .inr (by omega))
                  rw [Nat.zero_add, List.nil_append] at ho6
                  rw [Nat.zero_add] at hf6 ⊢
                  have hge : ∀ i, (Value.slice a6 ws.length c6).ownBlock = some i → w2.heap.size ≤ i := fun i hi => by
                    rcases hf6 i hi with h | h
                    · simp [Value.ownBlock] at h; omega
                    · simp at h; omega
                  have T6 := hid (T2.out.fresh (Q := fun i => P2 i ∨ (Value.slice a6 ws.length c6).ownBlock = some i) k26 (fun _ _ h => h.elim) (fun i hi => hi.imp id (fun h => ⟨hge i h, ho6.lt h⟩)))
                  have L6 := hid (ho6.lies (F := fun i => ¬ (P2 i ∨ (Value.slice a6 ws.length c6).ownBlock = some i)) (wcells_one ws) (fun g hg h => h (.inr hg)))
                  have hS6 := sop_kept k26 ⟨d1, d2, d3, d4, d5⟩
                  have K26 := hid k26
                  have HGE := hid hge
                  try dsimp only []
                  refine hK.out _ _ (by exact hS6) (fun hHeld => ?_)
                  clear hK K
                  try simp only [Act.put, List.setIfInBounds_toArray, List.set_cons_zero, List.set_cons_succ]
                  refine till_list [] (by kernel_rfl) (by kernel_rfl) (by decide) (by decide) ?_
                  simp only [pickOps, List.getElem?_toArray, List.getElem?_cons_zero, List.getElem?_cons_succ]
                  clear hHeld hS3 hS6 ho6 hk6 hf6 k26 hge d1 d2 d3 d4 d5
                  go_wp2_with fail
                  refine (ask_x T6.out (t1, t2, t3) age (ws := ws) L6.out HCN.out HLL.out).mono ?_
                  rintro e w7 ⟨v1, v2, rfl, -, -, ht7, hk7⟩
                  have T7 := hid (ht7.mono (Q := P2) (fun i hi => .inl (.inl hi)))
                  have K27 := hid (show Kept (fun i => ¬ P2 i) w2 w7 from (K26.out.mono (fun _ _ h => h.elim)).trans' hk7 (fun i hi => .inl (fun hp => hi (.inl hp))))
                  clear ht7 hk7 T6 L6 K26 HGE
                  have KN := hid (KR.out.trans ((K2.out.mono (fun _ _ h => h.elim)).trans K27.out))
                  go_wp2
                  go_roundw
                  case rel => exact ⟨k + 1, _, by go_num, by omega, by omega, (HSP.out 0 age ws).1, (HSP.out 0 age ws).2.1, (HSP.out 0 age ws).2.2, T7.out, KN.out⟩
                  case measure => (simp only [RowKit.intOf]; omega)
                · go_wp2_with fail
                  clear y0 y1 y2
                  try rw [HW2.out]
                  try rw [HOB.out]
                  clear HW2 HOB c0 c1 c2 c3 c4 c5 z0 z1 z2 z3 z4 z5
                  obtain ⟨d0, d1, d2, d3, d4, d5⟩ := cells6 OB.out
                  refine (hold_x T2.out (t1, t2, t3)).mono ?_
                  rintro e w7 ⟨rfl, ht7, hk7⟩
                  have T7 := hid ht7
                  have KN := hid (KR.out.trans ((K2.out.mono (fun _ _ h => h.elim)).trans hk7))
                  clear ht7 hk7 d0 d1 d2 d3 d4 d5
                  go_wp2
                  go_roundw
                  case rel => exact ⟨k + 1, _, by go_num, by omega, by omega, (HSP.out 1 age ws).1, (HSP.out 1 age ws).2.1, (HSP.out 1 age ws).2.2, T7.out, KN.out⟩
                  case measure => (simp only [RowKit.intOf]; omega)
                · go_wp2_with fail
                  clear y0 y1 y2
                  try rw [HW2.out]
                  try rw [HOB.out]
                  clear HW2 HOB c0 c1 c2 c3 c4 c5 z0 z1 z2 z3 z4 z5
                  obtain ⟨d0, d1, d2, d3, d4, d5⟩ := cells6 OB.out
                  refine (rel_x T2.out (t1, t2, t3) (by have := HLL.out; omega)).mono ?_
                  rintro e w7 ⟨v1, rfl, -, ht7, hk7⟩
                  have T7 := hid (ht7.mono (Q := P2) (fun i hi => .inl hi))
                  have KN := hid (KR.out.trans ((K2.out.mono (fun _ _ h => h.elim)).trans hk7))
                  have HSN := hid (stepL2 true L (t1, t2, t3) age ws)
                  clear ht7 hk7 d0 d1 d2 d3 d4 d5
                  go_wp2
                  go_roundw
                  case rel => exact ⟨k + 1, _, by go_num, by omega, by omega, (HSN.out ▸ (HSP.out 2 age ws).1), (HSN.out ▸ (HSP.out 2 age ws).2.1), (HSN.out ▸ (HSP.out 2 age ws).2.2), T7.out, KN.out⟩
                  case measure => (simp only [RowKit.intOf]; omega)
                · have KN := hid (KR.out.trans (K2.out.mono (fun _ _ h => h.elim)))
                  have h0 : (kd == 0) = false := by simpa using n0
                  have h1 : (kd == 1) = false := by simpa using n1
                  have h2 : (kd == 2) = false := by simpa using n2
                  clear n0 n1 n2
                  go_wp2
                  go_roundw
                  case rel => exact ⟨k + 1, L, by go_num, by omega, by omega, HIN.out, by have := HLN.out; omega, HFS.out, by first | exact T2.out | (rw [HW2.out]; exact T2.out), by first | exact KN.out | (rw [HW2.out]; exact KN.out)⟩
                  case measure => (simp only [RowKit.intOf]; omega)
            · have h80D : decide ((40 : Int) ≤ (k : Int)) = true := by simp; omega
              have KN := hid (KR.out.trans (k2.mono (fun _ _ h => h.elim)))
              have y0 := k2.cell (cells6 ABR.out).2.1 id
              have y1 := k2.cell (cells6 ABR.out).2.2.1 id
              have y2 := k2.cell (cells6 ABR.out).2.2.2.1 id
              rw [← HW2.out] at y0 y1 y2
              clear k2
              go_wp2_with fail
              rw [HW2.out]
              clear y0 y1 y2
              refine (locks_x (T2).out (s1, s2, s3)).mono ?_
              rintro e w11 ⟨v4, rfl, ⟨ma, mc, rfl, hmo, -⟩, -, hk11⟩
              rw [HFS.out.locks HIN.out, HNL.out] at hmo ⊢
              have KL := hid (KN.out.trans (hk11.mono (fun _ _ h => h.elim)))
              have LA := hid (hmo.lies (wcells_one _) (F := fun _ => False) (fun _ _ => id))
              have LB := hid ((LO.out.kept KL.out (fun b hb h => h (HPl.out b hb))).lies (wcells_one _) (F := fun _ => False) (fun _ _ => id))
              clear hmo hk11
              go_wp2_with fail
              refine (same_wants LA.out LB.out HNL.out).mono ?_
              rintro e w12 ⟨rfl, hk12⟩
              have KM := hid (KL.out.trans (hk12.mono (fun _ _ h => h.elim)))
              clear hk12
              go_wp2
              go_ret
              exact ⟨rfl, (K3.out.mono (fun _ _ h => h.elim) |>.trans (K39.out.mono (fun i _ h => HPw.out i h)) |>.trans (KM.out.mono (fun i hi h => HPw.out i (fun hp => h (HP2.out i hp)))) : Kept (fun i => W.heap.size ≤ i) W w12).below (Nat.le_refl _) (fun _ h => h)⟩
          · obtain rfl : k = N2 := by omega
            obtain ⟨_, y0, y1, y2, _, _⟩ := cells6 ABR.out
            have KN := KR
            go_wp2_with fail
            clear y0 y1 y2
            refine (locks_x (TR).out (s1, s2, s3)).mono ?_
            rintro e w11 ⟨v4, rfl, ⟨ma, mc, rfl, hmo, -⟩, -, hk11⟩
            rw [HFS.out.locks HIN.out, HNL.out] at hmo ⊢
            have KL := hid (KN.out.trans (hk11.mono (fun _ _ h => h.elim)))
            have LA := hid (hmo.lies (wcells_one _) (F := fun _ => False) (fun _ _ => id))
            have LB := hid ((LO.out.kept KL.out (fun b hb h => h (HPl.out b hb))).lies (wcells_one _) (F := fun _ => False) (fun _ _ => id))
            clear hmo hk11
            go_wp2_with fail
            refine (same_wants LA.out LB.out HNL.out).mono ?_
            rintro e w12 ⟨rfl, hk12⟩
            have KM := hid (KL.out.trans (hk12.mono (fun _ _ h => h.elim)))
            clear hk12
            go_wp2
            go_ret
            exact ⟨rfl, (K3.out.mono (fun _ _ h => h.elim) |>.trans (K39.out.mono (fun i _ h => HPw.out i h)) |>.trans (KM.out.mono (fun i hi h => HPw.out i (fun hp => h (HP2.out i hp)))) : Kept (fun i => W.heap.size ≤ i) W w12).below (Nat.le_refl _) (fun _ h => h)⟩
      · have hy1 : (y != 0) = true := by simpa using hy0
        go_wp2
        go_ret
        exact ⟨rfl, (K3.out.mono (fun _ _ h => h.elim) |>.trans (KC.out.mono (fun i _ h => HPw.out i h)) |>.trans (K28.out.mono (fun i hi h => HPw.out i h)) : Kept (fun i => W.heap.size ≤ i) W w8).below (Nat.le_refl _) (fun _ h => h)⟩
    · have hz1 : (z != 0) = true := by simpa using hz0
      go_wp2
      go_ret
      exact ⟨rfl, (K3.out.mono (fun _ _ h => h.elim) |>.trans (KC.out.mono (fun i _ h => HPw.out i h)) |>.trans (K27.out.mono (fun i hi h => HPw.out i h)) : Kept (fun i => W.heap.size ≤ i) W w7).below (Nat.le_refl _) (fun _ h => h)⟩
set_option maxRecDepth 100000 in
theorem lockFast_lifted (os : Os) (started : os.Started) (H : Type) (enc : TypeId × Value → H) :
    ReturnsInHanded {} Try.checked os 7 .any (Rows.lockFastSpec.pre6 enc Try.prog Try.f7 Rows.lockFastRow.domain false) (Rows.lockFastSpec.post enc Try.prog Try.f7 false true false false) :=
  lawLift (C := Try.checked) (s := Rows.lockFastSpec) (bt := 4) (by kernel_rfl) started (by kernel_rfl) Try.func7 (by kernel_rfl)
    (by rw [Try.params7]; intro t ht; simp only [List.mem_cons, List.not_mem_nil, or_false] at ht; rcases ht with rfl | rfl | rfl <;> exact ⟨by kernel_rfl, of_decide_eq_true (by kernel_rfl)⟩)
    rfl rfl Try.underlying4 (by intro ds h; rw [Try.params7] at h; match ds, h with | [_, _, _], _ => rfl)
    (ChangeSpec.witness6 (enc := enc) (C := Try.checked) false ⟨#[], #[.slice none 0 0, .agg #[.int .u8 0, .int .u8 0, .int .u32 0, .int .u32 0, .int .u64 0, .slice none 0 0], .slice none 0 0], []⟩ 8 (by kernel_rfl) (by kernel_rfl) (by kernel_rfl) (by kernel_rfl))
    fast_walk
theorem lockFast_holds : Rows.LockFastSaid :=
  OpenClaim.holds_of_wide 7 Try.f7 rfl rfl rfl rfl rfl rfl rfl ⟨rfl, rfl, rfl, rfl, rfl⟩ rfl rfl rfl rfl rfl (by kernel_rfl) Try.func7 (by kernel_rfl)
    (of_decide_eq_true (by kernel_rfl)) (by unfold Func.isWrapper; rw [if_neg (of_decide_eq_false (by kernel_rfl))]; exact ⟨rfl, rfl⟩)
    (fun os started H enc _ => lockFast_lifted os started H enc)
#print axioms lockFast_holds
end Go.Proofs.Ytpjhdpfaogdboaa
