/- PROVED: the law LockOldest returns true for every input and leaves its arguments as they were. No condition. -/
import Derived.Test.YtpjhdpfaogdboaaMv
import Derived.Test.YtpjhdpfaogdboaaCl
import Derived.Test.YtpjhdpfaogdboaaReg
namespace Go.Proofs.Ytpjhdpfaogdboaa
set_option linter.unusedSimpArgs false
set_option linter.unusedVariables false
open Go.RowKit
theorem run_yng {ops : List OpD} {k : Nat} {x : OpD} {L : List Ow} (hy : Yng L) (h : 0 < x.age) : Yng (stepL false L x) := hy.step h
set_option maxRecDepth 100000 in
set_option maxHeartbeats 8000000 in
theorem oldest_walk (W : World) (args : Array Value) (h : RdAll Try.prog W Try.f5.params.toList args.toList) :
    Calls Try.prog 5 args W fun e W' => e = .returned (.bool true) ∧ Below W.heap.size W W' := by
  rw [Try.params5] at h
  obtain ⟨v0, v1, rfl⟩ : ∃ v0 v1, args = #[v0, v1] := by
    rcases args with ⟨_ | ⟨v0, _ | ⟨v1, _ | ⟨v2, l⟩⟩⟩⟩ <;> simp [RdAll] at h
    exact ⟨v0, v1, rfl⟩
  obtain ⟨r0, r1, _⟩ := h
  obtain ⟨a, N, cap, rfl, h1⟩ := r0.slice Try.underlying40
  obtain ⟨ops, hsc⟩ := scr_read h1
  obtain ⟨wo, n, wc, rfl, h2⟩ := r1.slice Try.underlying37
  obtain ⟨wts, hwl, hwli, hwb, hwq⟩ := wants_read h2
  have HNO := hid hsc.1
  have hNc := hsc.2.1
  have hcm := hsc.2.2.1
  unfold maxLen at hcm
  have hnw := lies_len hwli
  have SC := hid hsc; have WL := hid hwli; have HWL := hid hwl; have HWB := hid hwb
  clear h1 h2 r0 r1 hsc hwl hwli hwb hwq
  go_enter Try.func5, Try.ntmps5
  go_wp2_with fail
  refine (awake_any _).mono ?_; rintro e w1 ⟨rfl, hk1⟩
  have K1 := hid hk1
  clear hk1
  go_wp2_with fail
  refine (new_x w1).mono ?_
  rintro e w3 ⟨tb, rfl, ht, hle, hk⟩
  have K3 := hid (K1.out.trans hk)
  obtain ⟨P, hP⟩ : ∃ P : Nat → Prop, (fun i => i < W.heap.size) = P := ⟨_, rfl⟩
  have HP1 := hid (show ∀ i, i < W.heap.size → P i from fun i hi => by rw [← hP]; exact hi)
  have HPw := hid (show ∀ i, ¬ P i → W.heap.size ≤ i from fun i hi => by
    rcases Nat.lt_or_ge i W.heap.size with h | h
    · exact absurd (HP1.out i h) hi
    · exact h)
  have hwz := K1.out.size
  have T3 := hid (show TabX P w3 tb [] from ht.mono (fun i hi => by rw [← hP] at hi; omega))
  have S3 := hid ((SC.out.kept K3.out (fun _ _ h => h.elim)).mono (G := fun g => ¬ P g) (fun g hg => HPw.out g hg))
  have WL3 := hid ((WL.out.same K3.out).mono (G := fun g => ¬ P g) (fun g _ hg => HPw.out g hg))
  clear ht hle hk hwz K1 hP SC WL
  go_upto_block 0 with fail
  go_cut [] from 6 to 49 (fun wx => ∃ L, Inv L ∧ Yng L ∧ L.length ≤ 60 ∧ (∀ o ∈ L, ∃ x ∈ ops, x.t = o.tx) ∧ TabX P wx tb L ∧ Kept (fun i => ¬ P i) w3 wx)
  case first =>
    go_wp2_with fail
    go_loopw [19] (fun i wr => ∃ (k : Nat) (L : List Ow), i = .int .i64 k ∧ k ≤ N ∧ k ≤ 60 ∧ Yng L ∧ runL false [] (ops.take k) = L ∧ TabX P wr tb L ∧ Kept (fun i => ¬ P i) w3 wr) (fun i _ => N - (RowKit.intOf i).toNat)
    case atStart => exact ⟨0, [], rfl, Nat.zero_le _, Nat.zero_le _, ⟨fun o ho => nomatch ho⟩, rfl, T3.out, Kept.refl _ _⟩
    case round =>
      rename World => wr
      clear T3
      obtain ⟨k, L, rfl, hk, hk80, hyg, hrl, ht, hkw⟩ := hrel
      have HRL := hid hrl; have TR := hid ht; have KR := hid hkw; have HYG := hid hyg
      obtain ⟨hinv, hlen, htx⟩ := run_all hrl
      have HIN := hid hinv
      have HTX := hid (show ∀ o ∈ L, ∃ x ∈ ops, x.t = o.tx from fun o ho => by
        obtain ⟨x, hx, e⟩ := htx o ho
        exact ⟨x, List.mem_of_mem_take hx, e⟩)
      have HLL := hid (show L.length ≤ 900000 by omega)
      have HCN := hid (cnt_ok hinv hlen (by omega))
      have HL80 := hid (show L.length ≤ 60 by omega)
      clear hrl ht hkw hinv hlen hyg htx
      by_cases hlt : k < N
      · have hltI : (k : Int) < (N : Int) := by omega
        obtain ⟨x, hx⟩ : ∃ x, ops[k]? = some x := ⟨_, List.getElem?_eq_getElem (by rw [HNO.out]; exact hlt)⟩
        have HST := hid (run_take hx HRL.out)
        have S4 := hid (S3.out.kept KR.out (fun _ _ h => h))
        obtain ⟨b, off, bo, bc, rfl, c0, c1, c2, c3, c4, c5, hok⟩ := op_cells S4.out hx
        obtain ⟨kd, ⟨t1, t2, t3⟩, age, ws⟩ := x
        simp only at c0 c1 c2 c3 c4 c5
        obtain ⟨ob, hob⟩ : ∃ ob, wr.heap.size = ob := ⟨_, rfl⟩
        obtain ⟨w2, hw2⟩ : ∃ w2, wr.alloc (opRow kd t1 t2 t3 age bo ws.length bc) = w2 := ⟨_, rfl⟩
        have k2 : Kept (fun _ => False) wr w2 := by rw [← hw2]; exact (Kept.refl _ _).alloc _
        have OB := hid (show w2.heap[ob]? = some (opRow kd t1 t2 t3 age bo ws.length bc) by rw [← hw2, ← hob]; exact row_new _ _)
        have OK2 := hid (hok.kept k2 (fun _ _ h => h.elim))
        obtain ⟨z0, z1, z2, z3, z4, z5⟩ := cells6 (row_new wr (opRow kd t1 t2 t3 age bo ws.length bc))
        unfold opRow at hw2 z0 z1 z2 z3 z4 z5
        have HW2 := hid hw2; have HOB := hid hob
        clear hw2 hob
        have T2 := hid (TR.out.same k2)
        have K2 := hid k2
        have hage := hok.a
        simp only at hage
        clear hx hok k2
        by_cases h80 : k < 60
        · have h80D : decide ((60 : Int) ≤ (k : Int)) = false := by simp; omega
          by_cases ha0 : age = 0
          · have haB : (age == 0) = true := by simp [ha0]
            have KN := hid (KR.out.trans (K2.out.mono (fun _ _ h => h.elim)))
            clear ha0
            go_wp2
            go_ret
            exact ⟨rfl, by (try rw [HW2.out]); exact (K3.out.mono (fun _ _ h => h.elim) |>.trans (KN.out.mono (fun i _ h => HPw.out i h)) : Kept (fun i => W.heap.size ≤ i) W w2).below (Nat.le_refl _) (fun _ h => h)⟩
          · have haB : (age == 0) = false := by simpa using ha0
            have HYN := hid (show Yng (stepL false L ⟨kd, (t1, t2, t3), age, ws⟩) from HYG.out.step (show 0 < age by omega))
            rw [← HST.out] at HYN
            clear ha0
            rcases (show kd = 0 ∨ kd = 1 ∨ kd = 2 ∨ (kd ≠ 0 ∧ kd ≠ 1 ∧ kd ≠ 2) by omega) with rfl | rfl | rfl | ⟨n0, n1, n2⟩
            · have HSN := hid (HST.out.trans (stepL0 false L (t1, t2, t3) age ws))
              rw [HSN.out] at HYN
              go_wp2_with fail
              try rw [HW2.out]
              try rw [HOB.out]
              clear HW2 HOB c0 c1 c2 c3 c4 c5 z0 z1 z2 z3 z4 z5
              obtain ⟨d0, d1, d2, d3, d4, d5⟩ := cells6 OB.out
              refine wp_region_till (fun w' : World => w'.cell? ⟨ob, 1, none⟩ = some (.int .u8 t1) ∧ w'.cell? ⟨ob, 2, none⟩ = some (.int .u32 t2) ∧ w'.cell? ⟨ob, 3, none⟩ = some (.int .u32 t3) ∧ w'.cell? ⟨ob, 4, none⟩ = some (.int .u64 age) ∧ w'.cell? ⟨ob, 5, none⟩ = some (.slice bo ws.length bc)) 9 (by kernel_rfl) (by exact ⟨d1, d2, d3, d4, d5⟩) (fun hHeld => ?_)
              refine till_pure 0 (some 33) (v := ?v3100) (by decide) rfl (by kernel_rfl) (by kernel_rfl) (by kernel_rfl) (by kernel_rfl) (by decide) (fun _ _ _ h => h) (Or.inl ⟨by rfl, ?y3100⟩) (by assumption) ?r3100
              case y3100 => (intro w hSw; clear hSw; go_simp; (try with_reducible rfl))
              simp only [Act.put, List.setIfInBounds_toArray, List.set_cons_zero, List.set_cons_succ]
              refine till_pure 1 (some 34) (v := ?v3101) (by decide) rfl (by kernel_rfl) (by kernel_rfl) (by kernel_rfl) (by kernel_rfl) (by decide) (fun _ _ _ h => h) (Or.inl ⟨by rfl, ?y3101⟩) (by assumption) ?r3101
              case y3101 => (intro w hSw; clear hSw; go_simp; (try with_reducible rfl))
              simp only [Act.put, List.setIfInBounds_toArray, List.set_cons_zero, List.set_cons_succ]
              refine till_load 2 (some 35) [] (v := ?v3102) (by decide) rfl (by kernel_rfl) (by kernel_rfl) (by kernel_rfl) (by kernel_rfl) (by kernel_rfl) (by decide) (by decide) (fun _ _ _ h => h) (Or.inl ⟨by rfl, ?y3102⟩) (by assumption) ?r3102
              case y3102 => (intro w hSw; (try dsimp only at hSw); go_simp; (try with_reducible rfl))
              simp only [Act.put, List.setIfInBounds_toArray, List.set_cons_zero, List.set_cons_succ]
              refine till_pure 3 (some 36) (v := ?v3103) (by decide) rfl (by kernel_rfl) (by kernel_rfl) (by kernel_rfl) (by kernel_rfl) (by decide) (fun _ _ _ h => h) (Or.inl ⟨by rfl, ?y3103⟩) (by assumption) ?r3103
              case y3103 => (intro w hSw; clear hSw; go_simp; (try with_reducible rfl))
              simp only [Act.put, List.setIfInBounds_toArray, List.set_cons_zero, List.set_cons_succ]
              refine till_load 4 (some 37) [] (v := ?v3104) (by decide) rfl (by kernel_rfl) (by kernel_rfl) (by kernel_rfl) (by kernel_rfl) (by kernel_rfl) (by decide) (by decide) (fun _ _ _ h => h) (Or.inl ⟨by rfl, ?y3104⟩) (by assumption) ?r3104
              case y3104 => (intro w hSw; (try dsimp only at hSw); go_simp; (try with_reducible rfl))
              simp only [Act.put, List.setIfInBounds_toArray, List.set_cons_zero, List.set_cons_succ]
              refine till_pure 6 (some 39) (v := ?v3106) (by decide) rfl (by kernel_rfl) (by kernel_rfl) (by kernel_rfl) (by kernel_rfl) (by decide) (fun _ _ _ h => h) (Or.inl ⟨by rfl, ?y3106⟩) (by assumption) ?r3106
              case y3106 => (intro w hSw; clear hSw; go_simp; (try with_reducible rfl))
              simp only [Act.put, List.setIfInBounds_toArray, List.set_cons_zero, List.set_cons_succ]
              refine till_load 7 (some 40) [8] (v := ?v3107) (by decide) rfl (by kernel_rfl) (by kernel_rfl) (by kernel_rfl) (by kernel_rfl) (by kernel_rfl) (by decide) (by decide) (fun _ _ _ h => h) (Or.inl ⟨by rfl, ?y3107⟩) (by assumption) ?r3107
              case y3107 => (intro w hSw; (try dsimp only at hSw); go_simp; (try with_reducible rfl))
              simp only [Act.put, List.setIfInBounds_toArray, List.set_cons_zero, List.set_cons_succ]
              refine till_call 5 (by kernel_rfl) rfl (fun K hK => ?_)
              go_simp
              have hS3 := sop_kept (((Kept.refl (fun _ => False) w2).drew).alloc (.cells #[] 36)) ⟨d1, d2, d3, d4, d5⟩
              try dsimp only []
              refine hK.out _ _ (by exact hS3) (fun hHeld => ?_)
              clear hK K
              try simp only [Act.put, List.setIfInBounds_toArray, List.set_cons_zero, List.set_cons_succ]
              refine till_call 8 (by kernel_rfl) rfl (fun K hK => ?_)
              refine step_appd (some 41) rfl (by rfl) (.tmp 38) (.tmp 40) 37 rfl 36 (.agg #[.int .u32 0, .int .u8 0]) 2 8 Try.underlying37 infoW rfl (by decide) (.slice (some ⟨w2.heap.size, 0, none⟩) 0 0) 0 [] rfl (by exact own_empty w2.drew 36 2) _ rfl ws.length (wcells ws) (by exact (OK2.out.b.same (((Kept.refl (fun _ => False) w2).drew).alloc (.cells #[] 36))).src) (by have := OK2.out.l; simp only [maxLen]; simp only at this; omega) (by have := OK2.out.l; simp only at this; omega) ?_
              intro a6 c6 w6 ho6 hk6 hf6 _
              simp only [Act.put, List.setIfInBounds_toArray, List.set_cons_zero, List.set_cons_succ]
              have k26 : Kept (fun _ => False) w2 w6 := (((Kept.refl (fun _ => False) w2).drew).alloc (.cells #[] 36)).trans' hk6 (fun i hi => by simp [Value.ownBlock] at hi; exact .inr (by omega))
              rw [Nat.zero_add, List.nil_append] at ho6
              rw [Nat.zero_add] at hf6 ⊢
              have hge : ∀ i, (Value.slice a6 ws.length c6).ownBlock = some i → w2.heap.size ≤ i := fun i hi => by
                rcases hf6 i hi with h | h
                · simp [Value.ownBlock] at h; omega
                · simp at h; omega
              have T6 := hid (T2.out.fresh (Q := fun i => P i ∨ (Value.slice a6 ws.length c6).ownBlock = some i) k26 (fun _ _ h => h.elim) (fun i hi => hi.imp id (fun h => ⟨hge i h, ho6.lt h⟩)))
              have L6 := hid (ho6.lies (F := fun i => ¬ (P i ∨ (Value.slice a6 ws.length c6).ownBlock = some i)) (wcells_one ws) (fun g hg h => h (.inr hg)))
              have hS6 := sop_kept k26 ⟨d1, d2, d3, d4, d5⟩
              have K26 := hid k26
              have HGE := hid hge
              try dsimp only []
              refine hK.out _ _ (by exact hS6) (fun hHeld => ?_)
              clear hK K
              try simp only [Act.put, List.setIfInBounds_toArray, List.set_cons_zero, List.set_cons_succ]
              refine till_list [] (by kernel_rfl) (by kernel_rfl) (by decide) (by decide) ?_
              simp only [pickOps, List.getElem?_toArray, List.getElem?_cons_zero, List.getElem?_cons_succ]
              clear hHeld hS3 hS6 ho6 hk6 hf6 k26 hge d1 d2 d3 d4 d5
              go_wp2_with fail
              refine (ask_x T6.out (t1, t2, t3) age (ws := ws) L6.out HCN.out HLL.out).mono ?_
              rintro e w7 ⟨v1, v2, rfl, -, -, ht7, hk7⟩
              have T7 := hid (ht7.mono (Q := P) (fun i hi => .inl (.inl hi)))
              have K27 := hid (show Kept (fun i => ¬ P i) w2 w7 from (K26.out.mono (fun _ _ h => h.elim)).trans' hk7 (fun i hi => .inl (fun hp => hi (.inl hp))))
              clear ht7 hk7 T6 L6 K26 HGE
              have KN := hid (KR.out.trans ((K2.out.mono (fun _ _ h => h.elim)).trans K27.out))
              go_wp2
              go_roundw
              case rel => exact ⟨k + 1, _, by go_num, by omega, by omega, HYN.out, HSN.out, T7.out, KN.out⟩
              case measure => (simp only [RowKit.intOf]; omega)
            · have HSN := hid (HST.out.trans (stepL1n L (t1, t2, t3) age ws))
              have KN := hid (KR.out.trans (K2.out.mono (fun _ _ h => h.elim)))
              go_wp2
              go_roundw
              case rel => exact ⟨k + 1, _, by go_num, by omega, by omega, HYG.out, HSN.out, by first | exact T2.out | (rw [HW2.out]; exact T2.out), by first | exact KN.out | (rw [HW2.out]; exact KN.out)⟩
              case measure => (simp only [RowKit.intOf]; omega)
            · have HSN := hid (HST.out.trans (stepL2 false L (t1, t2, t3) age ws))
              rw [HSN.out] at HYN
              go_wp2_with fail
              try rw [HW2.out]
              try rw [HOB.out]
              clear HW2 HOB c0 c1 c2 c3 c4 c5 z0 z1 z2 z3 z4 z5
              obtain ⟨d0, d1, d2, d3, d4, d5⟩ := cells6 OB.out
              refine (rel_x T2.out (t1, t2, t3) (by have := HLL.out; omega)).mono ?_
              rintro e w7 ⟨v1, rfl, -, ht7, hk7⟩
              have T7 := hid (ht7.mono (Q := P) (fun i hi => .inl hi))
              have KN := hid (KR.out.trans ((K2.out.mono (fun _ _ h => h.elim)).trans hk7))
              clear ht7 hk7 d0 d1 d2 d3 d4 d5
              go_wp2
              go_roundw
              case rel => exact ⟨k + 1, _, by go_num, by omega, by omega, HYN.out, HSN.out, T7.out, KN.out⟩
              case measure => (simp only [RowKit.intOf]; omega)
            · have HSN := hid (HST.out.trans (stepLx n0 n1 n2))
              have KN := hid (KR.out.trans (K2.out.mono (fun _ _ h => h.elim)))
              have h0 : (kd == 0) = false := by simpa using n0
              have h2 : (kd == 2) = false := by simpa using n2
              clear n0 n1 n2
              go_wp2
              go_roundw
              case rel => exact ⟨k + 1, _, by go_num, by omega, by omega, HYG.out, HSN.out, by first | exact T2.out | (rw [HW2.out]; exact T2.out), by first | exact KN.out | (rw [HW2.out]; exact KN.out)⟩
              case measure => (simp only [RowKit.intOf]; omega)
        · have h80D : decide ((60 : Int) ≤ (k : Int)) = true := by simp; omega
          have KN := hid (KR.out.trans (K2.out.mono (fun _ _ h => h.elim)))
          go_wp2_with fail
          go_meet
          (try rw [HW2.out])
          exact ⟨L, HIN.out, HYG.out, HL80.out, HTX.out, T2.out, KN.out⟩
      · obtain rfl : k = N := by omega
        go_wp2_with fail
        go_meet
        exact ⟨L, HIN.out, HYG.out, HL80.out, HTX.out, TR.out, KR.out⟩
  case rest =>
    obtain ⟨L1, hinv, hyg, hlen, htx, ht, hk⟩ := hcut
    rename World => wC
    have HI1 := hid hinv; have HY1 := hid hyg; have HT1 := hid htx
    have HLL1 := hid (show L1.length ≤ 900000 by omega)
    have HCN1 := hid (cnt_ok hinv hlen (by omega))
    obtain ⟨fb, hfb⟩ : ∃ fb, wC.heap.size = fb := ⟨_, rfl⟩
    obtain ⟨wD, hwD⟩ : ∃ wD, wC.alloc (.cells #[.int .u8 200, .int .u32 0, .int .u32 1] 32) = wD := ⟨_, rfl⟩
    have kD : Kept (fun _ => False) wC wD := by rw [← hwD]; exact (Kept.refl _ _).alloc _
    have FB := hid (show wD.heap[fb]? = some (.cells #[.int .u8 200, .int .u32 0, .int .u32 1] 32 (0, 0)) by rw [← hwD, ← hfb]; exact row_new _ _)
    obtain ⟨P2, hP2⟩ : ∃ P2 : Nat → Prop, (fun i => P i ∨ i = fb) = P2 := ⟨_, rfl⟩
    have HP2 := hid (show ∀ i, P i → P2 i from fun i hi => by rw [← hP2]; exact .inl hi)
    have HPf := hid (show P2 fb by rw [← hP2]; exact .inr rfl)
    have TD := hid (show TabX P2 wD tb L1 from hP2 ▸ ht.fresh1 kD ⟨by omega, row_lt FB.out⟩)
    have KD := hid (hk.trans (kD.mono (fun _ _ h => h.elim)))
    have SD := hid ((S3.out.kept (hk.trans (kD.mono (fun _ _ h => h.elim))) (fun _ _ h => h)))
    have WLD := hid (WL3.out.kept (hk.trans (kD.mono (fun _ _ h => h.elim))) (fun _ _ h => h))
    have HWD := hid hwD; have HFB := hid hfb
    clear hinv hyg hlen htx ht hk kD hwD hfb hP2
    go_wp2_with fail
    try rw [HWD.out]
    try rw [HFB.out]
    clear HWD HFB
    go_loopw [53] (fun i wr => ∃ k : Nat, i = .int .i64 k ∧ k ≤ N ∧ (∀ x ∈ ops.take k, x.t ≠ (200, 0, 1)) ∧ Kept (fun _ => False) wD wr) (fun i _ => N - (RowKit.intOf i).toNat)
    case atStart => exact ⟨0, rfl, Nat.zero_le _, fun x hx => by simp at hx, Kept.refl _ _⟩
    case round =>
      rename World => wr
      obtain ⟨k, rfl, hk, hne, hkw⟩ := hrel
      have KR := hid hkw; have HNE := hid hne
      clear hkw hne
      by_cases hlt : k < N
      · have hltI : (k : Int) < (N : Int) := by omega
        obtain ⟨x, hx⟩ : ∃ x, ops[k]? = some x := ⟨_, List.getElem?_eq_getElem (by rw [HNO.out]; exact hlt)⟩
        have S4 := hid (SD.out.kept KR.out (fun _ _ h => h.elim))
        have HX := hid hx
        obtain ⟨b, off, bo, bc, rfl, c0, c1, c2, c3, c4, c5, hok⟩ := op_cells S4.out hx
        obtain ⟨kd, ⟨t1, t2, t3⟩, age, ws⟩ := x
        simp only at c0 c1 c2 c3 c4 c5
        obtain ⟨ob, hob⟩ : ∃ ob, wr.heap.size = ob := ⟨_, rfl⟩
        obtain ⟨w2, hw2⟩ : ∃ w2, wr.alloc (opRow kd t1 t2 t3 age bo ws.length bc) = w2 := ⟨_, rfl⟩
        have k2 : Kept (fun _ => False) wr w2 := by rw [← hw2]; exact (Kept.refl _ _).alloc _
        have OB := hid (show w2.heap[ob]? = some (opRow kd t1 t2 t3 age bo ws.length bc) by rw [← hw2, ← hob]; exact row_new _ _)
        have OK2 := hid (hok.kept k2 (fun _ _ h => h.elim))
        obtain ⟨z0, z1, z2, z3, z4, z5⟩ := cells6 (row_new wr (opRow kd t1 t2 t3 age bo ws.length bc))
        unfold opRow at hw2 z0 z1 z2 z3 z4 z5
        have HW2 := hid hw2; have HOB := hid hob
        clear hw2 hob
        have K2 := hid (KR.out.trans k2)
        obtain ⟨y0, y1, y2⟩ := cells3 (((KR.out.trans k2).block fb (row_lt FB.out) id).trans FB.out)
        rw [← HW2.out] at y0 y1 y2
        have heq := fun W => tx_eq (t1, t2, t3) (200, 0, 1) W
        unfold txv at heq
        clear hx hok k2
        by_cases e : ((t1, t2, t3) : Tx) = (200, 0, 1)
        · simp only [e, decide_true] at heq
          clear e
          go_wp2
          go_ret
          exact ⟨rfl, by (try rw [HW2.out]); exact (K3.out.mono (fun _ _ h => h.elim) |>.trans (KD.out.mono (fun i _ h => HPw.out i h)) |>.trans (K2.out.mono (fun _ _ h => h.elim)) : Kept (fun i => W.heap.size ≤ i) W w2).below (Nat.le_refl _) (fun _ h => h)⟩
        · simp only [e, decide_false] at heq
          have HNN := hid (show ∀ x ∈ ops.take (k + 1), x.t ≠ (200, 0, 1) from fun x hx => by
            rw [List.take_add_one, HX.out] at hx
            rcases List.mem_append.1 hx with hx | hx
            · exact HNE.out x hx
            · simp at hx
              rw [hx]
              exact e)
          clear e
          go_wp2
          go_roundw
          case rel => exact ⟨k + 1, by go_num, by omega, HNN.out, by first | exact K2.out | (rw [HW2.out]; exact K2.out)⟩
          case measure => (simp only [RowKit.intOf]; omega)
      · obtain rfl : k = N := by omega
        have HNF := hid (show ∀ o ∈ L1, o.tx ≠ (200, 0, 1) from fun o ho => by
          obtain ⟨x, hx, e⟩ := HT1.out o ho
          rw [← e]
          exact HNE.out x (by rw [← HNO.out, List.take_length]; exact hx))
        have FBR := hid ((KR.out.block fb (row_lt FB.out) id).trans FB.out)
        have TW := hid (TD.out.same KR.out)
        have WLW := hid (WLD.out.same KR.out)
        obtain ⟨d0, d1, d2⟩ := cells3 FBR.out
        go_wp2_with fail
        refine wp_region_till (fun w' : World => w'.cell? ⟨fb, 0, none⟩ = some (.int .u8 200) ∧ w'.cell? ⟨fb, 1, none⟩ = some (.int .u32 0) ∧ w'.cell? ⟨fb, 2, none⟩ = some (.int .u32 1)) 12 (by kernel_rfl) (by exact ⟨d0, d1, d2⟩) (fun hHeld => ?_)
        refine till_pure 0 (some 63) (v := ?v7100) (by decide) rfl (by kernel_rfl) (by kernel_rfl) (by kernel_rfl) (by kernel_rfl) (by decide) (fun _ _ _ h => h) (Or.inl ⟨by rfl, ?y7100⟩) (by assumption) ?r7100
        case y7100 => (intro w hSw; clear hSw; go_simp; (try with_reducible rfl))
        simp only [Act.put, List.setIfInBounds_toArray, List.set_cons_zero, List.set_cons_succ]
        refine till_load 1 (some 64) [9, 6, 5] (v := ?v7101) (by decide) rfl (by kernel_rfl) (by kernel_rfl) (by kernel_rfl) (by kernel_rfl) (by kernel_rfl) (by decide) (by decide) (fun _ _ _ h => h) (Or.inl ⟨by rfl, ?y7101⟩) (by assumption) ?r7101
        case y7101 => (intro w hSw; (try dsimp only at hSw); go_simp; (try with_reducible rfl))
        simp only [Act.put, List.setIfInBounds_toArray, List.set_cons_zero, List.set_cons_succ]
        refine till_pure 3 (some 66) (v := ?v7103) (by decide) rfl (by kernel_rfl) (by kernel_rfl) (by kernel_rfl) (by kernel_rfl) (by decide) (fun _ _ _ h => h) (Or.inl ⟨by rfl, ?y7103⟩) (by assumption) ?r7103
        case y7103 => (intro w hSw; clear hSw; go_simp; (try with_reducible rfl))
        simp only [Act.put, List.setIfInBounds_toArray, List.set_cons_zero, List.set_cons_succ]
        refine till_call 2 (by kernel_rfl) rfl (fun K hK => ?_)
        go_simp
        have hk3 := (((Kept.refl (fun _ => False) wr).drew).alloc (.cells #[] 36))
        try dsimp only []
        refine hK.out _ _ (by exact ⟨hk3.cell d0 id, hk3.cell d1 id, hk3.cell d2 id⟩) (fun hHeld => ?_)
        clear hK K
        try simp only [Act.put, List.setIfInBounds_toArray, List.set_cons_zero, List.set_cons_succ]
        refine till_call 4 (by kernel_rfl) rfl (fun K hK => ?_)
        refine step_appd (some 67) rfl (by rfl) (.tmp 65) (.tmp 66) 37 rfl 36 (.agg #[.int .u32 0, .int .u8 0]) 2 8 Try.underlying37 infoW rfl (by decide) (.slice (some ⟨wr.heap.size, 0, none⟩) 0 0) 0 [] rfl (by exact own_empty wr.drew 36 2) _ rfl n (wcells wts) (by exact (WLW.out.same hk3).src) (by have := HWB.out; simp only [maxLen]; omega) (by have := HWB.out; omega) ?_
        intro a6 c6 w6 ho6 hk6 hf6 _
        simp only [Act.put, List.setIfInBounds_toArray, List.set_cons_zero, List.set_cons_succ]
        have k26 : Kept (fun _ => False) wr w6 := hk3.trans' hk6 (fun i hi => by simp [Value.ownBlock] at hi; exact .inr (by omega))
        rw [Nat.zero_add, List.nil_append] at ho6
        rw [Nat.zero_add] at hf6 ⊢
        have hge : ∀ i, (Value.slice a6 n c6).ownBlock = some i → wr.heap.size ≤ i := fun i hi => by
          rcases hf6 i hi with h | h
          · simp [Value.ownBlock] at h; omega
          · simp at h; omega
        have T6 := hid (TW.out.fresh (Q := fun i => P2 i ∨ (Value.slice a6 n c6).ownBlock = some i) k26 (fun _ _ h => h.elim) (fun i hi => hi.imp id (fun h => ⟨hge i h, ho6.lt h⟩)))
        have L6 := hid (ho6.lies (F := fun i => ¬ (P2 i ∨ (Value.slice a6 n c6).ownBlock = some i)) (wcells_one wts) (fun g hg h => h (.inr hg)))
        have K26 := hid k26
        have FB6 := hid ((k26.block fb (row_lt FBR.out) id).trans FBR.out)
        obtain ⟨e0, e1, e2⟩ := cells3 FB6.out
        try dsimp only []
        refine hK.out _ _ (by exact ⟨e0, e1, e2⟩) (fun hHeld => ?_)
        clear hK K
        try simp only [Act.put, List.setIfInBounds_toArray, List.set_cons_zero, List.set_cons_succ]
        refine till_call 5 (by kernel_rfl) rfl (fun K hK => ?_)
        go_simp
        have hask := ask_x T6.out (200, 0, 1) 0 (a := a6) (c := c6) (ws := wts) (by rw [HWL.out]; exact L6.out) HCN1.out HLL1.out
        rw [HWL.out] at hask
        refine hask.mono ?_
        rintro e w7 ⟨v1, v2, rfl, hv1, -, ht7, hk7⟩
        have T7 := hid (ht7.mono (Q := fun i => P2 i ∨ v1.ownBlock = some i) (fun i hi => hi.elim (fun h => .inl (.inl h)) (fun h => .inr (.inl h))))
        have K27 := hid (show Kept (fun i => ¬ P2 i) wr w7 from (K26.out.mono (fun _ _ h => h.elim)).trans' hk7 (fun i hi => .inl (fun hp => hi (.inl hp))))
        have FB7 := hid ((K27.out.block fb (row_lt FBR.out) (fun h => h HPf.out)).trans FBR.out)
        have V1 := hid hv1
        obtain ⟨f0, f1, f2⟩ := cells3 FB7.out
        clear hHeld ho6 hk6 hf6 k26 hge ht7 hk7 T6 L6 K26 d0 d1 d2 e0 e1 e2 hask hk3 hv1
        try dsimp only []
        refine hK.out _ _ (by exact ⟨f0, f1, f2⟩) (fun hHeld => ?_)
        clear hK K
        try simp only [Act.put, List.setIfInBounds_toArray, List.set_cons_zero, List.set_cons_succ]
        refine till_pure 6 (some 62) (v := ?v7106) (by decide) rfl (by kernel_rfl) (by kernel_rfl) (by kernel_rfl) (by kernel_rfl) (by decide) (fun _ _ _ h => h) (Or.inl ⟨by rfl, ?y7106⟩) (by assumption) ?r7106
        case y7106 => (intro w hSw; clear hSw; go_simp; (try with_reducible rfl))
        simp only [Act.put, List.setIfInBounds_toArray, List.set_cons_zero, List.set_cons_succ]
        refine till_pure 7 (some 69) (v := ?v7107) (by decide) rfl (by kernel_rfl) (by kernel_rfl) (by kernel_rfl) (by kernel_rfl) (by decide) (fun _ _ _ h => h) (Or.inl ⟨by rfl, ?y7107⟩) (by assumption) ?r7107
        case y7107 => (intro w hSw; clear hSw; go_simp; (try with_reducible rfl))
        simp only [Act.put, List.setIfInBounds_toArray, List.set_cons_zero, List.set_cons_succ]
        refine till_pure 8 (some 70) (v := ?v7108) (by decide) rfl (by kernel_rfl) (by kernel_rfl) (by kernel_rfl) (by kernel_rfl) (by decide) (fun _ _ _ h => h) (Or.inl ⟨by rfl, ?y7108⟩) (by assumption) ?r7108
        case y7108 => (intro w hSw; clear hSw; go_simp; (try with_reducible rfl))
        simp only [Act.put, List.setIfInBounds_toArray, List.set_cons_zero, List.set_cons_succ]
        refine till_pure 9 (some 71) (v := ?v7109) (by decide) rfl (by kernel_rfl) (by kernel_rfl) (by kernel_rfl) (by kernel_rfl) (by decide) (fun _ _ _ h => h) (Or.inl ⟨by rfl, ?y7109⟩) (by assumption) ?r7109
        case y7109 => (intro w hSw; clear hSw; go_simp; (try with_reducible rfl))
        simp only [Act.put, List.setIfInBounds_toArray, List.set_cons_zero, List.set_cons_succ]
        refine till_pure 10 (some 11) (v := ?v7110) (by decide) rfl (by kernel_rfl) (by kernel_rfl) (by kernel_rfl) (by kernel_rfl) (by decide) (fun _ _ _ h => h) (Or.inl ⟨by rfl, ?y7110⟩) (by assumption) ?r7110
        case y7110 => (intro w hSw; clear hSw; go_simp; (try with_reducible rfl))
        simp only [Act.put, List.setIfInBounds_toArray, List.set_cons_zero, List.set_cons_succ]
        refine till_pure 11 (some 12) (v := ?v7111) (by decide) rfl (by kernel_rfl) (by kernel_rfl) (by kernel_rfl) (by kernel_rfl) (by decide) (fun _ _ _ h => h) (Or.inl ⟨by rfl, ?y7111⟩) (by assumption) ?r7111
        case y7111 => (intro w hSw; clear hSw; go_simp; (try with_reducible rfl))
        simp only [Act.put, List.setIfInBounds_toArray, List.set_cons_zero, List.set_cons_succ]
        refine till_list [] (by kernel_rfl) (by kernel_rfl) (by decide) (by decide) ?_
        simp only [pickOps, List.getElem?_toArray, List.getElem?_cons_zero, List.getElem?_cons_succ]
        clear hHeld
        have KW7 := hid (K3.out.mono (fun _ _ h => h.elim) |>.trans (KD.out.mono (fun i _ h => HPw.out i h)) |>.trans (KR.out.mono (fun _ _ h => h.elim)) |>.trans (K27.out.mono (fun i _ h => HPw.out i (fun hp => h (HP2.out i hp)))) : Kept (fun i => W.heap.size ≤ i) W w7)
        obtain ⟨z, hz⟩ : ∃ z, stO L1 (200, 0, 1) 0 wts = z := ⟨_, rfl⟩
        rw [hz]
        have HZ := hid hz
        clear hz
        by_cases hz0 : z = 0
        · subst hz0
          obtain ⟨⟨r, hr⟩, hlk⟩ := oldest_law HI1.out HY1.out HNF.out HZ.out
          have HHR := hid hr; have HLK := hid hlk
          rw [hr] at V1
          obtain ⟨ga, gc, rfl, hgo, hgn⟩ := V1.out
          obtain ⟨m, hm⟩ : ∃ m, ((200, 0, 1) :: r : List Tx).length = m := ⟨_, rfl⟩
          have hm1 : 0 < m := by rw [← hm]; simp
          have hm1I : 0 < (m : Int) := by omega
          rw [hm] at hgo ⊢
          obtain ⟨g, cg, hse, hs1, hs2⟩ := hgo.some_of_pos hm1
          simp only [Value.slice.injEq] at hse
          obtain ⟨rfl, _, rfl⟩ := hse
          have hlen9 : 3 ≤ (((200, 0, 1) :: r : List Tx).flatMap encT).length := by rw [hgo.len]; omega
          have q0 : w7.cell? ⟨g, 0, none⟩ = some (.int .u8 200) := hgo.cells (g := g) rfl 0 (by omega)
          have q1 : w7.cell? ⟨g, 1, none⟩ = some (.int .u32 0) := hgo.cells (g := g) rfl 1 (by omega)
          have q2 : w7.cell? ⟨g, 2, none⟩ = some (.int .u32 1) := hgo.cells (g := g) rfl 2 (by omega)
          unfold maxLen at hs2
          have Q0 := hid q0; have Q1 := hid q1; have Q2 := hid q2
          have F0 := hid f0; have F1 := hid f1; have F2 := hid f2
          have TL := hid (T7.out.same ((Kept.refl (fun _ => False) w7).drew))
          have heq := fun W => tx_eq (200, 0, 1) (200, 0, 1) W
          simp only [decide_true] at heq
          unfold txv at heq
          clear hgo hgn hm hlen9 q0 q1 q2 f0 f1 f2 V1 hr hlk
          go_wp2_with fail
          refine wp_region_held_drew (S := fun w' => w'.cell? ⟨fb, 0, none⟩ = some (.int .u8 200) ∧ w'.cell? ⟨fb, 1, none⟩ = some (.int .u32 0) ∧ w'.cell? ⟨fb, 2, none⟩ = some (.int .u32 1) ∧ w'.cell? ⟨g, 0, none⟩ = some (.int .u8 200) ∧ w'.cell? ⟨g, 1, none⟩ = some (.int .u32 0) ∧ w'.cell? ⟨g, 2, none⟩ = some (.int .u32 1)) (by kernel_rfl) (by exact ⟨F0.out, F1.out, F2.out, Q0.out, Q1.out, Q2.out⟩) (fun hHeld => ?_)
          refine wpAnyH_at 0 (some 82) (v := ?v800) (by decide) rfl (by kernel_rfl) (by kernel_rfl) (by kernel_rfl) (fun _ _ _ h => h) (Or.inl ⟨by rfl, ?y800⟩) (by assumption) ?r800
          case y800 => (intro w hSw; (try dsimp only at hSw); go_simp; (try with_reducible rfl))
          simp only [Act.put, List.setIfInBounds_toArray, List.set_cons_zero, List.set_cons_succ]
          refine wpAnyH_at 1 (some 83) (v := ?v801) (by decide) rfl (by kernel_rfl) (by kernel_rfl) (by kernel_rfl) (fun _ _ _ h => h) (Or.inl ⟨by rfl, ?y801⟩) (by assumption) ?r801
          case y801 => (intro w hSw; (try dsimp only at hSw); go_simp; (try with_reducible rfl))
          simp only [Act.put, List.setIfInBounds_toArray, List.set_cons_zero, List.set_cons_succ]
          refine wpAnyH_at 2 (some 84) (v := ?v802) (by decide) rfl (by kernel_rfl) (by kernel_rfl) (by kernel_rfl) (fun _ _ _ h => h) (Or.inl ⟨by rfl, ?y802⟩) (by assumption) ?r802
          case y802 => (intro w hSw; (try dsimp only at hSw); go_simp; (try with_reducible rfl))
          simp only [Act.put, List.setIfInBounds_toArray, List.set_cons_zero, List.set_cons_succ]
          refine wpAnyH_at 3 (some 85) (v := ?v803) (by decide) rfl (by kernel_rfl) (by kernel_rfl) (by kernel_rfl) (fun _ _ _ h => h) (Or.inl ⟨by rfl, ?y803⟩) (by assumption) ?r803
          case y803 => (intro w hSw; (try dsimp only at hSw); go_simp; (try with_reducible rfl))
          simp only [Act.put, List.setIfInBounds_toArray, List.set_cons_zero, List.set_cons_succ]
          refine wpAnyH_at 4 (some 86) (v := ?v804) (by decide) rfl (by kernel_rfl) (by kernel_rfl) (by kernel_rfl) (fun _ _ _ h => h) (Or.inl ⟨by rfl, ?y804⟩) (by assumption) ?r804
          case y804 => (intro w hSw; (try dsimp only at hSw); go_simp; (try with_reducible rfl))
          simp only [Act.put, List.setIfInBounds_toArray, List.set_cons_zero, List.set_cons_succ]
          refine wpAnyH_at 5 (some 87) (v := ?v805) (by decide) rfl (by kernel_rfl) (by kernel_rfl) (by kernel_rfl) (fun _ _ _ h => h) (Or.inl ⟨by rfl, ?y805⟩) (by assumption) ?r805
          case y805 => (intro w hSw; (try dsimp only at hSw); go_simp; (try with_reducible rfl))
          simp only [Act.put, List.setIfInBounds_toArray, List.set_cons_zero, List.set_cons_succ]
          refine wpAnyH_at 6 (some 88) (v := ?v806) (by decide) rfl (by kernel_rfl) (by kernel_rfl) (by kernel_rfl) (fun _ _ _ h => h) (Or.inl ⟨by rfl, ?y806⟩) (by assumption) ?r806
          case y806 => (intro w hSw; (try dsimp only at hSw); go_simp; (try with_reducible rfl))
          simp only [Act.put, List.setIfInBounds_toArray, List.set_cons_zero, List.set_cons_succ]
          refine wpAnyH_at 7 (some 89) (v := ?v807) (by decide) rfl (by kernel_rfl) (by kernel_rfl) (by kernel_rfl) (fun _ _ _ h => h) (Or.inl ⟨by rfl, ?y807⟩) (by assumption) ?r807
          case y807 => (intro w hSw; (try dsimp only at hSw); go_simp; (try with_reducible rfl))
          simp only [Act.put, List.setIfInBounds_toArray, List.set_cons_zero, List.set_cons_succ]
          refine wpAnyH_at 8 (some 90) (v := ?v808) (by decide) rfl (by kernel_rfl) (by kernel_rfl) (by kernel_rfl) (fun _ _ _ h => h) (Or.inl ⟨by rfl, ?y808⟩) (by assumption) ?r808
          case y808 => (intro w hSw; (try dsimp only at hSw); go_simp; (try with_reducible rfl))
          simp only [Act.put, List.setIfInBounds_toArray, List.set_cons_zero, List.set_cons_succ]
          refine wpAnyH_at 9 (some 91) (v := ?v809) (by decide) rfl (by kernel_rfl) (by kernel_rfl) (by kernel_rfl) (fun _ _ _ h => h) (Or.inl ⟨by rfl, ?y809⟩) (by assumption) ?r809
          case y809 => (intro w hSw; (try dsimp only at hSw); go_simp; (try with_reducible rfl))
          simp only [Act.put, List.setIfInBounds_toArray, List.set_cons_zero, List.set_cons_succ]
          refine wpAnyH_at 10 (some 92) (v := ?v810) (by decide) rfl (by kernel_rfl) (by kernel_rfl) (by kernel_rfl) (fun _ _ _ h => h) (Or.inl ⟨by rfl, ?y810⟩) (by assumption) ?r810
          case y810 => (intro w hSw; (try dsimp only at hSw); go_simp; (try with_reducible rfl))
          simp only [Act.put, List.setIfInBounds_toArray, List.set_cons_zero, List.set_cons_succ]
          refine wpAnyH_at 11 (some 93) (v := ?v811) (by decide) rfl (by kernel_rfl) (by kernel_rfl) (by kernel_rfl) (fun _ _ _ h => h) (Or.inl ⟨by rfl, ?y811⟩) (by assumption) ?r811
          case y811 => (intro w hSw; (try dsimp only at hSw); go_simp; (try with_reducible rfl))
          simp only [Act.put, List.setIfInBounds_toArray, List.set_cons_zero, List.set_cons_succ]
          refine wpAnyH_at 12 (some 94) (v := ?v812) (by decide) rfl (by kernel_rfl) (by kernel_rfl) (by kernel_rfl) (fun _ _ _ h => h) (Or.inl ⟨by rfl, ?y812⟩) (by assumption) ?r812
          case y812 => (intro w hSw; (try dsimp only at hSw); go_simp; (try with_reducible rfl))
          simp only [Act.put, List.setIfInBounds_toArray, List.set_cons_zero, List.set_cons_succ]
          refine wpAnyH_at 15 (some 97) (v := ?v815) (by decide) rfl (by kernel_rfl) (by kernel_rfl) (by kernel_rfl) (fun _ _ _ h => h) (Or.inl ⟨by rfl, ?y815⟩) (by assumption) ?r815
          case y815 => (intro w hSw; (try dsimp only at hSw); go_simp; (try with_reducible rfl))
          simp only [Act.put, List.setIfInBounds_toArray, List.set_cons_zero, List.set_cons_succ]
          refine wpAnyH_at 16 (some 98) (v := ?v816) (by decide) rfl (by kernel_rfl) (by kernel_rfl) (by kernel_rfl) (fun _ _ _ h => h) (Or.inl ⟨by rfl, ?y816⟩) (by assumption) ?r816
          case y816 => (intro w hSw; (try dsimp only at hSw); go_simp; (try with_reducible rfl))
          simp only [Act.put, List.setIfInBounds_toArray, List.set_cons_zero, List.set_cons_succ]
          refine wpAnyH_ready (rs := [13]) (by kernel_rfl) (by simp) ?_
          refine AllReadyH.cons rfl (fun K hK => ?_) AllReadyH.nil
          go_simp
          refine (locks_x TL.out (200, 0, 1)).mono ?_
          rintro e w8 ⟨v4, rfl, ⟨la, lc, rfl, -, -⟩, -, hk8⟩
          rw [HLK.out, HWL.out]
          have K8 := hid (KW7.out.trans (((Kept.refl (fun _ => False) w7).drew.trans hk8).mono (fun _ _ h => h.elim)))
          have hS8 := show w8.cell? ⟨fb, 0, none⟩ = some (.int .u8 200) ∧ w8.cell? ⟨fb, 1, none⟩ = some (.int .u32 0) ∧ w8.cell? ⟨fb, 2, none⟩ = some (.int .u32 1) ∧ w8.cell? ⟨g, 0, none⟩ = some (.int .u8 200) ∧ w8.cell? ⟨g, 1, none⟩ = some (.int .u32 0) ∧ w8.cell? ⟨g, 2, none⟩ = some (.int .u32 1) from ⟨hk8.cell F0.out id, hk8.cell F1.out id, hk8.cell F2.out id, hk8.cell Q0.out id, hk8.cell Q1.out id, hk8.cell Q2.out id⟩
          clear hk8 hHeld
          try dsimp only []
          refine hK.out _ _ (by exact hS8) (fun hHeld => ?_)
          clear hK K
          try simp only [Act.put, List.setIfInBounds_toArray, List.set_cons_zero, List.set_cons_succ]
          refine wpAnyH_at 14 (some 96) (v := ?v814) (by decide) rfl (by kernel_rfl) (by kernel_rfl) (by kernel_rfl) (fun _ _ _ h => h) (Or.inl ⟨by rfl, ?y814⟩) (by assumption) ?r814
          case y814 => (intro w hSw; (try dsimp only at hSw); go_simp; (try with_reducible rfl))
          simp only [Act.put, List.setIfInBounds_toArray, List.set_cons_zero, List.set_cons_succ]
          refine wpAnyH_at 17 (some 99) (v := ?v817) (by decide) rfl (by kernel_rfl) (by kernel_rfl) (by kernel_rfl) (fun _ _ _ h => h) (Or.inl ⟨by rfl, ?y817⟩) (by assumption) ?r817
          case y817 => (intro w hSw; (try dsimp only at hSw); go_simp; (try with_reducible rfl))
          simp only [Act.put, List.setIfInBounds_toArray, List.set_cons_zero, List.set_cons_succ]
          refine wpAnyH_at 18 (some 100) (v := ?v818) (by decide) rfl (by kernel_rfl) (by kernel_rfl) (by kernel_rfl) (fun _ _ _ h => h) (Or.inl ⟨by rfl, ?y818⟩) (by assumption) ?r818
          case y818 => (intro w hSw; (try dsimp only at hSw); go_simp; (try with_reducible rfl))
          simp only [Act.put, List.setIfInBounds_toArray, List.set_cons_zero, List.set_cons_succ]
          refine wpAnyH_at 19 (some 4) (v := ?v819) (by decide) rfl (by kernel_rfl) (by kernel_rfl) (by kernel_rfl) (fun _ _ _ h => h) (Or.inl ⟨by rfl, ?y819⟩) (by assumption) ?r819
          case y819 => (intro w hSw; (try dsimp only at hSw); go_simp; (try with_reducible rfl))
          simp only [Act.put, List.setIfInBounds_toArray, List.set_cons_zero, List.set_cons_succ]
          refine wpAnyH_done (by kernel_rfl) ?_ _
          clear hHeld hS8
          go_wp2
          go_ret
          exact ⟨rfl, K8.out.below (Nat.le_refl _) (fun _ h => h)⟩
        · have hz1 : (z != 0) = true := by simpa using hz0
          have hck := chkR_any (WLW.out.kept K27.out (fun g _ h hp => h (HP2.out g hp))) HWL.out
          have hcase : (z = chkW wts) ∨ (chkW wts = 0 ∧ z = 10) := by
            have h1 := HZ.out
            have hw : whoO L1 (200, 0, 1) 0 = emptyO (200, 0, 1) 0 := by
              unfold whoO
              rw [findO_not HNF.out]; rfl
            unfold stO at h1
            by_cases hc : chkW wts ≠ 0
            · rw [if_pos hc] at h1; exact .inl h1.symm
            · rw [if_neg hc, hw, if_neg (by simp [emptyO])] at h1
              refine .inr ⟨by omega, ?_⟩
              split at h1
              · exact h1.symm
              · exact absurd h1.symm hz0
          obtain ⟨q, hq⟩ : ∃ q, chkW wts = q := ⟨_, rfl⟩
          rw [hq] at hck hcase
          have HCK := hid hck
          clear hck hq hz0
          rcases hcase with rfl | ⟨rfl, rfl⟩
          · go_wp2_with fail
            refine HCK.out.mono ?_
            rintro e w8 ⟨rfl, hk8⟩
            have K8 := hid (KW7.out.trans (hk8.mono (fun _ _ h => h.elim)))
            have hzz : (z == z) = true := by simp
            clear hk8
            go_wp2
            go_ret
            exact ⟨ret_bool (by simp), K8.out.below (Nat.le_refl _) (fun _ h => h)⟩
          · go_wp2_with fail
            refine HCK.out.mono ?_
            rintro e w8 ⟨rfl, hk8⟩
            have K8 := hid (KW7.out.trans (hk8.mono (fun _ _ h => h.elim)))
            clear hk8
            go_wp2
            go_ret
            exact ⟨rfl, K8.out.below (Nat.le_refl _) (fun _ h => h)⟩
set_option maxRecDepth 100000 in
theorem lockOldest_lifted (os : Os) (started : os.Started) (H : Type) (enc : TypeId × Value → H) :
    ReturnsInHanded {} Try.checked os 5 .any (Rows.lockOldestSpec.pre6 enc Try.prog Try.f5 Rows.lockOldestRow.domain false) (Rows.lockOldestSpec.post enc Try.prog Try.f5 false true false false) :=
  lawLift (C := Try.checked) (s := Rows.lockOldestSpec) (bt := 4) (by kernel_rfl) started (by kernel_rfl) Try.func5 (by kernel_rfl)
    (by rw [Try.params5]; intro t ht; simp only [List.mem_cons, List.not_mem_nil, or_false] at ht; rcases ht with rfl | rfl <;> exact ⟨by kernel_rfl, of_decide_eq_true (by kernel_rfl)⟩)
    rfl rfl Try.underlying4 (by intro ds h; rw [Try.params5] at h; match ds, h with | [_, _], _ => rfl)
    (ChangeSpec.witness6 (enc := enc) (C := Try.checked) false ⟨#[], #[.slice none 0 0, .slice none 0 0], []⟩ 8 (by kernel_rfl) (by kernel_rfl) (by kernel_rfl) (by kernel_rfl))
    oldest_walk
theorem lockOldest_holds : Rows.LockOldestSaid :=
  OpenClaim.holds_of_wide 5 Try.f5 rfl rfl rfl rfl rfl rfl rfl ⟨rfl, rfl, rfl, rfl, rfl⟩ rfl rfl rfl rfl rfl (by kernel_rfl) Try.func5 (by kernel_rfl)
    (of_decide_eq_true (by kernel_rfl)) (by unfold Func.isWrapper; rw [if_neg (of_decide_eq_false (by kernel_rfl))]; exact ⟨rfl, rfl⟩)
    (fun os started H enc _ => lockOldest_lifted os started H enc)
#print axioms lockOldest_holds
end Go.Proofs.Ytpjhdpfaogdboaa
