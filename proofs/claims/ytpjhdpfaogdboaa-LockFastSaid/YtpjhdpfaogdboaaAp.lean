/- PROVED: the law LockApart returns true for every input and leaves its arguments as they were. No condition. -/
import Derived.Test.YtpjhdpfaogdboaaMv
import Derived.Test.YtpjhdpfaogdboaaCl
import Derived.Deep.CutBlock
namespace Go.Proofs.Ytpjhdpfaogdboaa
set_option linter.unusedSimpArgs false
set_option linter.unusedVariables false
open Go.RowKit
theorem Wts.lies {w0 w : World} {v : Value} {l : List Wt} (h : Wts w0 w v l) : ∃ a c, v = .slice a l.length c ∧ Lies (fun _ => False) w 2 (.slice a l.length c) l.length (wcells l) := by
  obtain ⟨a, c, rfl, ho, hn⟩ := h
  exact ⟨a, c, rfl, ho.lies (wcells_one _) (fun _ _ => id)⟩
set_option maxRecDepth 100000 in
set_option maxHeartbeats 8000000 in
theorem apart_walk (W : World) (args : Array Value) (h : RdAll Try.prog W Try.f6.params.toList args.toList) :
    Calls Try.prog 6 args W fun e W' => e = .returned (.bool true) ∧ Below W.heap.size W W' := by
  rw [Try.params6] at h
  obtain ⟨v0, rfl⟩ : ∃ v0, args = #[v0] := by
    rcases args with ⟨_ | ⟨v0, _ | ⟨v1, l⟩⟩⟩ <;> simp [RdAll] at h
    exact ⟨v0, rfl⟩
  obtain ⟨r0, _⟩ := h
  obtain ⟨a, N, cap, rfl, h1⟩ := r0.slice Try.underlying40
  obtain ⟨ops, hsc⟩ := scr_read h1
  have HNO := hid hsc.1
  have hNc := hsc.2.1
  have hcm := hsc.2.2.1
  unfold maxLen at hcm
  have SC := hid hsc
  clear h1 r0 hsc
  go_enter Try.func6, Try.ntmps6
  go_wp2_with fail
  refine (awake_any _).mono ?_; rintro e w1 ⟨rfl, hk1⟩
  have K1 := hid hk1
  clear hk1
  go_wp2_with fail
  refine (new_x w1).mono ?_
  rintro e w2 ⟨tb, rfl, ht, hle, hk⟩
  have K2 := hid (K1.out.trans hk)
  have hwz := K1.out.size
  have T2 := hid (ht.mono (Q := fun i => i < W.heap.size) (fun i hi => by omega))
  clear ht hle hk hwz K1
  go_wp2_with fail
  refine (known_any (SC.out.kept K2.out (fun _ _ h => h.elim))).mono ?_
  rintro e w3 ⟨nv, rfl, ⟨na, nc, rfl, hno, hnn⟩, hk3⟩
  obtain ⟨NM, hNM⟩ : ∃ NM, knP (ops.take 80) = NM := ⟨_, rfl⟩
  have HND := hid (show NM.Nodup by rw [← hNM]; exact knP_nodup _)
  rw [hNM] at hno hnn ⊢
  obtain ⟨M, hM⟩ : ∃ M, NM.length = M := ⟨_, rfl⟩
  have hM80 : M ≤ 80 := by
    have := knK_len ops 80
    unfold knK at this
    rw [show min 80 80 = 80 from rfl, hNM, hM] at this
    exact this
  rw [hM] at hno hnn ⊢
  have HM := hid hM
  obtain ⟨P, hP⟩ : ∃ P : Nat → Prop, (fun i => i < W.heap.size ∨ (Value.slice na M nc).ownBlock = some i) = P := ⟨_, rfl⟩
  have HP1 := hid (show ∀ i, i < W.heap.size → P i from fun i hi => by rw [← hP]; exact .inl hi)
  have HPn := hid (show ∀ b, (Value.slice na M nc).ownBlock = some b → P b from fun b hb => by rw [← hP]; exact .inr hb)
  have T3 := hid (show TabX P w3 tb [] from T2.out.fresh hk3 (fun _ _ h => h.elim) (fun i hi => by
    rw [← hP] at hi
    exact hi.imp id (fun h => ⟨hnn i h, hno.lt h⟩)))
  have S3 := hid ((SC.out.kept (K2.out.trans hk3) (fun _ _ h => h.elim)).mono (G := fun g => ¬ P g) (fun g hg => by
    rcases Nat.lt_or_ge g W.heap.size with h | h
    · exact absurd (HP1.out g h) hg
    · exact h))
  have NO := hid hno
  have K3 := hid (K2.out.trans hk3)
  clear hno hnn hNM hM hP hk3 T2 K2 SC
  go_wp2_with fail
  go_loopw [19] (fun i wr => ∃ (k : Nat) (L : List Ow), i = .int .i64 k ∧ k ≤ N ∧ k ≤ 80 ∧ runL true [] (ops.take k) = L ∧ TabX P wr tb L ∧ Kept (fun i => ¬ P i) w3 wr) (fun i _ => N - (RowKit.intOf i).toNat)
  case atStart => exact ⟨0, [], rfl, Nat.zero_le _, Nat.zero_le _, rfl, T3.out, Kept.refl _ _⟩
  case round =>
    rename World => wr
    clear T3
    obtain ⟨k, L, rfl, hk, hk80, hrl, ht, hkw⟩ := hrel
    have HRL := hid hrl; have TR := hid ht; have KR := hid hkw
    obtain ⟨hinv, hlen, htx⟩ := run_all hrl
    have HLL := hid (show L.length ≤ 900000 by omega)
    have HCN := hid (cnt_ok hinv hlen (by omega))
    have KF := hid (show Kept (fun i => W.heap.size ≤ i) W wr from (K3.out.mono (fun _ _ h => h.elim)).trans' hkw (fun i hi => .inl (by
      rcases Nat.lt_or_ge i W.heap.size with h | h
      · exact absurd (HP1.out i h) hi
      · exact h)))
    clear hrl ht hkw hinv hlen htx
    by_cases hlt : k < N
    · have hltI : (k : Int) < (N : Int) := by omega
      obtain ⟨x, hx⟩ : ∃ x, ops[k]? = some x := ⟨_, List.getElem?_eq_getElem (by rw [HNO.out]; exact hlt)⟩
      have HST := hid (run_take hx HRL.out)
      have S4 := hid (S3.out.kept KR.out (fun _ _ h => h))
      obtain ⟨b, off, bo, bc, rfl, c0, c1, c2, c3, c4, c5, hok⟩ := op_cells S4.out hx
      obtain ⟨kd, ⟨t1, t2, t3⟩, age, ws⟩ := x
      simp only at c0 c1 c2 c3 c4 c5
      obtain ⟨ob, hob⟩ : ∃ ob, wr.heap.size = ob := ⟨_, rfl⟩
      obtain ⟨w2, hw2⟩ : ∃ w2, wr.alloc (opRow kd t1 t2 t3 age bo ws.length bc) = w2 := ⟨_, rfl⟩
      have k2 : Kept (fun _ => False) wr w2 := by rw [← hw2]; exact (Kept.refl _ _).alloc _
      have OB := hid (show w2.heap[ob]? = some (opRow kd t1 t2 t3 age bo ws.length bc) by rw [← hw2, ← hob]; exact row_new _ _)
      have OK2 := hid (hok.kept k2 (fun _ _ h => h.elim))
      obtain ⟨z0, z1, z2, z3, z4, z5⟩ := cells6 (row_new wr (opRow kd t1 t2 t3 age bo ws.length bc))
      unfold opRow at hw2 z0 z1 z2 z3 z4 z5
      have HW2 := hid hw2; have HOB := hid hob
      clear hw2 hob
      have T2 := hid (TR.out.same k2)
      have K2 := hid k2
      clear hx hok k2
      by_cases h80 : k < 80
      · have h80D : decide ((80 : Int) ≤ (k : Int)) = false := by simp; omega
        go_upto_block 2 with fail
        try rw [HW2.out]
        try rw [HOB.out]
        clear HW2 HOB c0 c1 c2 c3 c4 c5 z0 z1 z2 z3 z4 z5
        obtain ⟨d0, d1, d2, d3, d4, d5⟩ := cells6 OB.out
        go_cut [] from 28 to 51 (fun wx => ∃ L', runL true [] (ops.take (k + 1)) = L' ∧ TabX P wx tb L' ∧ Kept (fun i => ¬ P i) w3 wx)
        case first =>
          rcases (show kd = 0 ∨ kd = 1 ∨ kd = 2 ∨ (kd ≠ 0 ∧ kd ≠ 1 ∧ kd ≠ 2) by omega) with rfl | rfl | rfl | ⟨n0, n1, n2⟩
          · have HSN := hid (HST.out.trans (stepL0 true L (t1, t2, t3) age ws))
            go_wp2_with fail
            refine wp_region_till (fun w' : World => w'.cell? ⟨ob, 1, none⟩ = some (.int .u8 t1) ∧ w'.cell? ⟨ob, 2, none⟩ = some (.int .u32 t2) ∧ w'.cell? ⟨ob, 3, none⟩ = some (.int .u32 t3) ∧ w'.cell? ⟨ob, 4, none⟩ = some (.int .u64 age) ∧ w'.cell? ⟨ob, 5, none⟩ = some (.slice bo ws.length bc)) 9 (by kernel_rfl) (by exact ⟨d1, d2, d3, d4, d5⟩) (fun hHeld => ?_)
            refine till_pure 0 (some 30) (v := ?v3100) (by decide) rfl (by kernel_rfl) (by kernel_rfl) (by kernel_rfl) (by kernel_rfl) (by decide) (fun _ _ _ h => h) (Or.inl ⟨by rfl, ?y3100⟩) (by assumption) ?r3100
            case y3100 => (intro w hSw; clear hSw; go_simp; (try with_reducible rfl))
            simp only [Act.put, List.setIfInBounds_toArray, List.set_cons_zero, List.set_cons_succ]
            refine till_pure 1 (some 31) (v := ?v3101) (by decide) rfl (by kernel_rfl) (by kernel_rfl) (by kernel_rfl) (by kernel_rfl) (by decide) (fun _ _ _ h => h) (Or.inl ⟨by rfl, ?y3101⟩) (by assumption) ?r3101
            case y3101 => (intro w hSw; clear hSw; go_simp; (try with_reducible rfl))
            simp only [Act.put, List.setIfInBounds_toArray, List.set_cons_zero, List.set_cons_succ]
            refine till_load 2 (some 32) [] (v := ?v3102) (by decide) rfl (by kernel_rfl) (by kernel_rfl) (by kernel_rfl) (by kernel_rfl) (by kernel_rfl) (by decide) (by decide) (fun _ _ _ h => h) (Or.inl ⟨by rfl, ?y3102⟩) (by assumption) ?r3102
            case y3102 => (intro w hSw; (try dsimp only at hSw); go_simp; (try with_reducible rfl))
            simp only [Act.put, List.setIfInBounds_toArray, List.set_cons_zero, List.set_cons_succ]
            refine till_pure 3 (some 33) (v := ?v3103) (by decide) rfl (by kernel_rfl) (by kernel_rfl) (by kernel_rfl) (by kernel_rfl) (by decide) (fun _ _ _ h => h) (Or.inl ⟨by rfl, ?y3103⟩) (by assumption) ?r3103
            case y3103 => (intro w hSw; clear hSw; go_simp; (try with_reducible rfl))
            simp only [Act.put, List.setIfInBounds_toArray, List.set_cons_zero, List.set_cons_succ]
            refine till_load 4 (some 34) [] (v := ?v3104) (by decide) rfl (by kernel_rfl) (by kernel_rfl) (by kernel_rfl) (by kernel_rfl) (by kernel_rfl) (by decide) (by decide) (fun _ _ _ h => h) (Or.inl ⟨by rfl, ?y3104⟩) (by assumption) ?r3104
            case y3104 => (intro w hSw; (try dsimp only at hSw); go_simp; (try with_reducible rfl))
            simp only [Act.put, List.setIfInBounds_toArray, List.set_cons_zero, List.set_cons_succ]
            refine till_pure 6 (some 36) (v := ?v3106) (by decide) rfl (by kernel_rfl) (by kernel_rfl) (by kernel_rfl) (by kernel_rfl) (by decide) (fun _ _ _ h => h) (Or.inl ⟨by rfl, ?y3106⟩) (by assumption) ?r3106
            case y3106 => (intro w hSw; clear hSw; go_simp; (try with_reducible rfl))
            simp only [Act.put, List.setIfInBounds_toArray, List.set_cons_zero, List.set_cons_succ]
            refine till_load 7 (some 37) [8] (v := ?v3107) (by decide) rfl (by kernel_rfl) (by kernel_rfl) (by kernel_rfl) (by kernel_rfl) (by kernel_rfl) (by decide) (by decide) (fun _ _ _ h => h) (Or.inl ⟨by rfl, ?y3107⟩) (by assumption) ?r3107
            case y3107 => (intro w hSw; (try dsimp only at hSw); go_simp; (try with_reducible rfl))
            simp only [Act.put, List.setIfInBounds_toArray, List.set_cons_zero, List.set_cons_succ]
            refine till_call 5 (by kernel_rfl) rfl (fun K hK => ?_)
            go_simp
            have hS3 := sop_kept (((Kept.refl (fun _ => False) w2).drew).alloc (.cells #[] 36)) ⟨d1, d2, d3, d4, d5⟩
            try dsimp only []
            refine hK.out _ _ (by exact hS3) (fun hHeld => ?_)
            clear hK K
            try simp only [Act.put, List.setIfInBounds_toArray, List.set_cons_zero, List.set_cons_succ]
            refine till_call 8 (by kernel_rfl) rfl (fun K hK => ?_)
            refine step_appd (some 38) rfl (by rfl) (.tmp 35) (.tmp 37) 37 rfl 36 (.agg #[.int .u32 0, .int .u8 0]) 2 8 Try.underlying37 infoW rfl (by decide) (.slice (some ⟨w2.heap.size, 0, none⟩) 0 0) 0 [] rfl (by exact own_empty w2.drew 36 2) _ rfl ws.length (wcells ws) (by exact (OK2.out.b.same (((Kept.refl (fun _ => False) w2).drew).alloc (.cells #[] 36))).src) (by have := OK2.out.l; simp only [maxLen]; simp only at this; omega) (by have := OK2.out.l; simp only at this; omega) ?_
            intro a6 c6 w6 ho6 hk6 hf6 _
            simp only [Act.put, List.setIfInBounds_toArray, List.set_cons_zero, List.set_cons_succ]
            have k26 : Kept (fun _ => False) w2 w6 := (((Kept.refl (fun _ => False) w2).drew).alloc (.cells #[] 36)).trans' hk6 (fun i hi => by simp [Value.ownBlock] at hi; exact .inr (by omega))
            rw [Nat.zero_add, List.nil_append] at ho6
            rw [Nat.zero_add] at hf6 ⊢
            have hge : ∀ i, (Value.slice a6 ws.length c6).ownBlock = some i → w2.heap.size ≤ i := fun i hi => by
              rcases hf6 i hi with h | h
              · simp [Value.ownBlock] at h; omega
              · simp at h; omega
            have T6 := hid (T2.out.fresh (Q := fun i => P i ∨ (Value.slice a6 ws.length c6).ownBlock = some i) k26 (fun _ _ h => h.elim) (fun i hi => hi.imp id (fun h => ⟨hge i h, ho6.lt h⟩)))
            have L6 := hid (ho6.lies (F := fun i => ¬ (P i ∨ (Value.slice a6 ws.length c6).ownBlock = some i)) (wcells_one ws) (fun g hg h => h (.inr hg)))
            have hS6 := sop_kept k26 ⟨d1, d2, d3, d4, d5⟩
            have K26 := hid k26
            have HGE := hid hge
            try dsimp only []
            refine hK.out _ _ (by exact hS6) (fun hHeld => ?_)
            clear hK K
            try simp only [Act.put, List.setIfInBounds_toArray, List.set_cons_zero, List.set_cons_succ]
            refine till_list [] (by kernel_rfl) (by kernel_rfl) (by decide) (by decide) ?_
            simp only [pickOps, List.getElem?_toArray, List.getElem?_cons_zero, List.getElem?_cons_succ]
            clear hHeld hS3 hS6 ho6 hk6 hf6 k26 hge d1 d2 d3 d4 d5
            go_wp2_with fail
            refine (ask_x T6.out (t1, t2, t3) age (ws := ws) L6.out HCN.out HLL.out).mono ?_
            rintro e w7 ⟨v1, v2, rfl, -, -, ht7, hk7⟩
            have T7 := hid (ht7.mono (Q := P) (fun i hi => .inl (.inl hi)))
            have K27 := hid (show Kept (fun i => ¬ P i) w2 w7 from (K26.out.mono (fun _ _ h => h.elim)).trans' hk7 (fun i hi => .inl (fun hp => hi (.inl hp))))
            clear ht7 hk7 T6 L6 K26 HGE
            have KN := hid (KR.out.trans ((K2.out.mono (fun _ _ h => h.elim)).trans K27.out))
            go_wp2_with fail
            go_meet
            exact ⟨_, HSN.out, T7.out, KN.out⟩
          · have HSN := hid (HST.out.trans (stepL1 L (t1, t2, t3) age ws))
            go_wp2_with fail
            refine (hold_x T2.out (t1, t2, t3)).mono ?_
            rintro e w7 ⟨rfl, ht7, hk7⟩
            have T7 := hid ht7
            have KN := hid (KR.out.trans ((K2.out.mono (fun _ _ h => h.elim)).trans hk7))
            clear ht7 hk7 d0 d1 d2 d3 d4 d5
            go_wp2_with fail
            go_meet
            exact ⟨_, HSN.out, T7.out, KN.out⟩
          · have HSN := hid (HST.out.trans (stepL2 true L (t1, t2, t3) age ws))
            go_wp2_with fail
            refine (rel_x T2.out (t1, t2, t3) (by have := HLL.out; omega)).mono ?_
            rintro e w7 ⟨v1, rfl, -, ht7, hk7⟩
            have T7 := hid (ht7.mono (Q := P) (fun i hi => .inl hi))
            have KN := hid (KR.out.trans ((K2.out.mono (fun _ _ h => h.elim)).trans hk7))
            clear ht7 hk7 d0 d1 d2 d3 d4 d5
            go_wp2_with fail
            go_meet
            exact ⟨_, HSN.out, T7.out, KN.out⟩
          · have HSN := hid (HST.out.trans (stepLx n0 n1 n2))
            have KN := hid (KR.out.trans (K2.out.mono (fun _ _ h => h.elim)))
            have h0 : (kd == 0) = false := by simpa using n0
            have h1 : (kd == 1) = false := by simpa using n1
            have h2 : (kd == 2) = false := by simpa using n2
            clear n0 n1 n2
            go_wp2_with fail
            go_meet
            exact ⟨_, HSN.out, T2.out, KN.out⟩
        case rest =>
          obtain ⟨L', hrl', ht', hk'⟩ := hcut
          rename World => wc
          have HRL' := hid hrl'; have TC := hid ht'; have KC := hid hk'
          have HIN := hid (run_all hrl').1
          clear hrl' ht' hk' d0 d1 d2 d3 d4 d5
          obtain ⟨b1, hb1⟩ : ∃ b, ((k : Int) % 4 != 3) = b := ⟨_, rfl⟩
          obtain ⟨b2, hb2⟩ : ∃ b, ((k : Int) != (N : Int) - 1) = b := ⟨_, rfl⟩
          have hNI : (k : Int) < (N : Int) := hltI
          cases b1 with
          | true =>
            cases b2 with
            | true =>
              go_wp2
              go_roundw
              case rel => exact ⟨k + 1, _, by go_num, by omega, by omega, HRL'.out, TC.out, KC.out⟩
              case measure => (simp only [RowKit.intOf]; omega)
            | false =>
              go_wp2_with fail
              go_loopw [64] (fun i wv => ∃ j : Nat, i = .int .i64 j ∧ j ≤ M ∧ TabX P wv tb L' ∧ Kept (fun i => ¬ P i) w3 wv) (fun i _ => M - (RowKit.intOf i).toNat)
              case atStart => exact ⟨0, rfl, Nat.zero_le _, TC.out, KC.out⟩
              case round =>
                rename World => wv
                obtain ⟨j, rfl, hj, ht, hkv⟩ := hrel
                have TV := hid ht; have KV := hid hkv
                clear ht hkv
                by_cases hjm : j < M
                · have hjI : (j : Int) < (M : Int) := by omega
                  obtain ⟨⟨a1, a2, a3⟩, hx⟩ : ∃ x, NM[j]? = some x := ⟨_, List.getElem?_eq_getElem (by rw [HM.out]; exact hjm)⟩
                  have hli := ((NO.out.kept KV.out (fun b hb h => h (HPn.out b hb))).lies (encT_one _) (F := fun _ => False) (fun _ _ => id))
                  have hcp := cap_of hli
                  unfold maxLen at hcp
                  obtain ⟨hcp1, hcp2⟩ := hcp
                  obtain ⟨g, o, rfl, q0, q1, q2⟩ := tx_cells hli HM.out (Kept.refl _ _) hx
                  simp only at q0 q1 q2
                  obtain ⟨ab, hab⟩ : ∃ ab, wv.heap.size = ab := ⟨_, rfl⟩
                  obtain ⟨w6, hw6⟩ : ∃ w6, wv.alloc (.cells #[.int .u8 a1, .int .u32 a2, .int .u32 a3] 32) = w6 := ⟨_, rfl⟩
                  have k6 : Kept (fun _ => False) wv w6 := by rw [← hw6]; exact (Kept.refl _ _).alloc _
                  obtain ⟨z0, z1, z2⟩ := cells3 (row_new wv (.cells #[.int .u8 a1, .int .u32 a2, .int .u32 a3] 32))
                  have T6 := hid (TV.out.same k6)
                  have K6 := hid (KV.out.trans (k6.mono (fun _ _ h => h.elim)))
                  have HX := hid hx; have HW6 := hid hw6; have HLI := hid hli
                  clear hx hli k6 hw6 hab
                  go_wp2_with fail
                  try rw [HW6.out]
                  clear HW6 q0 q1 q2 z0 z1 z2
                  refine (locks_x T6.out (a1, a2, a3)).mono ?_
                  rintro e w7 ⟨v1, rfl, ⟨l1, l2, rfl, hlo, hln⟩, ht7, hk7⟩
                  have T7 := hid (ht7.mono (Q := P) (fun i hi => .inl hi))
                  have K7 := hid (K6.out.trans (hk7.mono (fun _ _ h => h.elim)))
                  obtain ⟨LA, hLA⟩ : ∃ LA, locksP L' (a1, a2, a3) = LA := ⟨_, rfl⟩
                  rw [hLA] at hlo ⊢
                  have HLA := hid hLA
                  obtain ⟨nA, hnA⟩ : ∃ nA, LA.length = nA := ⟨_, rfl⟩
                  rw [hnA] at hlo ⊢
                  have HnA := hid hnA
                  have LO := hid hlo
                  have hjc : j ≤ nc := by omega
                  have hjcI : (j : Int) ≤ (nc : Int) := by omega
                  clear hlo hln ht7 hk7 hLA hnA
                  go_wp2_with fail
                  go_loopw [76] (fun i wx => ∃ q : Nat, i = .int .i64 q ∧ q ≤ j ∧ Kept (fun _ => False) w7 wx) (fun i _ => j - (RowKit.intOf i).toNat)
                  case atStart => exact ⟨0, rfl, Nat.zero_le _, Kept.refl _ _⟩
                  case round =>
                    rename World => wx
                    obtain ⟨q, rfl, hq, hkx⟩ := hrel
                    have KX := hid hkx
                    clear hkx
                    by_cases hqj : q < j
                    · have hqI : (q : Int) < (j : Int) := by omega
                      obtain ⟨⟨b1, b2, b3⟩, hy⟩ : ∃ x, NM[q]? = some x := ⟨_, List.getElem?_eq_getElem (by rw [HM.out]; omega)⟩
                      have hne : ((a1, a2, a3) : Tx) ≠ (b1, b2, b3) := fun e => by
                        have h1 := HX.out
                        rw [e] at h1
                        have := nodup_inj HND.out h1 hy
                        omega
                      have HCL := hid (show clash LA (locksP L' (b1, b2, b3)) = false by rw [← HLA.out]; exact locksP_apart HIN.out hne)
                      have hli2 := ((NO.out.kept ((K7.out).trans (KX.out.mono (fun _ _ h => h.elim))) (fun b hb h => h (HPn.out b hb))).lies (encT_one _) (F := fun _ => False) (fun _ _ => id))
                      obtain ⟨g2, o2, e2, q0, q1, q2⟩ := tx_cells hli2 HM.out (Kept.refl _ _) hy
                      simp only [Option.some.injEq, Addr.mk.injEq, and_true] at e2
                      obtain ⟨rfl, rfl⟩ := e2
                      simp only at q0 q1 q2
                      obtain ⟨w8, hw8⟩ : ∃ w8, wx.alloc (.cells #[.int .u8 b1, .int .u32 b2, .int .u32 b3] 32) = w8 := ⟨_, rfl⟩
                      have k8 : Kept (fun _ => False) wx w8 := by rw [← hw8]; exact (Kept.refl _ _).alloc _
                      obtain ⟨z0, z1, z2⟩ := cells3 (row_new wx (.cells #[.int .u8 b1, .int .u32 b2, .int .u32 b3] 32))
                      have T8 := hid (T7.out.same (KX.out.trans k8))
                      have HW8 := hid hw8
                      have K8 := hid (KX.out.trans k8)
                      clear hy hli2 k8 hw8 hne
                      go_wp2_with fail
                      try rw [HW8.out]
                      clear HW8 q0 q1 q2 z0 z1 z2
                      refine (locks_x T8.out (b1, b2, b3)).mono ?_
                      rintro e w9 ⟨v2, rfl, ⟨l3, l4, rfl, hlo2, -⟩, -, hk9⟩
                      have K9 := hid (K8.out.trans hk9)
                      have LA9 := hid ((LO.out.kept K9.out (fun _ _ => id)).lies (wcells_one _) (F := fun _ => False) (fun _ _ => id))
                      have LB9 := hid (hlo2.lies (wcells_one _) (F := fun _ => False) (fun _ _ => id))
                      clear hlo2 hk9
                      go_wp2_with fail
                      refine (clash_no LA9.out LB9.out HnA.out rfl HCL.out).mono ?_
                      rintro e w10 ⟨rfl, hk10⟩
                      have K10 := hid (K9.out.trans hk10)
                      clear hk10
                      go_wp2
                      go_roundw
                      case rel => exact ⟨q + 1, by go_num, by omega, K10.out⟩
                      case measure => (simp only [RowKit.intOf]; omega)
                    · obtain rfl : q = j := by omega
                      have TN := hid (T7.out.same KX.out)
                      have KN := hid (K7.out.trans (KX.out.mono (fun _ _ h => h.elim)))
                      go_wp2
                      go_roundw
                      case rel => exact ⟨q + 1, by go_num, by omega, TN.out, KN.out⟩
                      case measure => (simp only [RowKit.intOf]; omega)
                · obtain rfl : j = M := by omega
                  go_wp2
                  go_roundw
                  case rel => exact ⟨k + 1, _, by go_num, by omega, by omega, HRL'.out, TV.out, KV.out⟩
                  case measure => (simp only [RowKit.intOf]; omega)
          | false =>
            go_wp2_with fail
            go_loopw [64] (fun i wv => ∃ j : Nat, i = .int .i64 j ∧ j ≤ M ∧ TabX P wv tb L' ∧ Kept (fun i => ¬ P i) w3 wv) (fun i _ => M - (RowKit.intOf i).toNat)
            case atStart => exact ⟨0, rfl, Nat.zero_le _, TC.out, KC.out⟩
            case round =>
              rename World => wv
              obtain ⟨j, rfl, hj, ht, hkv⟩ := hrel
              have TV := hid ht; have KV := hid hkv
              clear ht hkv
              by_cases hjm : j < M
              · have hjI : (j : Int) < (M : Int) := by omega
                obtain ⟨⟨a1, a2, a3⟩, hx⟩ : ∃ x, NM[j]? = some x := ⟨_, List.getElem?_eq_getElem (by rw [HM.out]; exact hjm)⟩
                have hli := ((NO.out.kept KV.out (fun b hb h => h (HPn.out b hb))).lies (encT_one _) (F := fun _ => False) (fun _ _ => id))
                have hcp := cap_of hli
                unfold maxLen at hcp
                obtain ⟨hcp1, hcp2⟩ := hcp
                obtain ⟨g, o, rfl, q0, q1, q2⟩ := tx_cells hli HM.out (Kept.refl _ _) hx
                simp only at q0 q1 q2
                obtain ⟨ab, hab⟩ : ∃ ab, wv.heap.size = ab := ⟨_, rfl⟩
                obtain ⟨w6, hw6⟩ : ∃ w6, wv.alloc (.cells #[.int .u8 a1, .int .u32 a2, .int .u32 a3] 32) = w6 := ⟨_, rfl⟩
                have k6 : Kept (fun _ => False) wv w6 := by rw [← hw6]; exact (Kept.refl _ _).alloc _
                obtain ⟨z0, z1, z2⟩ := cells3 (row_new wv (.cells #[.int .u8 a1, .int .u32 a2, .int .u32 a3] 32))
                have T6 := hid (TV.out.same k6)
                have K6 := hid (KV.out.trans (k6.mono (fun _ _ h => h.elim)))
                have HX := hid hx; have HW6 := hid hw6; have HLI := hid hli
                clear hx hli k6 hw6 hab
                go_wp2_with fail
                try rw [HW6.out]
                clear HW6 q0 q1 q2 z0 z1 z2
                refine (locks_x T6.out (a1, a2, a3)).mono ?_
                rintro e w7 ⟨v1, rfl, ⟨l1, l2, rfl, hlo, hln⟩, ht7, hk7⟩
                have T7 := hid (ht7.mono (Q := P) (fun i hi => .inl hi))
                have K7 := hid (K6.out.trans (hk7.mono (fun _ _ h => h.elim)))
                obtain ⟨LA, hLA⟩ : ∃ LA, locksP L' (a1, a2, a3) = LA := ⟨_, rfl⟩
                rw [hLA] at hlo ⊢
                have HLA := hid hLA
                obtain ⟨nA, hnA⟩ : ∃ nA, LA.length = nA := ⟨_, rfl⟩
                rw [hnA] at hlo ⊢
                have HnA := hid hnA
                have LO := hid hlo
                have hjc : j ≤ nc := by omega
                have hjcI : (j : Int) ≤ (nc : Int) := by omega
                clear hlo hln ht7 hk7 hLA hnA
                go_wp2_with fail
                go_loopw [76] (fun i wx => ∃ q : Nat, i = .int .i64 q ∧ q ≤ j ∧ Kept (fun _ => False) w7 wx) (fun i _ => j - (RowKit.intOf i).toNat)
                case atStart => exact ⟨0, rfl, Nat.zero_le _, Kept.refl _ _⟩
                case round =>
                  rename World => wx
                  obtain ⟨q, rfl, hq, hkx⟩ := hrel
                  have KX := hid hkx
                  clear hkx
                  by_cases hqj : q < j
                  · have hqI : (q : Int) < (j : Int) := by omega
                    obtain ⟨⟨b1, b2, b3⟩, hy⟩ : ∃ x, NM[q]? = some x := ⟨_, List.getElem?_eq_getElem (by rw [HM.out]; omega)⟩
                    have hne : ((a1, a2, a3) : Tx) ≠ (b1, b2, b3) := fun e => by
                      have h1 := HX.out
                      rw [e] at h1
                      have := nodup_inj HND.out h1 hy
                      omega
                    have HCL := hid (show clash LA (locksP L' (b1, b2, b3)) = false by rw [← HLA.out]; exact locksP_apart HIN.out hne)
                    have hli2 := ((NO.out.kept ((K7.out).trans (KX.out.mono (fun _ _ h => h.elim))) (fun b hb h => h (HPn.out b hb))).lies (encT_one _) (F := fun _ => False) (fun _ _ => id))
                    obtain ⟨g2, o2, e2, q0, q1, q2⟩ := tx_cells hli2 HM.out (Kept.refl _ _) hy
                    simp only [Option.some.injEq, Addr.mk.injEq, and_true] at e2
                    obtain ⟨rfl, rfl⟩ := e2
                    simp only at q0 q1 q2
                    obtain ⟨w8, hw8⟩ : ∃ w8, wx.alloc (.cells #[.int .u8 b1, .int .u32 b2, .int .u32 b3] 32) = w8 := ⟨_, rfl⟩
                    have k8 : Kept (fun _ => False) wx w8 := by rw [← hw8]; exact (Kept.refl _ _).alloc _
                    obtain ⟨z0, z1, z2⟩ := cells3 (row_new wx (.cells #[.int .u8 b1, .int .u32 b2, .int .u32 b3] 32))
                    have T8 := hid (T7.out.same (KX.out.trans k8))
                    have HW8 := hid hw8
                    have K8 := hid (KX.out.trans k8)
                    clear hy hli2 k8 hw8 hne
                    go_wp2_with fail
                    try rw [HW8.out]
                    clear HW8 q0 q1 q2 z0 z1 z2
                    refine (locks_x T8.out (b1, b2, b3)).mono ?_
                    rintro e w9 ⟨v2, rfl, ⟨l3, l4, rfl, hlo2, -⟩, -, hk9⟩
                    have K9 := hid (K8.out.trans hk9)
                    have LA9 := hid ((LO.out.kept K9.out (fun _ _ => id)).lies (wcells_one _) (F := fun _ => False) (fun _ _ => id))
                    have LB9 := hid (hlo2.lies (wcells_one _) (F := fun _ => False) (fun _ _ => id))
                    clear hlo2 hk9
                    go_wp2_with fail
                    refine (clash_no LA9.out LB9.out HnA.out rfl HCL.out).mono ?_
                    rintro e w10 ⟨rfl, hk10⟩
                    have K10 := hid (K9.out.trans hk10)
                    clear hk10
                    go_wp2
                    go_roundw
                    case rel => exact ⟨q + 1, by go_num, by omega, K10.out⟩
                    case measure => (simp only [RowKit.intOf]; omega)
                  · obtain rfl : q = j := by omega
                    have TN := hid (T7.out.same KX.out)
                    have KN := hid (K7.out.trans (KX.out.mono (fun _ _ h => h.elim)))
                    go_wp2
                    go_roundw
                    case rel => exact ⟨q + 1, by go_num, by omega, TN.out, KN.out⟩
                    case measure => (simp only [RowKit.intOf]; omega)
              · obtain rfl : j = M := by omega
                go_wp2
                go_roundw
                case rel => exact ⟨k + 1, _, by go_num, by omega, by omega, HRL'.out, TV.out, KV.out⟩
                case measure => (simp only [RowKit.intOf]; omega)
      · have h80D : decide ((80 : Int) ≤ (k : Int)) = true := by simp; omega
        have KN := hid (KF.out.trans (K2.out.mono (fun _ _ h => h.elim)))
        go_wp2
        go_ret
        exact ⟨rfl, by (try rw [HW2.out]); exact KN.out.below (Nat.le_refl _) (fun _ h => h)⟩
    · obtain rfl : k = N := by omega
      go_wp2
      go_ret
      exact ⟨rfl, KF.out.below (Nat.le_refl _) (fun _ h => h)⟩
set_option maxRecDepth 100000 in
theorem lockApart_lifted (os : Os) (started : os.Started) (H : Type) (enc : TypeId × Value → H) :
    ReturnsInHanded {} Try.checked os 6 .any (Rows.lockApartSpec.pre6 enc Try.prog Try.f6 Rows.lockApartRow.domain false) (Rows.lockApartSpec.post enc Try.prog Try.f6 false true false false) :=
  lawLift (C := Try.checked) (s := Rows.lockApartSpec) (bt := 4) (by kernel_rfl) started (by kernel_rfl) Try.func6 (by kernel_rfl)
    (by rw [Try.params6]; intro t ht; simp only [List.mem_cons, List.not_mem_nil, or_false] at ht; rcases ht with rfl <;> exact ⟨by kernel_rfl, of_decide_eq_true (by kernel_rfl)⟩)
    rfl rfl Try.underlying4 (by intro ds h; rw [Try.params6] at h; match ds, h with | [_], _ => rfl)
    (ChangeSpec.witness6 (enc := enc) (C := Try.checked) false ⟨#[], #[.slice none 0 0], []⟩ 8 (by kernel_rfl) (by kernel_rfl) (by kernel_rfl) (by kernel_rfl))
    apart_walk
theorem lockApart_holds : Rows.LockApartSaid :=
  OpenClaim.holds_of_wide 6 Try.f6 rfl rfl rfl rfl rfl rfl rfl ⟨rfl, rfl, rfl, rfl, rfl⟩ rfl rfl rfl rfl rfl (by kernel_rfl) Try.func6 (by kernel_rfl)
    (of_decide_eq_true (by kernel_rfl)) (by unfold Func.isWrapper; rw [if_neg (of_decide_eq_false (by kernel_rfl))]; exact ⟨rfl, rfl⟩)
    (fun os started H enc _ => lockApart_lifted os started H enc)
#print axioms lockApart_holds
end Go.Proofs.Ytpjhdpfaogdboaa
