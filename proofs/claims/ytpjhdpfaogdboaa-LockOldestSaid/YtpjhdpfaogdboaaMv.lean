/- PROVED: the law LockMoves returns true for every input and leaves its arguments as they were. No condition. -/
import Derived.Test.YtpjhdpfaogdboaaKn
import Derived.Deep.CutBlock
import Derived.Test.YtpjhdpfaogdboaaZer
namespace Go.Proofs.Ytpjhdpfaogdboaa
set_option linter.unusedSimpArgs false
set_option linter.unusedVariables false
open Go.RowKit
theorem mvF_len (W : List Tx) (names : List Tx) : ∀ L : List Ow, (names.foldl (mvS W) L).length ≤ L.length := by
  induction names with
  | nil => exact fun L => Nat.le_refl _
  | cons a names ih => exact fun L => Nat.le_trans (ih _) mvS_len
theorem run_take {h : Bool} {ops : List OpD} {k : Nat} {x : OpD} {L : List Ow} (hx : ops[k]? = some x) (hL : runL h [] (ops.take k) = L) : runL h [] (ops.take (k + 1)) = stepL h L x := by
  rw [List.take_add_one, hx]
  show runL h [] (ops.take k ++ [x]) = _
  rw [runL_snoc, hL]
theorem run_all {h : Bool} {ops : List OpD} {k : Nat} {L : List Ow} (hL : runL h [] (ops.take k) = L) : Inv L ∧ L.length ≤ k ∧ ∀ o ∈ L, ∃ x ∈ ops.take k, x.t = o.tx := by
  subst hL
  refine ⟨runL_inv h _ inv_nil, ?_, fun o ho => ?_⟩
  · have h1 := runL_len h (ops.take k) []
    have h2 := List.length_take_le k ops
    simp only [List.length_nil] at h1
    omega
  · rcases runL_tx h _ ho with h1 | ⟨y, hy, _⟩
    · exact h1
    · cases hy
theorem cnt_ok {L : List Ow} (h : Inv L) {n : Nat} (hn : L.length ≤ n) (h2 : n ≤ 1000) : cnt L ≤ 1000000 := by
  have := h.cnt
  omega
theorem stepL0 (h : Bool) (L : List Ow) (t : Tx) (age : Int) (ws : List Wt) : stepL h L ⟨0, t, age, ws⟩ = askP L t age ws := rfl
theorem stepL1 (L : List Ow) (t : Tx) (age : Int) (ws : List Wt) : stepL true L ⟨1, t, age, ws⟩ = holdP L t := rfl
theorem stepL1n (L : List Ow) (t : Tx) (age : Int) (ws : List Wt) : stepL false L ⟨1, t, age, ws⟩ = L := rfl
theorem stepL2 (h : Bool) (L : List Ow) (t : Tx) (age : Int) (ws : List Wt) : stepL h L ⟨2, t, age, ws⟩ = relP L t := by cases h <;> rfl
theorem stepLx {h : Bool} {L : List Ow} {kd : Int} {t : Tx} {age : Int} {ws : List Wt} (h0 : kd ≠ 0) (h1 : kd ≠ 1) (h2 : kd ≠ 2) : stepL h L ⟨kd, t, age, ws⟩ = L := by
  unfold stepL
  simp only [if_neg h0, if_neg h1, if_neg h2]
set_option maxRecDepth 100000 in
set_option maxHeartbeats 8000000 in
theorem moves_walk (W : World) (args : Array Value) (h : RdAll Try.prog W Try.f4.params.toList args.toList) :
    Calls Try.prog 4 args W fun e W' => e = .returned (.bool true) ∧ Below W.heap.size W W' := by
  rw [Try.params4] at h
  obtain ⟨v0, rfl⟩ : ∃ v0, args = #[v0] := by
    rcases args with ⟨_ | ⟨v0, _ | ⟨v1, l⟩⟩⟩ <;> simp [RdAll] at h
    exact ⟨v0, rfl⟩
  obtain ⟨r0, _⟩ := h
  obtain ⟨a, N, cap, rfl, h1⟩ := r0.slice Try.underlying40
  obtain ⟨ops, hsc⟩ := scr_read h1
  have HNO := hid hsc.1
  have hNc := hsc.2.1
  have hcm := hsc.2.2.1
  unfold maxLen at hcm
  have SC := hid hsc
  clear h1 r0 hsc
  go_enter Try.func4, Try.ntmps4
  go_wp2_with fail
  refine (awake_any _).mono ?_; rintro e w1 ⟨rfl, hk1⟩
  have K1 := hid hk1
  clear hk1
  go_wp2_with fail
  refine (new_x w1).mono ?_
  rintro e w2 ⟨tb, rfl, ht, hle, hk⟩
  have K2 := hid (K1.out.trans hk)
  have hwz := K1.out.size
  have T2 := hid (ht.mono (Q := fun i => i < W.heap.size) (fun i hi => by omega))
  clear ht hle hk hwz K1
  go_wp2_with fail
  refine (known_any (SC.out.kept K2.out (fun _ _ h => h.elim))).mono ?_
  rintro e w3 ⟨nv, rfl, ⟨na, nc, rfl, hno, hnn⟩, hk3⟩
  obtain ⟨NM, hNM⟩ : ∃ NM, knP (ops.take 80) = NM := ⟨_, rfl⟩
  rw [hNM] at hno hnn ⊢
  have HNM := hid hNM
  obtain ⟨M, hM⟩ : ∃ M, NM.length = M := ⟨_, rfl⟩
  have hM80 : M ≤ 80 := by
    have := knK_len ops 80
    unfold knK at this
    rw [show min 80 80 = 80 from rfl, hNM, hM] at this
    exact this
  rw [hM] at hno hnn ⊢
  have HM := hid hM
  obtain ⟨P, hP⟩ : ∃ P : Nat → Prop, (fun i => i < W.heap.size ∨ (Value.slice na M nc).ownBlock = some i) = P := ⟨_, rfl⟩
  have HP1 := hid (show ∀ i, i < W.heap.size → P i from fun i hi => by rw [← hP]; exact .inl hi)
  have HPn := hid (show ∀ b, (Value.slice na M nc).ownBlock = some b → P b from fun b hb => by rw [← hP]; exact .inr hb)
  have T3 := hid (show TabX P w3 tb [] from T2.out.fresh hk3 (fun _ _ h => h.elim) (fun i hi => by
    rw [← hP] at hi
    exact hi.imp id (fun h => ⟨hnn i h, hno.lt h⟩)))
  have S3 := hid ((SC.out.kept (K2.out.trans hk3) (fun _ _ h => h.elim)).mono (G := fun g => ¬ P g) (fun g hg => by
    rcases Nat.lt_or_ge g W.heap.size with h | h
    · exact absurd (HP1.out g h) hg
    · exact h))
  have NO := hid hno
  have K3 := hid (K2.out.trans hk3)
  clear hno hnn hNM hM hP hk3 T2 K2 SC
  go_upto_block 0 with fail
  go_cut [] from 5 to 55 (fun wx => ∃ L, Inv L ∧ (∀ o ∈ L, o.tx ∈ NM) ∧ L.length ≤ 80 ∧ TabX P wx tb L ∧ Kept (fun i => ¬ P i) w3 wx)
  case first =>
    go_wp2_with fail
    go_loopw [22] (fun i wr => ∃ (k : Nat) (L : List Ow), i = .int .i64 k ∧ k ≤ N ∧ k ≤ 80 ∧ runL true [] (ops.take k) = L ∧ TabX P wr tb L ∧ Kept (fun i => ¬ P i) w3 wr) (fun i _ => N - (RowKit.intOf i).toNat)
    case atStart => exact ⟨0, [], rfl, Nat.zero_le _, Nat.zero_le _, rfl, T3.out, Kept.refl _ _⟩
    case round =>
      rename World => wr
      clear T3
      obtain ⟨k, L, rfl, hk, hk80, hrl, ht, hkw⟩ := hrel
      have HRL := hid hrl; have TR := hid ht; have KR := hid hkw
      obtain ⟨hinv, hlen, htx⟩ := run_all hrl
      have HIN := hid hinv; have HTX := hid htx
      have HLL := hid (show L.length ≤ 900000 by omega)
      have HCN := hid (cnt_ok hinv hlen (by omega))
      have HL80 := hid hlen
      clear hrl ht hkw hinv htx hlen
      have hcutv : Inv L ∧ (∀ o ∈ L, o.tx ∈ NM) ∧ L.length ≤ 80 := by
        refine ⟨HIN.out, fun o ho => ?_, by have := HL80.out; omega⟩
        obtain ⟨x, hx, e⟩ := HTX.out o ho
        rw [← HNM.out]
        exact mem_knP.2 ⟨x, (List.take_subset_take_left ops hk80) hx, e⟩
      have HCV := hid hcutv
      clear hcutv
      by_cases hlt : k < N
      · have hltI : (k : Int) < (N : Int) := by omega
        obtain ⟨x, hx⟩ : ∃ x, ops[k]? = some x := ⟨_, List.getElem?_eq_getElem (by rw [HNO.out]; exact hlt)⟩
        have HST := hid (run_take hx HRL.out)
        have S4 := hid (S3.out.kept KR.out (fun _ _ h => h))
        obtain ⟨b, off, bo, bc, rfl, c0, c1, c2, c3, c4, c5, hok⟩ := op_cells S4.out hx
        obtain ⟨kd, ⟨t1, t2, t3⟩, age, ws⟩ := x
        simp only at c0 c1 c2 c3 c4 c5
        obtain ⟨ob, hob⟩ : ∃ ob, wr.heap.size = ob := ⟨_, rfl⟩
        obtain ⟨w2, hw2⟩ : ∃ w2, wr.alloc (opRow kd t1 t2 t3 age bo ws.length bc) = w2 := ⟨_, rfl⟩
        have k2 : Kept (fun _ => False) wr w2 := by rw [← hw2]; exact (Kept.refl _ _).alloc _
        have OB := hid (show w2.heap[ob]? = some (opRow kd t1 t2 t3 age bo ws.length bc) by rw [← hw2, ← hob]; exact row_new _ _)
        have OK2 := hid (hok.kept k2 (fun _ _ h => h.elim))
        obtain ⟨z0, z1, z2, z3, z4, z5⟩ := cells6 (row_new wr (opRow kd t1 t2 t3 age bo ws.length bc))
        unfold opRow at hw2 z0 z1 z2 z3 z4 z5
        have HW2 := hid hw2; have HOB := hid hob
        clear hw2 hob
        have T2 := hid (TR.out.same k2)
        have K2 := hid k2
        clear hx hok k2
        by_cases h80 : k < 80
        · have h80D : decide ((80 : Int) ≤ (k : Int)) = false := by simp; omega
          rcases (show kd = 0 ∨ kd = 1 ∨ kd = 2 ∨ (kd ≠ 0 ∧ kd ≠ 1 ∧ kd ≠ 2) by omega) with rfl | rfl | rfl | ⟨n0, n1, n2⟩
          · have HSN := hid (HST.out.trans (stepL0 true L (t1, t2, t3) age ws))
            go_wp2_with fail
            try rw [HW2.out]
            try rw [HOB.out]
            clear HW2 HOB c0 c1 c2 c3 c4 c5 z0 z1 z2 z3 z4 z5
            obtain ⟨d0, d1, d2, d3, d4, d5⟩ := cells6 OB.out
            refine wp_region_till (fun w' : World => w'.cell? ⟨ob, 1, none⟩ = some (.int .u8 t1) ∧ w'.cell? ⟨ob, 2, none⟩ = some (.int .u32 t2) ∧ w'.cell? ⟨ob, 3, none⟩ = some (.int .u32 t3) ∧ w'.cell? ⟨ob, 4, none⟩ = some (.int .u64 age) ∧ w'.cell? ⟨ob, 5, none⟩ = some (.slice bo ws.length bc)) 9 (by kernel_rfl) (by exact ⟨d1, d2, d3, d4, d5⟩) (fun hHeld => ?_)
            refine till_pure 0 (some 33) (v := ?v3100) (by decide) rfl (by kernel_rfl) (by kernel_rfl) (by kernel_rfl) (by kernel_rfl) (by decide) (fun _ _ _ h => h) (Or.inl ⟨by rfl, ?y3100⟩) (by assumption) ?r3100
            case y3100 => (intro w hSw; clear hSw; go_simp; (try with_reducible rfl))
            simp only [Act.put, List.setIfInBounds_toArray, List.set_cons_zero, List.set_cons_succ]
            refine till_pure 1 (some 34) (v := ?v3101) (by decide) rfl (by kernel_rfl) (by kernel_rfl) (by kernel_rfl) (by kernel_rfl) (by decide) (fun _ _ _ h => h) (Or.inl ⟨by rfl, ?y3101⟩) (by assumption) ?r3101
            case y3101 => (intro w hSw; clear hSw; go_simp; (try with_reducible rfl))
            simp only [Act.put, List.setIfInBounds_toArray, List.set_cons_zero, List.set_cons_succ]
            refine till_load 2 (some 35) [] (v := ?v3102) (by decide) rfl (by kernel_rfl) (by kernel_rfl) (by kernel_rfl) (by kernel_rfl) (by kernel_rfl) (by decide) (by decide) (fun _ _ _ h => h) (Or.inl ⟨by rfl, ?y3102⟩) (by assumption) ?r3102
            case y3102 => (intro w hSw; (try dsimp only at hSw); go_simp; (try with_reducible rfl))
            simp only [Act.put, List.setIfInBounds_toArray, List.set_cons_zero, List.set_cons_succ]
            refine till_pure 3 (some 36) (v := ?v3103) (by decide) rfl (by kernel_rfl) (by kernel_rfl) (by kernel_rfl) (by kernel_rfl) (by decide) (fun _ _ _ h => h) (Or.inl ⟨by rfl, ?y3103⟩) (by assumption) ?r3103
            case y3103 => (intro w hSw; clear hSw; go_simp; (try with_reducible rfl))
            simp only [Act.put, List.setIfInBounds_toArray, List.set_cons_zero, List.set_cons_succ]
            refine till_load 4 (some 37) [] (v := ?v3104) (by decide) rfl (by kernel_rfl) (by kernel_rfl) (by kernel_rfl) (by kernel_rfl) (by kernel_rfl) (by decide) (by decide) (fun _ _ _ h => h) (Or.inl ⟨by rfl, ?y3104⟩) (by assumption) ?r3104
            case y3104 => (intro w hSw; (try dsimp only at hSw); go_simp; (try with_reducible rfl))
            simp only [Act.put, List.setIfInBounds_toArray, List.set_cons_zero, List.set_cons_succ]
            refine till_pure 6 (some 39) (v := ?v3106) (by decide) rfl (by kernel_rfl) (by kernel_rfl) (by kernel_rfl) (by kernel_rfl) (by decide) (fun _ _ _ h => h) (Or.inl ⟨by rfl, ?y3106⟩) (by assumption) ?r3106
            case y3106 => (intro w hSw; clear hSw; go_simp; (try with_reducible rfl))
            simp only [Act.put, List.setIfInBounds_toArray, List.set_cons_zero, List.set_cons_succ]
            refine till_load 7 (some 40) [8] (v := ?v3107) (by decide) rfl (by kernel_rfl) (by kernel_rfl) (by kernel_rfl) (by kernel_rfl) (by kernel_rfl) (by decide) (by decide) (fun _ _ _ h => h) (Or.inl ⟨by rfl, ?y3107⟩) (by assumption) ?r3107
            case y3107 => (intro w hSw; (try dsimp only at hSw); go_simp; (try with_reducible rfl))
            simp only [Act.put, List.setIfInBounds_toArray, List.set_cons_zero, List.set_cons_succ]
            refine till_call 5 (by kernel_rfl) rfl (fun K hK => ?_)
            go_simp
            have hS3 := sop_kept (((Kept.refl (fun _ => False) w2).drew).alloc (.cells #[] 36)) ⟨d1, d2, d3, d4, d5⟩
            try dsimp only []
            refine hK.out _ _ (by exact hS3) (fun hHeld => ?_)
            clear hK K
            try simp only [Act.put, List.setIfInBounds_toArray, List.set_cons_zero, List.set_cons_succ]
            refine till_call 8 (by kernel_rfl) rfl (fun K hK => ?_)
            refine step_appd (some 41) rfl (by rfl) (.tmp 38) (.tmp 40) 37 rfl 36 (.agg #[.int .u32 0, .int .u8 0]) 2 8 Try.underlying37 infoW rfl (by decide) (.slice (some ⟨w2.heap.size, 0, none⟩) 0 0) 0 [] rfl (by exact own_empty w2.drew 36 2) _ rfl ws.length (wcells ws) (by exact (OK2.out.b.same (((Kept.refl (fun _ => False) w2).drew).alloc (.cells #[] 36))).src) (by have := OK2.out.l; simp only [maxLen]; simp only at this; omega) (by have := OK2.out.l; simp only at this; omega) ?_
            intro a6 c6 w6 ho6 hk6 hf6 _
            simp only [Act.put, List.setIfInBounds_toArray, List.set_cons_zero, List.set_cons_succ]
            have k26 : Kept (fun _ => False) w2 w6 := (((Kept.refl (fun _ => False) w2).drew).alloc (.cells #[] 36)).trans' hk6 (fun i hi => by simp [Value.ownBlock] at hi; exact .inr (by omega))
            rw [Nat.zero_add, List.nil_append] at ho6
            rw [Nat.zero_add] at hf6 ⊢
            have hge : ∀ i, (Value.slice a6 ws.length c6).ownBlock = some i → w2.heap.size ≤ i := fun i hi => by
              rcases hf6 i hi with h | h
              · simp [Value.ownBlock] at h; omega
              · simp at h; omega
            have T6 := hid (T2.out.fresh (Q := fun i => P i ∨ (Value.slice a6 ws.length c6).ownBlock = some i) k26 (fun _ _ h => h.elim) (fun i hi => hi.imp id (fun h => ⟨hge i h, ho6.lt h⟩)))
            have L6 := hid (ho6.lies (F := fun i => ¬ (P i ∨ (Value.slice a6 ws.length c6).ownBlock = some i)) (wcells_one ws) (fun g hg h => h (.inr hg)))
            have hS6 := sop_kept k26 ⟨d1, d2, d3, d4, d5⟩
            have K26 := hid k26
            have HGE := hid hge
            try dsimp only []
            refine hK.out _ _ (by exact hS6) (fun hHeld => ?_)
            clear hK K
            try simp only [Act.put, List.setIfInBounds_toArray, List.set_cons_zero, List.set_cons_succ]
            refine till_list [] (by kernel_rfl) (by kernel_rfl) (by decide) (by decide) ?_
            simp only [pickOps, List.getElem?_toArray, List.getElem?_cons_zero, List.getElem?_cons_succ]
            clear hHeld hS3 hS6 ho6 hk6 hf6 k26 hge d1 d2 d3 d4 d5
            go_wp2_with fail
            refine (ask_x T6.out (t1, t2, t3) age (ws := ws) L6.out HCN.out HLL.out).mono ?_
            rintro e w7 ⟨v1, v2, rfl, -, -, ht7, hk7⟩
            have T7 := hid (ht7.mono (Q := P) (fun i hi => .inl (.inl hi)))
            have K27 := hid (show Kept (fun i => ¬ P i) w2 w7 from (K26.out.mono (fun _ _ h => h.elim)).trans' hk7 (fun i hi => .inl (fun hp => hi (.inl hp))))
            clear ht7 hk7 T6 L6 K26 HGE
            have KN := hid (KR.out.trans ((K2.out.mono (fun _ _ h => h.elim)).trans K27.out))
            go_wp2
            go_roundw
            case rel => exact ⟨k + 1, _, by go_num, by omega, by omega, HSN.out, T7.out, KN.out⟩
            case measure => (simp only [RowKit.intOf]; omega)
          · have HSN := hid (HST.out.trans (stepL1 L (t1, t2, t3) age ws))
            go_wp2_with fail
            try rw [HW2.out]
            try rw [HOB.out]
            clear HW2 HOB c0 c1 c2 c3 c4 c5 z0 z1 z2 z3 z4 z5
            obtain ⟨d0, d1, d2, d3, d4, d5⟩ := cells6 OB.out
            refine (hold_x T2.out (t1, t2, t3)).mono ?_
            rintro e w7 ⟨rfl, ht7, hk7⟩
            have T7 := hid ht7
            have KN := hid (KR.out.trans ((K2.out.mono (fun _ _ h => h.elim)).trans hk7))
            clear ht7 hk7 d0 d1 d2 d3 d4 d5
            go_wp2
            go_roundw
            case rel => exact ⟨k + 1, _, by go_num, by omega, by omega, HSN.out, T7.out, KN.out⟩
            case measure => (simp only [RowKit.intOf]; omega)
          · have HSN := hid (HST.out.trans (stepL2 true L (t1, t2, t3) age ws))
            go_wp2_with fail
            try rw [HW2.out]
            try rw [HOB.out]
            clear HW2 HOB c0 c1 c2 c3 c4 c5 z0 z1 z2 z3 z4 z5
            obtain ⟨d0, d1, d2, d3, d4, d5⟩ := cells6 OB.out
            refine (rel_x T2.out (t1, t2, t3) (by have := HLL.out; omega)).mono ?_
            rintro e w7 ⟨v1, rfl, -, ht7, hk7⟩
            have T7 := hid (ht7.mono (Q := P) (fun i hi => .inl hi))
            have KN := hid (KR.out.trans ((K2.out.mono (fun _ _ h => h.elim)).trans hk7))
            clear ht7 hk7 d0 d1 d2 d3 d4 d5
            go_wp2
            go_roundw
            case rel => exact ⟨k + 1, _, by go_num, by omega, by omega, HSN.out, T7.out, KN.out⟩
            case measure => (simp only [RowKit.intOf]; omega)
          · have HSN := hid (HST.out.trans (stepLx n0 n1 n2))
            have KN := hid (KR.out.trans (K2.out.mono (fun _ _ h => h.elim)))
            have h0 : (kd == 0) = false := by simpa using n0
            have h1 : (kd == 1) = false := by simpa using n1
            have h2 : (kd == 2) = false := by simpa using n2
            clear n0 n1 n2
            go_wp2
            go_roundw
            case rel => exact ⟨k + 1, _, by go_num, by omega, by omega, HSN.out, by first | exact T2.out | (rw [HW2.out]; exact T2.out), by first | exact KN.out | (rw [HW2.out]; exact KN.out)⟩
            case measure => (simp only [RowKit.intOf]; omega)
        · have h80D : decide ((80 : Int) ≤ (k : Int)) = true := by simp; omega
          have KN := hid (KR.out.trans (K2.out.mono (fun _ _ h => h.elim)))
          go_wp2_with fail
          go_meet
          (try rw [HW2.out])
          exact ⟨L, HCV.out.1, HCV.out.2.1, HCV.out.2.2, T2.out, KN.out⟩
      · obtain rfl : k = N := by omega
        go_wp2_with fail
        go_meet
        exact ⟨L, HCV.out.1, HCV.out.2.1, HCV.out.2.2, TR.out, KR.out⟩
  case rest =>
    obtain ⟨L0, hinv0, htx0, hlen0, ht0, hk0⟩ := hcut
    rename World => wc
    have TC := hid ht0; have KC := hid hk0; have HI0 := hid hinv0; have HT0 := hid htx0; have HL0 := hid hlen0
    have HRO := hid (roundsP_ok hinv0 htx0)
    have HMO := hid (moves_law hinv0 htx0)
    clear ht0 hk0 hinv0 htx0 hlen0
    go_wp2_with fail
    go_loopw [59] (fun i wr => ∃ (r : Nat) (L : List Ow), i = .int .i64 r ∧ r ≤ M + 1 ∧ roundsP NM L0 r = L ∧ TabX P wr tb L ∧ Kept (fun i => ¬ P i) w3 wr) (fun i _ => M + 1 - (RowKit.intOf i).toNat)
    case atStart => exact ⟨0, L0, rfl, Nat.zero_le _, rfl, TC.out, KC.out⟩
    case round =>
      rename World => wr
      clear TC KC
      obtain ⟨r, L, rfl, hr, hrl, ht, hkw⟩ := hrel
      have HRL := hid hrl; have TR := hid ht; have KR := hid hkw
      obtain ⟨hinv, htx, hlen⟩ := HRO.out r
      rw [hrl] at hinv htx hlen
      have HIN := hid hinv; have HTX := hid htx; have HLN := hid (show L.length ≤ 80 by have := HL0.out; omega)
      clear hrl ht hkw hinv htx hlen
      by_cases hlt : r < M + 1
      · have hltI : (r : Int) < (M : Int) + 1 := by omega
        go_wp2_with fail
        refine (waiting_x TR.out (by have := HLN.out; omega)).mono ?_
        rintro e w5 ⟨wv, rfl, ⟨wa, wq, rfl, hwo, hwn⟩, ht5, hk5⟩
        obtain ⟨WT, hWT⟩ : ∃ WT, waitP L = WT := ⟨_, rfl⟩
        rw [hWT] at hwo hwn ht5 ⊢
        have HWT := hid hWT
        obtain ⟨Q, hQ⟩ : ∃ Q, WT.length = Q := ⟨_, rfl⟩
        rw [hQ] at hwo hwn ht5 ⊢
        have HQ := hid hQ
        have hQ80 : Q ≤ 80 := by have h1 := waitP_len L; rw [hWT, hQ] at h1; have := HLN.out; omega
        obtain ⟨P2, hP2⟩ : ∃ P2 : Nat → Prop, (fun i => P i ∨ (Value.slice wa Q wq).ownBlock = some i) = P2 := ⟨_, rfl⟩
        have HP2 := hid (show ∀ i, P i → P2 i from fun i hi => by rw [← hP2]; exact .inl hi)
        have HPw := hid (show ∀ b, (Value.slice wa Q wq).ownBlock = some b → P2 b from fun b hb => by rw [← hP2]; exact .inr hb)
        rw [hP2] at ht5
        have T5 := hid ht5; have WO := hid hwo
        have K5 := hid (KR.out.trans (hk5.mono (fun _ _ h => h.elim)))
        clear hwo hwn ht5 hk5 hWT hQ hP2
        go_wp2_with fail
        go_loopw [65] (fun j wv => ∃ (m : Nat) (L' : List Ow), j = .int .i64 m ∧ m ≤ M ∧ (NM.take m).foldl (mvS WT) L = L' ∧ TabX P2 wv tb L' ∧ Kept (fun i => ¬ P2 i) w5 wv) (fun j _ => M - (RowKit.intOf j).toNat)
        case atStart => exact ⟨0, L, rfl, Nat.zero_le _, rfl, T5.out, Kept.refl _ _⟩
        case round =>
          rename World => wv
          clear T5
          obtain ⟨m, L', rfl, hm, hfl, ht, hkv⟩ := hrel
          have HFL := hid hfl; have TV := hid ht; have KV := hid hkv
          have HLV := hid (show L'.length ≤ 80 by have h1 := mvF_len WT (NM.take m) L; rw [hfl] at h1; have := HLN.out; omega)
          have K5V := hid (K5.out.trans (KV.out.mono (fun i _ h hp => h (HP2.out i hp))))
          clear hfl ht hkv
          by_cases hmt : m < M
          · have hmI : (m : Int) < (M : Int) := by omega
            obtain ⟨⟨a1, a2, a3⟩, hx⟩ : ∃ x, NM[m]? = some x := ⟨_, List.getElem?_eq_getElem (by rw [HM.out]; exact hmt)⟩
            have HSX := hid (show (NM.take (m + 1)).foldl (mvS WT) L = mvS WT L' (a1, a2, a3) by rw [List.take_add_one, hx, Option.toList_some, List.foldl_append, HFL.out]; rfl)
            have hli := ((NO.out.kept K5V.out (fun b hb h => h (HPn.out b hb))).lies (encT_one _) (F := fun _ => False) (fun _ _ => id))
            have hcp := cap_of hli
            unfold maxLen at hcp
            obtain ⟨hcp1, hcp2⟩ := hcp
            obtain ⟨g, o, rfl, q0, q1, q2⟩ := tx_cells hli HM.out (Kept.refl _ _) hx
            simp only at q0 q1 q2
            obtain ⟨ab, hab⟩ : ∃ ab, wv.heap.size = ab := ⟨_, rfl⟩
            obtain ⟨w6, hw6⟩ : ∃ w6, wv.alloc (.cells #[.int .u8 a1, .int .u32 a2, .int .u32 a3] 32) = w6 := ⟨_, rfl⟩
            have k6 : Kept (fun _ => False) wv w6 := by rw [← hw6]; exact (Kept.refl _ _).alloc _
            have AB := hid (show w6.heap[ab]? = some (.cells #[.int .u8 a1, .int .u32 a2, .int .u32 a3] 32 (0, 0)) by rw [← hw6, ← hab]; exact row_new _ _)
            have T6 := hid (TV.out.same k6)
            have K6 := hid (KV.out.trans (k6.mono (fun _ _ h => h.elim)))
            clear hx hli k6
            go_wp2_with fail
            try rw [hw6]
            try rw [hab]
            clear hw6 hab q0 q1 q2
            go_loopw [10, 71] (fun f i wx => ∃ q : Nat, f = .bool (decide ((a1, a2, a3) ∈ WT.take q)) ∧ i = .int .i64 q ∧ q ≤ Q ∧ Kept (fun _ => False) w6 wx) (fun _ i _ => Q - (RowKit.intOf i).toNat)
            case atStart => exact ⟨0, by simp, rfl, Nat.zero_le _, Kept.refl _ _⟩
            case round =>
              rename World => wx
              obtain ⟨q, rfl, rfl, hq, hkx⟩ := hrel
              have KX := hid hkx
              clear hkx
              obtain ⟨fb, hfb⟩ : ∃ fb, decide ((a1, a2, a3) ∈ WT.take q) = fb := ⟨_, rfl⟩
              rw [hfb]
              have HFB := hid hfb
              clear hfb
              by_cases hqt : q < Q
              · have hqI : (q : Int) < (Q : Int) := by omega
                obtain ⟨⟨y1, y2, y3⟩, hy⟩ : ∃ y, WT[q]? = some y := ⟨_, List.getElem?_eq_getElem (by rw [HQ.out]; exact hqt)⟩
                have hli := ((WO.out.kept K6.out (fun b hb h => h (HPw.out b hb))).lies (encT_one _) (F := fun _ => False) (fun _ _ => id))
                have hcp := cap_of hli
                unfold maxLen at hcp
                obtain ⟨hcp3, hcp4⟩ := hcp
                obtain ⟨g2, o2, rfl, q0, q1, q2⟩ := tx_cells hli HQ.out KX.out hy
                simp only at q0 q1 q2
                have HTK := hid (show WT.take (q + 1) = WT.take q ++ [(y1, y2, y3)] by rw [List.take_add_one, hy]; rfl)
                obtain ⟨yb, hyb⟩ : ∃ yb, wx.heap.size = yb := ⟨_, rfl⟩
                obtain ⟨w8, hw8⟩ : ∃ w8, wx.alloc (.cells #[.int .u8 y1, .int .u32 y2, .int .u32 y3] 32) = w8 := ⟨_, rfl⟩
                have k8 : Kept (fun _ => False) wx w8 := by rw [← hw8]; exact (Kept.refl _ _).alloc _
                obtain ⟨e0, e1, e2⟩ := cells3 (show w8.heap[yb]? = some (.cells #[.int .u8 y1, .int .u32 y2, .int .u32 y3] 32 (0, 0)) by rw [← hw8, ← hyb]; exact row_new _ _)
                obtain ⟨d1, d2, d3⟩ := cells3 (((KX.out.trans k8).block ab (row_lt AB.out) id).trans AB.out)
                have heq := fun W => tx_eq (y1, y2, y3) (a1, a2, a3) W
                unfold txv at heq
                have K8 := hid (KX.out.trans k8)
                clear hy hli k8
                cases fb with
                | true =>
                  have HFN := hid (show decide ((a1, a2, a3) ∈ WT.take (q + 1)) = true by
                    have h1 := HFB.out
                    rw [decide_eq_true_eq] at h1 ⊢
                    rw [HTK.out]
                    exact List.mem_append_left _ h1)
                  go_wp2
                  go_roundw
                  case rel => exact ⟨q + 1, by rw [HFN.out], by go_num, by omega, by first | exact K8.out | (rw [hw8]; exact K8.out)⟩
                  case measure => (simp only [RowKit.intOf]; omega)
                | false =>
                  by_cases e : ((y1, y2, y3) : Tx) = (a1, a2, a3)
                  · have HFN := hid (show decide ((a1, a2, a3) ∈ WT.take (q + 1)) = true by
                      rw [HTK.out, decide_eq_true_eq, e]
                      exact List.mem_append_right _ (List.mem_singleton.2 rfl))
                    simp only [e, decide_true] at heq
                    clear e
                    go_wp2
                    go_roundw
                    case rel => exact ⟨q + 1, by rw [HFN.out], by go_num, by omega, by first | exact K8.out | (rw [hw8]; exact K8.out)⟩
                    case measure => (simp only [RowKit.intOf]; omega)
                  · have HFN := hid (show decide ((a1, a2, a3) ∈ WT.take (q + 1)) = false by
                      have h1 := HFB.out
                      rw [decide_eq_false_iff_not] at h1 ⊢
                      rw [HTK.out, List.mem_append, List.mem_singleton]
                      exact fun h => h.elim h1 (fun h => e h.symm))
                    simp only [e, decide_false] at heq
                    clear e
                    go_wp2
                    go_roundw
                    case rel => exact ⟨q + 1, by rw [HFN.out], by go_num, by omega, by first | exact K8.out | (rw [hw8]; exact K8.out)⟩
                    case measure => (simp only [RowKit.intOf]; omega)
              · obtain rfl : q = Q := by omega
                have hta : WT.take q = WT := by rw [← HQ.out]; exact List.take_length
                rw [hta] at HFB
                have TX := hid (T6.out.same KX.out)
                obtain ⟨d1, d2, d3⟩ := cells3 ((KX.out.block ab (row_lt AB.out) id).trans AB.out)
                have hkn := known_x TX.out (a1, a2, a3)
                obtain ⟨kb, hkb⟩ : ∃ kb, (findO L' (a1, a2, a3)).isSome = kb := ⟨_, rfl⟩
                rw [hkb] at hkn
                have HKB := hid hkb; have HKN := hid hkn
                clear hta hkb hkn
                go_wp2_with fail
                refine HKN.out.mono ?_
                rintro e w9 ⟨rfl, hk9⟩
                have T9 := hid (TX.out.same hk9)
                have K9 := hid (K6.out.trans ((KX.out.trans hk9).mono (fun _ _ h => h.elim)))
                obtain ⟨d1, d2, d3⟩ := cells3 (((KX.out.trans hk9).block ab (row_lt AB.out) id).trans AB.out)
                clear hk9 TX HKN
                cases kb with
                | false =>
                  have HMS := hid (show (NM.take (m + 1)).foldl (mvS WT) L = L' by rw [HSX.out]; unfold mvS; rw [HKB.out]; rfl)
                  go_wp2
                  go_roundw
                  case rel => exact ⟨m + 1, _, by go_num, by omega, HMS.out, T9.out, K9.out⟩
                  case measure => (simp only [RowKit.intOf]; omega)
                | true =>
                  cases fb with
                  | true =>
                    have HMS := hid (show (NM.take (m + 1)).foldl (mvS WT) L = L' by rw [HSX.out]; unfold mvS; rw [HKB.out, HFB.out]; rfl)
                    go_wp2
                    go_roundw
                    case rel => exact ⟨m + 1, _, by go_num, by omega, HMS.out, T9.out, K9.out⟩
                    case measure => (simp only [RowKit.intOf]; omega)
                  | false =>
                    have HMS := hid (show (NM.take (m + 1)).foldl (mvS WT) L = relP L' (a1, a2, a3) by rw [HSX.out]; unfold mvS; rw [HKB.out, HFB.out]; rfl)
                    go_wp2_with fail
                    refine (rel_x T9.out (a1, a2, a3) (by have := HLV.out; omega)).mono ?_
                    rintro e w10 ⟨v1, rfl, -, ht10, hk10⟩
                    have T10 := hid (ht10.mono (Q := P2) (fun i hi => .inl hi))
                    have K10 := hid (K9.out.trans hk10)
                    clear ht10 hk10 d1 d2 d3
                    go_wp2
                    go_roundw
                    case rel => exact ⟨m + 1, _, by go_num, by omega, HMS.out, T10.out, K10.out⟩
                    case measure => (simp only [RowKit.intOf]; omega)
          · obtain rfl : m = M := by omega
            have HRN := hid (show roundsP NM L0 (r + 1) = L' by
              show roundP NM (roundsP NM L0 r) = L'
              rw [HRL.out]
              unfold roundP
              rw [HWT.out, ← HFL.out, ← HM.out, List.take_length])
            have TN := hid (TV.out.mono (Q := P) (fun i hi => HP2.out i hi))
            go_wp2
            go_roundw
            case rel => exact ⟨r + 1, _, by go_num, by omega, HRN.out, TN.out, K5V.out⟩
            case measure => (simp only [RowKit.intOf]; omega)
      · obtain rfl : r = M + 1 := by omega
        have hnil : L = [] := by rw [← HRL.out, ← HM.out]; exact HMO.out
        subst hnil
        go_wp2_with fail
        refine (waiting_x TR.out (by decide)).mono ?_
        rintro e w5 ⟨wv, rfl, ⟨wa, wq, rfl, -, -⟩, ht5, hk5⟩
        have T5 := hid (ht5.mono (Q := P) (fun i hi => .inl hi))
        have K5 := hid (KR.out.trans (hk5.mono (fun _ _ h => h.elim)))
        clear ht5 hk5
        rw [show waitP [] = [] from rfl, List.length_nil]
        go_wp2_with fail
        refine (count_x T5.out (by decide)).mono ?_
        rintro e w6 ⟨rfl, hk6⟩
        have K6 := hid (K3.out.mono (fun _ _ h => h.elim) |>.trans' (K5.out.trans (hk6.mono (fun _ _ h => h.elim))) (fun i hi => .inl (show W.heap.size ≤ i from by
          rcases Nat.lt_or_ge i W.heap.size with h | h
          · exact absurd (HP1.out i h) hi
          · exact h)) : Kept (fun i => W.heap.size ≤ i) W w6)
        clear hk6
        rw [show cnt [] = 0 from rfl]
        go_wp2
        go_ret
        exact ⟨rfl, K6.out.below (Nat.le_refl _) (fun _ h => h)⟩
set_option maxRecDepth 100000 in
theorem lockMoves_lifted (os : Os) (started : os.Started) (H : Type) (enc : TypeId × Value → H) :
    ReturnsInHanded {} Try.checked os 4 .any (Rows.lockMovesSpec.pre6 enc Try.prog Try.f4 Rows.lockMovesRow.domain false) (Rows.lockMovesSpec.post enc Try.prog Try.f4 false true false false) :=
  lawLift (C := Try.checked) (s := Rows.lockMovesSpec) (bt := 4) (by kernel_rfl) started (by kernel_rfl) Try.func4 (by kernel_rfl)
    (by rw [Try.params4]; intro t ht; simp only [List.mem_cons, List.not_mem_nil, or_false] at ht; rcases ht with rfl <;> exact ⟨by kernel_rfl, of_decide_eq_true (by kernel_rfl)⟩)
    rfl rfl Try.underlying4 (by intro ds h; rw [Try.params4] at h; match ds, h with | [_], _ => rfl)
    (ChangeSpec.witness6 (enc := enc) (C := Try.checked) false ⟨#[], #[.slice none 0 0], []⟩ 8 (by kernel_rfl) (by kernel_rfl) (by kernel_rfl) (by kernel_rfl))
    moves_walk
theorem lockMoves_holds : Rows.LockMovesSaid :=
  OpenClaim.holds_of_wide 4 Try.f4 rfl rfl rfl rfl rfl rfl rfl ⟨rfl, rfl, rfl, rfl, rfl⟩ rfl rfl rfl rfl rfl (by kernel_rfl) Try.func4 (by kernel_rfl)
    (of_decide_eq_true (by kernel_rfl)) (by unfold Func.isWrapper; rw [if_neg (of_decide_eq_false (by kernel_rfl))]; exact ⟨rfl, rfl⟩)
    (fun os started H enc _ => lockMoves_lifted os started H enc)
#print axioms lockMoves_holds
end Go.Proofs.Ytpjhdpfaogdboaa
