/- CommitVotes' walk. -/
import Derived.Test.YtaobioleodfafaaI
namespace Go.Proofs.Ytaobioleodfafaa
open Go.RowKit
theorem bool_zero (w : World) : (zeroValue 4).run Try.prog w = .ok (.bool false) w := by kernel_rfl
theorem voted_look {w : World} {vm : Nat} {ns : List Int} {Y : Int → Bool} {L : List (Int × Value)} (hm : MapIs w vm .u8 L) (hv : Vt ns Y L) (p : Int) : (Instr.lookup 31 (.map (some vm)) (.int .u8 p) false).run Try.prog w = .ok (.bool (Y p)) w := by
  cases hy : Y p with
  | true => exact hm.run_look_some Try.underlying31 Try.underlying5 (v := .bool true) (by rw [hv.2.1, if_pos hy]) false
  | false => exact hm.run_look_none Try.underlying31 Try.underlying5 (bool_zero w) (by rw [hv.2.1, if_neg (by simp [hy])]) false
set_option maxRecDepth 100000 in
set_option maxHeartbeats 2000000 in
theorem votes_walk (W : World) (args : Array Value) (h : RdAll Try.prog W Try.f3.params.toList args.toList) :
    Calls Try.prog 3 args W fun e W' => e = .returned (.bool true) ∧ Below W.heap.size W W' := by
  rw [Try.params3] at h
  obtain ⟨v0, v1, v2, rfl⟩ : ∃ v0 v1 v2, args = #[v0, v1, v2] := by
    rcases args with ⟨_ | ⟨v0, _ | ⟨v1, _ | ⟨v2, _ | ⟨v3, l⟩⟩⟩⟩⟩ <;> simp [RdAll] at h
    exact ⟨v0, v1, v2, rfl⟩
  obtain ⟨r0, r1, r2, _⟩ := h
  obtain ⟨nd, rfl, wf0⟩ := r0.int Try.underlying5
  obtain ⟨nv, rfl, wf1⟩ := r2.int Try.underlying5
  obtain ⟨a1, len1, cap1, rfl, h1⟩ := r1.slice Try.underlying22
  obtain ⟨l1, m1, _, _, c1⟩ := h1.row1 Try.underlying22 (by kernel_rfl)
  unfold maxLen at m1
  simp [Lit.wf, IntKind.min, IntKind.max, IntKind.signed, IntKind.bits] at wf0 wf1
  have C1 := hid c1; clear c1 h1 r0 r1 r2
  obtain ⟨n, hn⟩ : ∃ n : Nat, 1 + nd % 4 = (n : Int) := ⟨(1 + nd % 4).toNat, by omega⟩
  have hn1 : 1 ≤ n := by omega
  have hn5 : n ≤ 4 := by omega
  obtain ⟨nd0, nd1⟩ : 0 ≤ nd ∧ nd ≤ 255 := by omega
  obtain ⟨nv0, nv1⟩ : 0 ≤ nv ∧ nv ≤ 255 := by omega
  clear wf0 wf1
  have hmm := @run_makeMap Try.prog
  go_enter Try.func3, Try.ntmps3
  go_wp2_with fail
  refine (awake_any _).mono ?_; rintro e w1 ⟨rfl, hb1⟩
  have K1 := hid (Kept.of_below hb1 (fun _ => False))
  clear hb1
  go_wp2_with fail
  refine (new_any _).mono ?_; rintro e w2 ⟨rfl, hb, hk⟩
  simp only [ptr]
  obtain ⟨bb, hbb⟩ : ∃ bb, w1.heap.size + 2 = bb := ⟨_, rfl⟩
  have hz : w1.heap.size + 2 < w2.heap.size := by obtain ⟨m2, h⟩ := hb.obj; exact row_lt h
  rw [hbb] at hb ⊢
  have HB2 := hid (hb.mono (T' := w2.heap.size) (by omega)); have K2 := hid (K1.out.trans hk)
  have HBZ := hid (show W.heap.size ≤ w1.heap.size from K1.out.size)
  clear hb hk hbb hz K1
  go_wp2_with fail
  have hr3 := row_new w2 (.cells #[.int .u8 0, .int .u32 0, .int .u32 1] 28)
  have hk3 := (Kept.refl (fun _ => False) w2).alloc (.cells #[.int .u8 0, .int .u32 0, .int .u32 1] 28)
  obtain ⟨w3, hw3⟩ : ∃ w3, w2.alloc (.cells #[.int .u8 0, .int .u32 0, .int .u32 1] 28) = w3 := ⟨_, rfl⟩
  obtain ⟨tb, htb⟩ : ∃ tb, w2.heap.size = tb := ⟨_, rfl⟩
  rw [hw3] at hr3 hk3 ⊢
  rw [htb] at hr3 HB2 ⊢
  have HTB := hid hr3; have HB3 := hid (HB2.out.same hk3); have K3 := hid (K2.out.trans hk3)
  have HTZ := hid (show tb < w3.heap.size from row_lt hr3)
  clear hr3 hk3 hw3 htb HB2 K2
  go_loopw [10, 28] (fun o i wr => ∃ (k : Nat) (a : Option Addr) (c : Nat), i = .int .i64 k ∧ k ≤ n ∧ o = .slice a k c ∧ Own wr 5 1 (.slice a k c) k (bcells (nodes k)) ∧ (∀ b, (Value.slice a k c).ownBlock = some b → w3.heap.size ≤ b) ∧ Kept (fun _ => False) w3 wr) (fun _ i _ => n - (RowKit.intOf i).toNat)
  case atStart => exact ⟨0, none, 0, rfl, Nat.zero_le _, rfl, Own.nil _ _ _, fun b hb => by simp [Value.ownBlock] at hb, Kept.refl _ _⟩
  case round =>
    rename World => wA
    obtain ⟨k, a, c, rfl, hk, rfl, ho, hf, hkp⟩ := hrel
    have HA := hid ho; have HAF := hid hf; have KA := hid hkp
    clear ho hf hkp
    by_cases hlt : k < n
    · have hltI : (k : Int) < (n : Int) := by omega
      have hk4 : (k : Int) < 4 := by omega
      go_wp2_with (at_builtin; refine wpList_app rfl _ _ 22 rfl 5 _ 1 1 Try.underlying22 infoB rfl (by decide) _ k (bcells (nodes k)) rfl (by exact HA.out.alloc _) _ rfl 1 _ (byte_src _ (k : Int) (by simp)) (by unfold maxLen; omega) (by omega) ?_; intro a' c' w6 ho3 hk3 hf3 _; have HA3 := hid ho3; have HK3 := hid hk3; have HF3 := hid hf3; clear ho3 hk3 hf3)
      go_roundw
      case rel =>
        refine ⟨k + 1, a', c', by go_num, by omega, rfl, by rw [nodes_snoc, bcells, List.map_append]; exact HA3.out, fun b hb => ?_, (KA.out.alloc _).trans' HK3.out (fun i hi => .inr (HAF.out i hi))⟩
        rcases HF3.out b hb with h | h
        · exact HAF.out b h
        · simp at h; have := KA.out.size; omega
      case measure => (simp only [RowKit.intOf]; omega)
    · obtain rfl : k = n := by omega
      have HTA := hid ((KA.out.block tb HTZ.out id).trans HTB.out)
      have HBA := hid (HB3.out.same KA.out); have KW := hid (K3.out.trans KA.out)
      have hls : Lies (fun _ => False) wA 1 (.slice a k c) k (bcells (nodes k)) := HA.out.lies (by simp [bcells, Value.oneCell']) (fun _ _ => id)
      have HLS := hid hls
      have HTS := hid (show tb ≤ wA.heap.size by have := HTZ.out; have := KA.out.size; omega)
      obtain ⟨d0, d1, d2⟩ := cells3 HTA.out
      clear hls HA HAF KA HB3 HTB K3
      go_wp2_with fail
      refine (st_begin HBA.out HTS.out HTA.out HLS.out (by omega) (nodes_nodup k) (fun v hv => by have := nodes_mem.1 hv; omega)).mono ?_
      rintro e w4 ⟨rfl, ⟨rb, mp, pb, hst⟩, hk4⟩
      have S4 := hid hst
      have K4 := hid (KW.out.trans' hk4 (fun i h => .inr (by have := HBZ.out; omega)))
      clear hst hk4 d0 d1 d2 HTA HBA KW HLS HTS
      go_wp2_with fail
      have hm5 := MapIs.made w4 .u8
      have hk5 := (Kept.refl (fun _ => False) w4).alloc (.map #[] 0)
      obtain ⟨w5, hw5⟩ : ∃ w5, w4.alloc (.map #[] 0) = w5 := ⟨_, rfl⟩
      obtain ⟨vm, hvm⟩ : ∃ vm, w4.heap.size = vm := ⟨_, rfl⟩
      rw [hw5] at hm5 hk5 ⊢
      rw [hvm] at hm5 S4 ⊢
      have M5 := hid hm5; have S5 := hid (S4.out.same hk5); have K5 := hid (K4.out.trans hk5)
      obtain ⟨uu, huu⟩ : ∃ uu, vm = uu := ⟨_, rfl⟩
      have VMU := hid (show uu ≤ vm from Nat.le_of_eq huu.symm)
      have HVW := hid (show W.heap.size ≤ vm by have := K4.out.size; omega)
      rw [show St w1.heap.size vm w5 bb w1.heap.size rb mp tb (nodes k) pb (fun x => false) 1 = St w1.heap.size uu w5 bb w1.heap.size rb mp tb (nodes k) pb (fun x => false) 1 from by rw [huu]] at S5
      clear hm5 hk5 hw5 hvm huu S4 K4 HTZ
      go_loopw [13, 45] (fun rv i wr => ∃ (j : Nat) (L : List (Int × Value)) (Y : Int → Bool) (rf : Bool), j ≤ len1 ∧ i = .int .i64 j ∧ rv = .bool rf ∧ St w1.heap.size uu wr bb w1.heap.size rb mp tb (nodes k) pb Y (if rf = true then 4 else 1) ∧ MapIs wr vm .u8 L ∧ Vt (nodes k) Y L ∧ Kept (fun _ => False) W wr) (fun _ i _ => len1 - (RowKit.intOf i).toNat)
      case atStart => exact ⟨0, [], fun _ => false, false, Nat.zero_le _, rfl, rfl, S5.out, M5.out, Vt.nil _, K5.out⟩
      case round =>
        rename World => wr
        obtain ⟨j, L, Y, rf, hj, rfl, rfl, hst, hm, hv, hkp⟩ := hrel
        have SR := hid hst; have MR := hid hm; have VR := hid hv; have KR := hid hkp
        clear hst hm hv hkp S5 M5 K5
        obtain ⟨d0, d1, d2⟩ := SR.out.cells
        by_cases hlt : j < len1
        · have hltI : (j : Int) < (len1 : Int) := by omega
          obtain ⟨b, off, v, rfl, hbl, hcv, hr⟩ := C1.out j (by omega)
          obtain ⟨t, hte, hwt⟩ := hr.int Try.underlying5
          simp only [List.cons.injEq, and_true] at hte
          subst hte
          have cc := KR.out.cell hcv id
          obtain ⟨ht0, ht1⟩ : 0 ≤ t ∧ t ≤ 255 := by
            simp [Lit.wf, IntKind.min, IntKind.max, IntKind.signed, IntKind.bits] at hwt
            omega
          clear hcv hr hwt
          by_cases h30 : (j : Int) < 30
          · obtain ⟨p, hp⟩ : ∃ p : Int, t % (k : Int) = p := ⟨_, rfl⟩
            have hp0 : 0 ≤ p := by rw [← hp]; exact Int.emod_nonneg _ (by omega)
            have hp1 : p < (k : Int) := by rw [← hp]; exact Int.emod_lt_of_pos t (show (0 : Int) < k by omega)
            have hpn := hid (nodes_mem.2 ⟨hp0, hp1⟩)
            obtain ⟨yes, hyes⟩ : ∃ b, ((j : Int) != nv) = b := ⟨_, rfl⟩
            go_wp2_with fail
            refine (SR.out.vote hpn.out yes).mono ?_
            rintro e w6 ⟨rfl, hst, hk6⟩
            have K6 := hid (KR.out.trans' hk6 (fun i h => .inr (by have := HBZ.out; omega)))
            have M6 := hid (MR.out.of_block (hk6.block _ MR.out.lt (fun h => by have := VMU.out; omega)))
            have hlk := voted_look M6.out VR.out p
            obtain ⟨yp, hyp⟩ : ∃ b, Y p = b := ⟨_, rfl⟩
            rw [hyp] at hlk
            have HYP := hid hyp
            clear hk6 SR MR KR d0 d1 d2 cc hyp hyes
            cases rf with
            | true =>
              have hvt : vt (nodes k) Y (if true = true then 4 else 1) p yes = if yes && yp then (4, 0, 4, Y) else (0, 9, 4, Y) := by simp [vt, HYP.out]
              rw [hvt] at hst ⊢
              clear hvt
              cases yes with
              | false =>
                have S6 := hid hst
                clear hst
                go_wp2
                go_roundw
                case rel => exact ⟨j + 1, L, Y, true, by omega, by go_num, rfl, S6.out, M6.out, VR.out, K6.out⟩
                case measure => (simp only [RowKit.intOf]; omega)
              | true =>
                cases yp with
                | false =>
                  have S6 := hid hst
                  clear hst
                  go_wp2
                  go_roundw
                  case rel => exact ⟨j + 1, L, Y, true, by omega, by go_num, rfl, S6.out, M6.out, VR.out, K6.out⟩
                  case measure => (simp only [RowKit.intOf]; omega)
                | true =>
                  have S6 := hid hst
                  clear hst
                  go_wp2
                  go_roundw
                  case rel => exact ⟨j + 1, L, Y, true, by omega, by go_num, rfl, S6.out, M6.out, VR.out, K6.out⟩
                  case measure => (simp only [RowKit.intOf]; omega)
            | false =>
              cases yes with
              | false =>
                have hvt : vt (nodes k) Y (if false = true then 4 else 1) p false = (4, 0, 4, Y) := by simp [vt]
                rw [hvt] at hst ⊢
                clear hvt
                have S6 := hid hst
                obtain ⟨ll, hll⟩ : ∃ l, L.length = l := ⟨_, rfl⟩
                have HLL := hid hll
                obtain ⟨be, hbe⟩ : ∃ b, ((ll : Int) == (k : Int)) = b := ⟨_, rfl⟩
                clear hst hll
                cases be with
                | true =>
                  go_wp2_with (refine wpList_mlen rfl (.tmp 89) 31 _ _ rfl vm rfl Try.underlying31 .u8 L M6.out ?_; rw [HLL.out])
                  go_roundw
                  case rel => exact ⟨j + 1, L, Y, true, by omega, by go_num, rfl, S6.out, M6.out, VR.out, K6.out⟩
                  case measure => (simp only [RowKit.intOf]; omega)
                | false =>
                  go_wp2_with (refine wpList_mlen rfl (.tmp 89) 31 _ _ rfl vm rfl Try.underlying31 .u8 L M6.out ?_; rw [HLL.out])
                  go_roundw
                  case rel => exact ⟨j + 1, L, Y, true, by omega, by go_num, rfl, S6.out, M6.out, VR.out, K6.out⟩
                  case measure => (simp only [RowKit.intOf]; omega)
              | true =>
                have VR2 := hid (VR.out.put hpn.out)
                have LEN := hid (VR2.out.len (nodes_nodup k))
                rw [nodes_len] at LEN
                obtain ⟨al, hal⟩ : ∃ b, (nodes k).all (setY Y p) = b := ⟨_, rfl⟩
                obtain ⟨ll, hll⟩ : ∃ l, (lay L p (.bool true)).length = l := ⟨_, rfl⟩
                rw [hal, hll] at LEN
                have hle : ((ll : Int) == (k : Int)) = al := by
                  cases al with
                  | true => have h1 := LEN.out.2 rfl; simp [h1]
                  | false => have h1 : ¬ ll = k := fun h => by have := LEN.out.1 h; cases this
                             rw [beq_eq_false_iff_ne]; omega
                have hvt : vt (nodes k) Y (if false = true then 4 else 1) p true = if al then (3, 0, 1, setY Y p) else (1, 0, 1, setY Y p) := by simp [vt, hal]
                rw [hvt] at hst ⊢
                have HLL := hid hll
                clear hvt hal hll hlk
                cases al with
                | true =>
                  have S6 := hid hst
                  clear hst
                  go_wp2_with (first | (refine wpList_lay rfl 31 5 4 (.tmp 68) (.tmp 69) (.const (.bool true)) rfl vm .u8 p (.bool true) rfl rfl rfl Try.underlying31 Try.underlying5 L M6.out ?_; intro w7 hm7 hk7; have M7 := hid hm7; have K7 := hid hk7; clear hm7 hk7) | (refine wpList_mlen rfl (.tmp 89) 31 _ _ rfl vm rfl Try.underlying31 .u8 (lay L p (.bool true)) M7.out ?_; rw [HLL.out]))
                  go_roundw
                  case rel => exact ⟨j + 1, lay L p (.bool true), setY Y p, false, by omega, by go_num, rfl, S6.out.kept K7.out (fun i hi e => by have := VMU.out; omega), M7.out, VR2.out, K6.out.trans' K7.out (fun i e => .inr (by have := HVW.out; omega))⟩
                  case measure => (simp only [RowKit.intOf]; omega)
                | false =>
                  have S6 := hid hst
                  clear hst
                  go_wp2_with (first | (refine wpList_lay rfl 31 5 4 (.tmp 68) (.tmp 69) (.const (.bool true)) rfl vm .u8 p (.bool true) rfl rfl rfl Try.underlying31 Try.underlying5 L M6.out ?_; intro w7 hm7 hk7; have M7 := hid hm7; have K7 := hid hk7; clear hm7 hk7) | (refine wpList_mlen rfl (.tmp 89) 31 _ _ rfl vm rfl Try.underlying31 .u8 (lay L p (.bool true)) M7.out ?_; rw [HLL.out]))
                  go_roundw
                  case rel => exact ⟨j + 1, lay L p (.bool true), setY Y p, false, by omega, by go_num, rfl, S6.out.kept K7.out (fun i hi e => by have := VMU.out; omega), M7.out, VR2.out, K6.out.trans' K7.out (fun i e => .inr (by have := HVW.out; omega))⟩
                  case measure => (simp only [RowKit.intOf]; omega)
          · have h30d : decide (30 ≤ (j : Int)) = true := by simp; omega
            go_wp2_with fail
            have SF := hid SR.out
            have LEN := hid (VR.out.len (nodes_nodup k))
            rw [nodes_len] at LEN
            obtain ⟨al, hal⟩ : ∃ b, (nodes k).all Y = b := ⟨_, rfl⟩
            obtain ⟨ll, hll⟩ : ∃ l, L.length = l := ⟨_, rfl⟩
            rw [hal, hll] at LEN
            have hle : ((ll : Int) == (k : Int)) = al := by
              cases al with
              | true => have h1 := LEN.out.2 rfl; simp [h1]
              | false => have h1 : ¬ ll = k := fun h => by have := LEN.out.1 h; cases this
                         rw [beq_eq_false_iff_ne]; omega
            have HAL := hid hal; have HLL := hid hll; have HLE := hid hle
            clear hal hll hle
            go_wp2_with fail
            refine (SF.out.commit).mono ?_
            rintro e w9 ⟨rfl, hst, hk9⟩
            have K9 := hid (KR.out.trans' hk9 (fun i h => .inr (by have := HBZ.out; omega)))
            have MF := hid (MR.out.of_block (hk9.block _ MR.out.lt (fun h => by have := VMU.out; omega)))
            have hle := HLE.out
            clear hst hk9
            cases rf with
            | false =>
              have hcm : (cm (nodes k) Y (if false = true then 4 else 1)).1 = if al then 0 else 9 := by simp only [cm, Bool.false_eq_true, if_false]; rw [HAL.out]; cases al <;> simp
              rw [hcm]
              clear hcm
              cases al with
              | true =>
                go_wp2_with (refine wpList_mlen rfl (.tmp 103) 31 _ _ rfl vm rfl Try.underlying31 .u8 L MF.out ?_; rw [HLL.out])
                go_ret
                exact ⟨rfl, K9.out.below (Nat.le_refl _) (fun _ h => h.elim)⟩
              | false =>
                go_wp2_with (refine wpList_mlen rfl (.tmp 103) 31 _ _ rfl vm rfl Try.underlying31 .u8 L MF.out ?_; rw [HLL.out])
                go_ret
                exact ⟨rfl, K9.out.below (Nat.le_refl _) (fun _ h => h.elim)⟩
            | true =>
              have hcm : (cm (nodes k) Y (if true = true then 4 else 1)).1 = 9 := by simp [cm]
              rw [hcm]
              clear hcm
              cases al with
              | true =>
                go_wp2_with (refine wpList_mlen rfl (.tmp 103) 31 _ _ rfl vm rfl Try.underlying31 .u8 L MF.out ?_; rw [HLL.out])
                go_ret
                exact ⟨rfl, K9.out.below (Nat.le_refl _) (fun _ h => h.elim)⟩
              | false =>
                go_wp2_with (refine wpList_mlen rfl (.tmp 103) 31 _ _ rfl vm rfl Try.underlying31 .u8 L MF.out ?_; rw [HLL.out])
                go_ret
                exact ⟨rfl, K9.out.below (Nat.le_refl _) (fun _ h => h.elim)⟩
        · have SF := hid SR.out
          have LEN := hid (VR.out.len (nodes_nodup k))
          rw [nodes_len] at LEN
          obtain ⟨al, hal⟩ : ∃ b, (nodes k).all Y = b := ⟨_, rfl⟩
          obtain ⟨ll, hll⟩ : ∃ l, L.length = l := ⟨_, rfl⟩
          rw [hal, hll] at LEN
          have hle : ((ll : Int) == (k : Int)) = al := by
            cases al with
            | true => have h1 := LEN.out.2 rfl; simp [h1]
            | false => have h1 : ¬ ll = k := fun h => by have := LEN.out.1 h; cases this
                       rw [beq_eq_false_iff_ne]; omega
          have HAL := hid hal; have HLL := hid hll; have HLE := hid hle
          clear hal hll hle
          go_wp2_with fail
          refine (SF.out.commit).mono ?_
          rintro e w9 ⟨rfl, hst, hk9⟩
          have K9 := hid (KR.out.trans' hk9 (fun i h => .inr (by have := HBZ.out; omega)))
          have MF := hid (MR.out.of_block (hk9.block _ MR.out.lt (fun h => by have := VMU.out; omega)))
          have hle := HLE.out
          clear hst hk9
          cases rf with
          | false =>
            have hcm : (cm (nodes k) Y (if false = true then 4 else 1)).1 = if al then 0 else 9 := by simp only [cm, Bool.false_eq_true, if_false]; rw [HAL.out]; cases al <;> simp
            rw [hcm]
            clear hcm
            cases al with
            | true =>
              go_wp2_with (refine wpList_mlen rfl (.tmp 103) 31 _ _ rfl vm rfl Try.underlying31 .u8 L MF.out ?_; rw [HLL.out])
              go_ret
              exact ⟨rfl, K9.out.below (Nat.le_refl _) (fun _ h => h.elim)⟩
            | false =>
              go_wp2_with (refine wpList_mlen rfl (.tmp 103) 31 _ _ rfl vm rfl Try.underlying31 .u8 L MF.out ?_; rw [HLL.out])
              go_ret
              exact ⟨rfl, K9.out.below (Nat.le_refl _) (fun _ h => h.elim)⟩
          | true =>
            have hcm : (cm (nodes k) Y (if true = true then 4 else 1)).1 = 9 := by simp [cm]
            rw [hcm]
            clear hcm
            cases al with
            | true =>
              go_wp2_with (refine wpList_mlen rfl (.tmp 103) 31 _ _ rfl vm rfl Try.underlying31 .u8 L MF.out ?_; rw [HLL.out])
              go_ret
              exact ⟨rfl, K9.out.below (Nat.le_refl _) (fun _ h => h.elim)⟩
            | false =>
              go_wp2_with (refine wpList_mlen rfl (.tmp 103) 31 _ _ rfl vm rfl Try.underlying31 .u8 L MF.out ?_; rw [HLL.out])
              go_ret
              exact ⟨rfl, K9.out.below (Nat.le_refl _) (fun _ h => h.elim)⟩
end Go.Proofs.Ytaobioleodfafaa
