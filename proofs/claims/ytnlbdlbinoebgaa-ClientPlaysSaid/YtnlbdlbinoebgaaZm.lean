/- The walk of ClientPlays. -/
import Derived.Test.YtnlbdlbinoebgaaZl
namespace Go.Proofs.Ytnlbdlbinoebgaa
open Go.RowKit
def opZero : Array Value := #[.int .u8 0, .int .u8 0, .slice none 0 0, .int .u32 0, .int .i64 0, .int .i64 0, .int .u8 0, .int .u8 0, .int .u8 0, .int .u8 0, .int .u32 0, .int .u32 0, .int .u64 0, .int .u32 0, .int .u8 0, .int .u32 0, .int .u8 0, .slice none 0 0, .int .u32 0, .int .i64 0, .int .i64 0,
   .int .i64 0, .int .i64 0, .slice none 0 0, .slice none 0 0, .slice none 0 0, .slice none 0 0, .slice none 0 0, .slice none 0 0, .int .u64 0, .int .u64 0, .int .i64 0]
-- the element's read and store: $1 the slot of the loop's start world's Kept fact (Hid)
set_option maxRecDepth 100000 in
set_option maxHeartbeats 8000000 in
theorem plays_walk (W : World) (args : Array Value) (h : RdAll Try.prog W Try.f4.params.toList args.toList) :
    Calls Try.prog 4 args W fun e W' => e = .returned (.bool true) ∧ Below W.heap.size W W' := by
  rw [Try.params4] at h
  obtain ⟨v0, v1, v2, rfl⟩ : ∃ v0 v1 v2, args = #[v0, v1, v2] := by
    rcases args with ⟨_ | ⟨v0, _ | ⟨v1, _ | ⟨v2, _ | ⟨v3, l⟩⟩⟩⟩⟩ <;> simp [RdAll] at h
    exact ⟨v0, v1, v2, rfl⟩
  obtain ⟨r0, r1, r2, _⟩ := h
  obtain ⟨a0, len0, cap0, rfl, h0⟩ := r2.slice Try.underlying52
  obtain ⟨l0, mm0, z0, _, c0⟩ := h0.row Try.underlying52 cellsOp (by decide)
  obtain ⟨ci, rfl, wc⟩ := r0.int Try.underlying5
  obtain ⟨nd, rfl, wn⟩ := r1.int Try.underlying3
  have wc := wf8 wc
  unfold maxLen at mm0
  have C0 := hid c0
  clear c0 h0 r0 r1 r2 z0 wn
  go_enter Try.func4, Try.ntmps4
  go_wp2_with fail
  refine (awake_any _).mono ?_; rintro e w1 ⟨rfl, hk1⟩
  have K1 := hid hk1
  clear hk1
  go_wp2_with fail
  by_cases hgood : ci ≤ 3 ∧ 1 ≤ nd ∧ nd ≤ 4
  · have p0 : 0 ≤ ci := wc.1
    obtain ⟨p1, n1, n4⟩ := hgood
    have HPN := hid (show 0 ≤ ci ∧ ci ≤ 3 ∧ 1 ≤ nd ∧ nd ≤ 4 from ⟨p0, p1, n1, n4⟩)
    refine (new_ok ci nd _ p0 p1 n1 n4).mono ?_; rintro e w2 ⟨rfl, rfl⟩
    obtain ⟨cb, hcb⟩ : ∃ cb, w1.heap.size = cb := ⟨_, rfl⟩
    have HC0 := hid (row_new w1 (cliRow ci nd 0 none))
    have K2 := hid (K1.out.alloc (cliRow ci nd 0 none))
    have HBC := hid (show W.heap.size ≤ cb by have := K1.out.size; omega)
    obtain ⟨w2, hw2⟩ : ∃ w2, w1.alloc (cliRow ci nd 0 none) = w2 := ⟨_, rfl⟩
    rw [hw2] at HC0 K2 ⊢
    rw [hcb] at HC0 ⊢
    clear hw2 hcb K1
    go_wp2_with fail
    refine (dnew_ok ci nd _ p0 p1 n1 n4).mono ?_; rintro e w3 ⟨rfl, rfl⟩
    obtain ⟨xb, hxb⟩ : ∃ xb, w2.heap.size = xb := ⟨_, rfl⟩
    have HX0 := hid (row_new w2 (docRow ci nd 0 false ⟨0, [], 0, 0, 0⟩ (.slice none 0 0)))
    have HC1 := hid (row_old HC0.out (docRow ci nd 0 false ⟨0, [], 0, 0, 0⟩ (.slice none 0 0)))
    have K3 := hid (K2.out.alloc (docRow ci nd 0 false ⟨0, [], 0, 0, 0⟩ (.slice none 0 0)))
    have HNE := hid (show cb < xb by have := row_lt HC0.out; omega)
    obtain ⟨w3, hw3⟩ : ∃ w3, w2.alloc (docRow ci nd 0 false ⟨0, [], 0, 0, 0⟩ (.slice none 0 0)) = w3 := ⟨_, rfl⟩
    rw [hw3] at HX0 HC1 K3 ⊢
    rw [hxb] at HX0 ⊢
    have S3 := hid (show Stt (F0 cb xb) w3 ci nd 0 cb xb from .inl ⟨HC1.out, _, _, HX0.out⟩)
    clear hw3 hxb K2 HC0 HC1 HX0 p0 p1 n1 n4
    go_wp2_with fail
    go_loopw [39] (fun i wr => ∃ (k : Nat) (seq : Int), k ≤ len0 ∧ k ≤ 100 ∧ i = .int .i64 k ∧ 0 ≤ seq ∧ seq ≤ k ∧ Stt (F0 cb xb) wr ci nd seq cb xb ∧ Kept (fun g => W.heap.size ≤ g) W wr) (fun i _ => len0 - (RowKit.intOf i).toNat)
    case atStart => exact ⟨0, 0, Nat.zero_le _, by decide, rfl, by decide, by decide, S3.out, K3.out.mono (fun _ _ h => h.elim)⟩
    case round =>
      rename World => wr
      obtain ⟨k, seq, hk, hk100, rfl, sq0, sq1, hst, hkp⟩ := hrel
      have KR := hid hkp; have SR := hid hst
      clear hkp hst
      by_cases hlt : k < len0
      · have hltI : (k : Int) < (len0 : Int) := by omega
        have HSQ := hid (show 0 ≤ seq ∧ seq ≤ k from ⟨sq0, sq1⟩)
        clear sq0 sq1
        obtain ⟨b, off, es, rfl, hbl, hes, hcv, hr⟩ := C0.out k (by omega)
        obtain ⟨kn, R, ao, c, ms, m0, m1, m2, m3, m4, m5, m6, m7, m8, m9, rk, rv, rn, rt, ae, ap, m23, m24, m25, oa, va, la, wa, xa, da, na, oq, vq, lq, wq, xq, dq, nq, ops, V, L, WL, X, D, NB, hee, hRq, HMS, hM⟩ := op57_read hes hr
        obtain ⟨os, hos⟩ : ∃ os : Array Value, os = es.toArray := ⟨_, rfl⟩
        have hoe : os.toList = .int .u8 kn :: .int .u8 R.kd :: .slice ao R.ops.length c :: .int .u32 R.v :: .int .i64 R.k :: .int .i64 R.t :: ms.toList := by rw [hos, ← hee]
        have hsz : os.size = 32 := by rw [hos]; simpa using hes
        have hg : ∀ (j : Nat), os[j]? = (.int .u8 kn :: .int .u8 R.kd :: .slice ao R.ops.length c :: .int .u32 R.v :: .int .i64 R.k :: .int .i64 R.t :: ms.toList)[j]? := fun j => by rw [← hoe]; simp
        have hm1 : ms.all (·.oneCell') = true := by rw [HMS.out]; simp [Value.oneCell']
        have hos1 : os.all (·.oneCell') = true := by
          rw [Array.all_eq_true'] at hm1 ⊢
          intro u hu
          have : u ∈ os.toList := by simpa using hu
          rw [hoe] at this
          simp only [List.mem_cons] at this
          rcases this with rfl | rfl | rfl | rfl | rfl | rfl | h
          · rfl
          · rfl
          · rfl
          · rfl
          · rfl
          · rfl
          · exact hm1 u (by simpa using h)
        have hrg : wr.rangeAt b (off + k * 32) os.toList := fun j u hj => by
          have hj' : es[j]? = some u := by rw [hos] at hj; simpa using hj
          exact KR.out.cell (by rw [hcv j (by rw [← hes]; exact (List.getElem?_eq_some_iff.1 hj').1)]; exact hj') (fun h => Nat.not_le_of_lt hbl h)
        have HRG := hid hrg; have HSZ := hid hsz; have HO1 := hid hos1; have HG := hid hg
        have HRQ := hid hRq; have HM := hid hM
        clear hcv hr hes hee hRq hM hos hoe hsz hg hm1 hos1 hrg
        go_wp2_with (first
          | (refine wpList_load_mid rfl 57 (.tmp 42) rfl b (off + k * 32) rfl os.toList _ HRG.out Try.underlying57 rfl (by rw [Array.length_toList, HSZ.out]; exact infoOp) ?_; simp only [Array.toArray_toList])
          | (refine wpList_store_row rfl 57 (.tmp 12) (.tmp 43) rfl os opZero (by rfl) (by rfl) (by exact row_new wr _) (by rw [HSZ.out]; rfl) (by rw [HSZ.out]; exact infoOp) HO1.out ?_; intro w7 hb7 hk7; have E7 := hid hb7; have K7 := hid (((Kept.refl (fun _ => False) wr).alloc (.cells opZero 57)).trans' hk7 (fun g hg => .inr (by rw [hg]; exact Nat.le_refl _))); clear hb7 hk7; refine Hid.out ?_))
        refine hid ?_
        obtain ⟨eb, heb⟩ : ∃ eb, wr.heap.size = eb := ⟨_, rfl⟩
        rw [heb] at E7 ⊢
        have HEB := hid heb
        clear heb HRG
        have x2 : w7.cell? ⟨eb, 2, none⟩ = some (.slice ao R.ops.length c) := (row_cell E7.out 2).trans (HG.out 2)
        have HLN := hid (oplen HRQ.out)
        by_cases h100 : (100 : Int) ≤ (k : Int)
        · go_wp2
          go_ret
          exact ⟨rfl, (KR.out.trans (K7.out.mono (fun _ _ h => h.elim))).below (Nat.le_refl _) (fun _ h => h)⟩
        · have hln := HLN.out
          by_cases h50 : (50 : Int) < (R.ops.length : Int)
          · go_wp2
            go_ret
            exact ⟨rfl, (KR.out.trans (K7.out.mono (fun _ _ h => h.elim))).below (Nat.le_refl _) (fun _ h => h)⟩
          · go_wp2_with fail
            have KD := hid (show Kept (fun g => W.heap.size ≤ g) W w7.drew from (KR.out.trans (K7.out.mono (fun _ _ h => h.elim))).drew)
            have ED := hid (show w7.drew.heap[eb]? = some (.cells os 57 (0, 0)) from E7.out)
            have SD := hid (SR.out.kept (show Kept (fun _ => False) wr w7.drew from K7.out.drew) (fun _ _ h => h.elim) (fun h => h) (fun h => h))
            have hbc := HBC.out
            have hne := HNE.out
            have RD1 := hid ((HRQ.out.kept KD.out (fun g _ h => h)).mono (G := fun g => g = cb ∨ g = xb ∨ w7.drew.heap.size ≤ g) (fun g hg h => by show W.heap.size ≤ g; omega))
            have MD1 := hid ((HM.out.kept KD.out (fun g _ h => h)).mono (G := fun g => g = cb ∨ g = xb ∨ w7.drew.heap.size ≤ g) (fun g hg h => by show W.heap.size ≤ g; omega))
            clear x2 hln h50 hbc hne E7 K7 KR SR HRQ HM
            refine wp_region_held_drew (S := fun _ => True) (by kernel_rfl) (by exact trivial) (fun hHeld => ?_)
            refine wpAnyH_at 0 (some 51) (v := ?v100) (by decide) rfl (by kernel_rfl) (by kernel_rfl) (by kernel_rfl) (fun _ _ _ h => h) (Or.inl ⟨by rfl, ?y100⟩) (by assumption) ?r100
            case y100 => (intro w hSw; (try dsimp only at hSw); go_simp; (try with_reducible rfl))
            simp only [Act.put, List.setIfInBounds_toArray, List.set_cons_zero, List.set_cons_succ]
            refine wpAnyH_at 1 (some 52) (v := ?v101) (by decide) rfl (by kernel_rfl) (by kernel_rfl) (by kernel_rfl) (fun _ _ _ h => h) (Or.inl ⟨by rfl, ?y101⟩) (by assumption) ?r101
            case y101 => (intro w hSw; (try dsimp only at hSw); go_simp; (try with_reducible rfl))
            simp only [Act.put, List.setIfInBounds_toArray, List.set_cons_zero, List.set_cons_succ]
            refine wpAnyH_ready (rs := [2]) (by kernel_rfl) (by simp) ?_
            refine AllReadyH.cons rfl (fun K hK => ?_) AllReadyH.nil
            refine step_load_row (by rfl) 57 (.tmp 12) rfl os _ (by rfl) ED.out Try.underlying57 rfl (by rw [HSZ.out]; exact infoOp) ?_
            try dsimp only []
            refine hK.out _ _ (by exact trivial) (fun hHeld => ?_)
            clear hK K
            try simp only [Act.put, List.setIfInBounds_toArray, List.set_cons_zero, List.set_cons_succ]
            refine wpAnyH_ready (rs := [3]) (by kernel_rfl) (by simp) ?_
            refine AllReadyH.cons rfl (fun K hK => ?_) AllReadyH.nil
            go_simp
            refine (play_any (w := w7.drew) SD.out (Nat.ne_of_lt HNE.out) HPN.out.1 HPN.out.2.1 HPN.out.2.2.1 HPN.out.2.2.2 HSQ.out.1 (by have := HSQ.out; omega) HSZ.out (HG.out 0) (HG.out 1) (HG.out 2) (HG.out 3) (HG.out 4) (HG.out 5) HMS (fun j u hj => (HG.out (6 + j)).trans (by rw [Nat.add_comm]; exact hj)) RD1.out MD1.out).mono ?_
            rintro e w9 ⟨rfl, seq', s0, s1, hst9, hk9⟩
            have S9 := hid hst9
            have K9 := hid (KD.out.trans (hk9.mono fun g _ h => by have := HBC.out; have := HNE.out; rcases h with h | h <;> (show W.heap.size ≤ g; omega)))
            have HS9 := hid (show 0 ≤ seq' ∧ seq' ≤ (k : Int) + 1 from ⟨s0, by have := HSQ.out; omega⟩)
            obtain ⟨⟨rp, hrow⟩, hcell⟩ := hst9.rows
            have HROW := hid hrow
            clear hst9 hk9 s0 s1 hrow KD ED SD RD1 MD1 hHeld
            try dsimp only []
            refine hK.out _ _ (by exact trivial) (fun hHeld => ?_)
            clear hK K
            try simp only [Act.put, List.setIfInBounds_toArray, List.set_cons_zero, List.set_cons_succ]
            refine wpAnyH_mono (S1 := fun w' => w'.cell? ⟨xb, 2, none⟩ = some (.int .u32 seq')) (fun _ _ => trivial) _ _ _ _ ?_
            clear hHeld
            have hHeld : (fun w' : World => w'.cell? ⟨xb, 2, none⟩ = some (.int .u32 seq')) w9 := hcell
            have hsq : (seq' != seq') = false := by simp
            refine wpAnyH_at 4 (some 55) (v := ?v104) (by decide) rfl (by kernel_rfl) (by kernel_rfl) (by kernel_rfl) (fun _ _ _ h => h) (Or.inl ⟨by rfl, ?y104⟩) (by assumption) ?r104
            case y104 => (intro w hSw; (try dsimp only at hSw); go_simp; (try with_reducible rfl))
            simp only [Act.put, List.setIfInBounds_toArray, List.set_cons_zero, List.set_cons_succ]
            refine wpAnyH_at 5 (some 56) (v := ?v105) (by decide) rfl (by kernel_rfl) (by kernel_rfl) (by kernel_rfl) (fun _ _ _ h => h) (Or.inl ⟨by rfl, ?y105⟩) (by assumption) ?r105
            case y105 => (intro w hSw; (try dsimp only at hSw); go_simp; (try with_reducible rfl))
            simp only [Act.put, List.setIfInBounds_toArray, List.set_cons_zero, List.set_cons_succ]
            refine wpAnyH_at 6 (some 57) (v := ?v106) (by decide) rfl (by kernel_rfl) (by kernel_rfl) (by kernel_rfl) (fun _ _ _ h => h) (Or.inl ⟨by rfl, ?y106⟩) (by assumption) ?r106
            case y106 => (intro w hSw; (try dsimp only at hSw); go_simp; (try with_reducible rfl))
            simp only [Act.put, List.setIfInBounds_toArray, List.set_cons_zero, List.set_cons_succ]
            refine wpAnyH_at 7 (some 58) (v := ?v107) (by decide) rfl (by kernel_rfl) (by kernel_rfl) (by kernel_rfl) (fun _ _ _ h => h) (Or.inl ⟨by rfl, ?y107⟩) (by assumption) ?r107
            case y107 => (intro w hSw; (try dsimp only at hSw); go_simp; (try with_reducible rfl))
            simp only [Act.put, List.setIfInBounds_toArray, List.set_cons_zero, List.set_cons_succ]
            refine wpAnyH_at 8 (some 59) (v := ?v108) (by decide) rfl (by kernel_rfl) (by kernel_rfl) (by kernel_rfl) (fun _ _ _ h => h) (Or.inl ⟨by rfl, ?y108⟩) (by assumption) ?r108
            case y108 => (intro w hSw; (try dsimp only at hSw); go_simp; (try with_reducible rfl))
            simp only [Act.put, List.setIfInBounds_toArray, List.set_cons_zero, List.set_cons_succ]
            refine wpAnyH_at 9 (some 60) (v := ?v109) (by decide) rfl (by kernel_rfl) (by kernel_rfl) (by kernel_rfl) (fun _ _ _ h => h) (Or.inl ⟨by rfl, ?y109⟩) (by assumption) ?r109
            case y109 => (intro w hSw; (try dsimp only at hSw); go_simp; (try with_reducible rfl))
            simp only [Act.put, List.setIfInBounds_toArray, List.set_cons_zero, List.set_cons_succ]
            refine wpAnyH_at 11 (some 62) (v := ?v111) (by decide) rfl (by kernel_rfl) (by kernel_rfl) (by kernel_rfl) (fun _ _ _ h => h) (Or.inl ⟨by rfl, ?y111⟩) (by assumption) ?r111
            case y111 => (intro w hSw; (try dsimp only at hSw); go_simp; (try with_reducible rfl))
            simp only [Act.put, List.setIfInBounds_toArray, List.set_cons_zero, List.set_cons_succ]
            refine wpAnyH_at 12 (some 63) (v := ?v112) (by decide) rfl (by kernel_rfl) (by kernel_rfl) (by kernel_rfl) (fun _ _ _ h => h) (Or.inl ⟨by rfl, ?y112⟩) (by assumption) ?r112
            case y112 => (intro w hSw; (try dsimp only at hSw); go_simp; (try with_reducible rfl))
            simp only [Act.put, List.setIfInBounds_toArray, List.set_cons_zero, List.set_cons_succ]
            refine wpAnyH_at 13 (some 64) (v := ?v113) (by decide) rfl (by kernel_rfl) (by kernel_rfl) (by kernel_rfl) (fun _ _ _ h => h) (Or.inl ⟨by rfl, ?y113⟩) (by assumption) ?r113
            case y113 => (intro w hSw; (try dsimp only at hSw); go_simp; (try with_reducible rfl))
            simp only [Act.put, List.setIfInBounds_toArray, List.set_cons_zero, List.set_cons_succ]
            refine wpAnyH_at 14 (some 65) (v := ?v114) (by decide) rfl (by kernel_rfl) (by kernel_rfl) (by kernel_rfl) (fun _ _ _ h => h) (Or.inl ⟨by rfl, ?y114⟩) (by assumption) ?r114
            case y114 => (intro w hSw; (try dsimp only at hSw); go_simp; (try with_reducible rfl))
            simp only [Act.put, List.setIfInBounds_toArray, List.set_cons_zero, List.set_cons_succ]
            refine wpAnyH_ready (rs := [10]) (by kernel_rfl) (by simp) ?_
            refine AllReadyH.cons rfl (fun K hK => ?_) AllReadyH.nil
            go_simp
            refine (seq_any (by exact HROW.out)).mono ?_
            rintro e w10 ⟨rfl, rfl⟩
            try dsimp only []
            refine hK.out _ _ (by exact hcell) (fun hHeld => ?_)
            clear hK K
            try simp only [Act.put, List.setIfInBounds_toArray, List.set_cons_zero, List.set_cons_succ]
            refine wpAnyH_at 15 (some 66) (v := ?v115) (by decide) rfl (by kernel_rfl) (by kernel_rfl) (by kernel_rfl) (fun _ _ _ h => h) (Or.inl ⟨by rfl, ?y115⟩) (by assumption) ?r115
            case y115 => (intro w hSw; (try dsimp only at hSw); go_simp; (try with_reducible rfl))
            simp only [Act.put, List.setIfInBounds_toArray, List.set_cons_zero, List.set_cons_succ]
            refine wpAnyH_at 16 (some 67) (v := ?v116) (by decide) rfl (by kernel_rfl) (by kernel_rfl) (by kernel_rfl) (fun _ _ _ h => h) (Or.inl ⟨by rfl, ?y116⟩) (by assumption) ?r116
            case y116 => (intro w hSw; (try dsimp only at hSw); go_simp; (try with_reducible rfl))
            simp only [Act.put, List.setIfInBounds_toArray, List.set_cons_zero, List.set_cons_succ]
            refine wpAnyH_at 17 (some 68) (v := ?v117) (by decide) rfl (by kernel_rfl) (by kernel_rfl) (by kernel_rfl) (fun _ _ _ h => h) (Or.inl ⟨by rfl, ?y117⟩) (by assumption) ?r117
            case y117 => (intro w hSw; (try dsimp only at hSw); go_simp; (try with_reducible rfl))
            simp only [Act.put, List.setIfInBounds_toArray, List.set_cons_zero, List.set_cons_succ]
            refine wpAnyH_at 18 (some 69) (v := ?v118) (by decide) rfl (by kernel_rfl) (by kernel_rfl) (by kernel_rfl) (fun _ _ _ h => h) (Or.inl ⟨by rfl, ?y118⟩) (by assumption) ?r118
            case y118 => (intro w hSw; (try dsimp only at hSw); go_simp; (try with_reducible rfl))
            simp only [Act.put, List.setIfInBounds_toArray, List.set_cons_zero, List.set_cons_succ]
            refine wpAnyH_at 19 (some 70) (v := ?v119) (by decide) rfl (by kernel_rfl) (by kernel_rfl) (by kernel_rfl) (fun _ _ _ h => h) (Or.inl ⟨by rfl, ?y119⟩) (by assumption) ?r119
            case y119 => (intro w hSw; (try dsimp only at hSw); go_simp; (try with_reducible rfl))
            simp only [Act.put, List.setIfInBounds_toArray, List.set_cons_zero, List.set_cons_succ]
            refine wpAnyH_at 20 (some 71) (v := ?v120) (by decide) rfl (by kernel_rfl) (by kernel_rfl) (by kernel_rfl) (fun _ _ _ h => h) (Or.inl ⟨by rfl, ?y120⟩) (by assumption) ?r120
            case y120 => (intro w hSw; (try dsimp only at hSw); go_simp; (try with_reducible rfl))
            simp only [Act.put, List.setIfInBounds_toArray, List.set_cons_zero, List.set_cons_succ]
            refine wpAnyH_at 21 (some 72) (v := ?v121) (by decide) rfl (by kernel_rfl) (by kernel_rfl) (by kernel_rfl) (fun _ _ _ h => h) (Or.inl ⟨by rfl, ?y121⟩) (by assumption) ?r121
            case y121 => (intro w hSw; (try dsimp only at hSw); go_simp; (try with_reducible rfl))
            simp only [Act.put, List.setIfInBounds_toArray, List.set_cons_zero, List.set_cons_succ]
            refine wpAnyH_at 22 (some 73) (v := undef) (by decide) rfl (by kernel_rfl) (by kernel_rfl) (by kernel_rfl) (fun _ _ _ h => h) (Or.inr ⟨by rfl, rfl⟩) (by assumption) ?_
            simp only [Act.put, List.setIfInBounds_toArray, List.set_cons_zero, List.set_cons_succ]
            refine wpAnyH_at 23 (some 74) (v := undef) (by decide) rfl (by kernel_rfl) (by kernel_rfl) (by kernel_rfl) (fun _ _ _ h => h) (Or.inr ⟨by rfl, rfl⟩) (by assumption) ?_
            simp only [Act.put, List.setIfInBounds_toArray, List.set_cons_zero, List.set_cons_succ]
            refine wpAnyH_at 24 (some 75) (v := undef) (by decide) rfl (by kernel_rfl) (by kernel_rfl) (by kernel_rfl) (fun _ _ _ h => h) (Or.inr ⟨by rfl, rfl⟩) (by assumption) ?_
            simp only [Act.put, List.setIfInBounds_toArray, List.set_cons_zero, List.set_cons_succ]
            refine wpAnyH_at 25 (some 76) (v := ?v125) (by decide) rfl (by kernel_rfl) (by kernel_rfl) (by kernel_rfl) (fun _ _ _ h => h) (Or.inl ⟨by rfl, ?y125⟩) (by assumption) ?r125
            case y125 => (intro w hSw; (try dsimp only at hSw); go_simp; (try with_reducible rfl))
            simp only [Act.put, List.setIfInBounds_toArray, List.set_cons_zero, List.set_cons_succ]
            refine wpAnyH_at 26 (some 77) (v := ?v126) (by decide) rfl (by kernel_rfl) (by kernel_rfl) (by kernel_rfl) (fun _ _ _ h => h) (Or.inl ⟨by rfl, ?y126⟩) (by assumption) ?r126
            case y126 => (intro w hSw; (try dsimp only at hSw); go_simp; (try with_reducible rfl))
            simp only [Act.put, List.setIfInBounds_toArray, List.set_cons_zero, List.set_cons_succ]
            refine wpAnyH_done (by kernel_rfl) ?_ _
            clear hHeld hcell hsq
            go_wp2
            go_roundw
            case rel => exact ⟨k + 1, seq', by omega, by omega, by go_num, HS9.out.1, HS9.out.2, S9.out, K9.out⟩
            case measure => (simp only [RowKit.intOf]; omega)
      · go_wp2
        go_ret
        exact ⟨rfl, KR.out.below (Nat.le_refl _) (fun _ h => h)⟩
  · refine (new_bad ci nd _ hgood).mono ?_; rintro e w2 ⟨rfl, rfl⟩
    go_wp2_with fail
    refine (dnew_bad ci nd _ hgood).mono ?_; rintro e w3 ⟨rfl, rfl⟩
    clear hgood
    go_wp2_with fail
    go_loopw [39] (fun i wr => ∃ (k : Nat), k ≤ len0 ∧ k ≤ 100 ∧ i = .int .i64 k ∧ Kept (fun g => W.heap.size ≤ g) W wr) (fun i _ => len0 - (RowKit.intOf i).toNat)
    case atStart => exact ⟨0, Nat.zero_le _, by decide, rfl, K1.out.mono (fun _ _ h => h.elim)⟩
    case round =>
      rename World => wr
      obtain ⟨k, hk, hk100, rfl, hkp⟩ := hrel
      have KR := hid hkp
      clear hkp
      by_cases hlt : k < len0
      · have hltI : (k : Int) < (len0 : Int) := by omega
        obtain ⟨b, off, es, rfl, hbl, hes, hcv, hr⟩ := C0.out k (by omega)
        obtain ⟨kn, R, ao, c, ms, m0, m1, m2, m3, m4, m5, m6, m7, m8, m9, rk, rv, rn, rt, ae, ap, m23, m24, m25, oa, va, la, wa, xa, da, na, oq, vq, lq, wq, xq, dq, nq, ops, V, L, WL, X, D, NB, hee, hRq, HMS, hM⟩ := op57_read hes hr
        obtain ⟨os, hos⟩ : ∃ os : Array Value, os = es.toArray := ⟨_, rfl⟩
        have hoe : os.toList = .int .u8 kn :: .int .u8 R.kd :: .slice ao R.ops.length c :: .int .u32 R.v :: .int .i64 R.k :: .int .i64 R.t :: ms.toList := by rw [hos, ← hee]
        have hsz : os.size = 32 := by rw [hos]; simpa using hes
        have hg : ∀ (j : Nat), os[j]? = (.int .u8 kn :: .int .u8 R.kd :: .slice ao R.ops.length c :: .int .u32 R.v :: .int .i64 R.k :: .int .i64 R.t :: ms.toList)[j]? := fun j => by rw [← hoe]; simp
        have hm1 : ms.all (·.oneCell') = true := by rw [HMS.out]; simp [Value.oneCell']
        have hos1 : os.all (·.oneCell') = true := by
          rw [Array.all_eq_true'] at hm1 ⊢
          intro u hu
          have : u ∈ os.toList := by simpa using hu
          rw [hoe] at this
          simp only [List.mem_cons] at this
          rcases this with rfl | rfl | rfl | rfl | rfl | rfl | h
          · rfl
          · rfl
          · rfl
          · rfl
          · rfl
          · rfl
          · exact hm1 u (by simpa using h)
        have hrg : wr.rangeAt b (off + k * 32) os.toList := fun j u hj => by
          have hj' : es[j]? = some u := by rw [hos] at hj; simpa using hj
          exact KR.out.cell (by rw [hcv j (by rw [← hes]; exact (List.getElem?_eq_some_iff.1 hj').1)]; exact hj') (fun h => Nat.not_le_of_lt hbl h)
        have HRG := hid hrg; have HSZ := hid hsz; have HO1 := hid hos1; have HG := hid hg
        have HRQ := hid hRq; have HM := hid hM
        clear hcv hr hes hee hRq hM hos hoe hsz hg hm1 hos1 hrg
        go_wp2_with (first
          | (refine wpList_load_mid rfl 57 (.tmp 42) rfl b (off + k * 32) rfl os.toList _ HRG.out Try.underlying57 rfl (by rw [Array.length_toList, HSZ.out]; exact infoOp) ?_; simp only [Array.toArray_toList])
          | (refine wpList_store_row rfl 57 (.tmp 12) (.tmp 43) rfl os opZero (by rfl) (by rfl) (by exact row_new wr _) (by rw [HSZ.out]; rfl) (by rw [HSZ.out]; exact infoOp) HO1.out ?_; intro w7 hb7 hk7; have E7 := hid hb7; have K7 := hid (((Kept.refl (fun _ => False) wr).alloc (.cells opZero 57)).trans' hk7 (fun g hg => .inr (by rw [hg]; exact Nat.le_refl _))); clear hb7 hk7; refine Hid.out ?_))
        refine hid ?_
        obtain ⟨eb, heb⟩ : ∃ eb, wr.heap.size = eb := ⟨_, rfl⟩
        rw [heb] at E7 ⊢
        have HEB := hid heb
        clear heb HRG
        have x2 : w7.cell? ⟨eb, 2, none⟩ = some (.slice ao R.ops.length c) := (row_cell E7.out 2).trans (HG.out 2)
        have HLN := hid (oplen HRQ.out)
        by_cases h100 : (100 : Int) ≤ (k : Int)
        · go_wp2
          go_ret
          exact ⟨rfl, (KR.out.trans (K7.out.mono (fun _ _ h => h.elim))).below (Nat.le_refl _) (fun _ h => h)⟩
        · have hln := HLN.out
          by_cases h50 : (50 : Int) < (R.ops.length : Int)
          · go_wp2
            go_ret
            exact ⟨rfl, (KR.out.trans (K7.out.mono (fun _ _ h => h.elim))).below (Nat.le_refl _) (fun _ h => h)⟩
          · go_wp2_with fail
            have KD := hid (show Kept (fun g => W.heap.size ≤ g) W w7.drew from (KR.out.trans (K7.out.mono (fun _ _ h => h.elim))).drew)
            have ED := hid (show w7.drew.heap[eb]? = some (.cells os 57 (0, 0)) from E7.out)
            have HBE := hid (show W.heap.size ≤ eb by have := KR.out.size; have := HEB.out; omega)
            have hbe := HBE.out
            have RD1 := hid ((HRQ.out.kept KD.out (fun g _ h => h)).mono (G := fun g => g = eb ∨ w7.drew.heap.size ≤ g) (fun g hg h => by show W.heap.size ≤ g; omega))
            have MD1 := hid ((HM.out.kept KD.out (fun g _ h => h)).mono (G := fun g => g = eb ∨ w7.drew.heap.size ≤ g) (fun g hg h => by show W.heap.size ≤ g; omega))
            clear x2 hln h50 hbe E7 K7 KR HRQ HM
            refine wp_region_held_drew (S := fun _ => True) (by kernel_rfl) (by exact trivial) (fun hHeld => ?_)
            refine wpAnyH_at 0 (some 51) (v := ?v300) (by decide) rfl (by kernel_rfl) (by kernel_rfl) (by kernel_rfl) (fun _ _ _ h => h) (Or.inl ⟨by rfl, ?y300⟩) (by assumption) ?r300
            case y300 => (intro w hSw; (try dsimp only at hSw); go_simp; (try with_reducible rfl))
            simp only [Act.put, List.setIfInBounds_toArray, List.set_cons_zero, List.set_cons_succ]
            refine wpAnyH_at 1 (some 52) (v := ?v301) (by decide) rfl (by kernel_rfl) (by kernel_rfl) (by kernel_rfl) (fun _ _ _ h => h) (Or.inl ⟨by rfl, ?y301⟩) (by assumption) ?r301
            case y301 => (intro w hSw; (try dsimp only at hSw); go_simp; (try with_reducible rfl))
            simp only [Act.put, List.setIfInBounds_toArray, List.set_cons_zero, List.set_cons_succ]
            refine wpAnyH_ready (rs := [2]) (by kernel_rfl) (by simp) ?_
            refine AllReadyH.cons rfl (fun K hK => ?_) AllReadyH.nil
            refine step_load_row (by rfl) 57 (.tmp 12) rfl os _ (by rfl) ED.out Try.underlying57 rfl (by rw [HSZ.out]; exact infoOp) ?_
            try dsimp only []
            refine hK.out _ _ (by exact trivial) (fun hHeld => ?_)
            clear hK K
            try simp only [Act.put, List.setIfInBounds_toArray, List.set_cons_zero, List.set_cons_succ]
            refine wpAnyH_ready (rs := [3]) (by kernel_rfl) (by simp) ?_
            refine AllReadyH.cons rfl (fun K hK => ?_) AllReadyH.nil
            go_simp
            refine (play_nil (w := w7.drew) (row_lt ED.out) HSZ.out (HG.out 0) (HG.out 1) (HG.out 2) (HG.out 3) (HG.out 4) (HG.out 5) HMS (fun j u hj => (HG.out (6 + j)).trans (by rw [Nat.add_comm]; exact hj)) RD1.out MD1.out).mono ?_
            rintro e w9 ⟨rfl, hk9⟩
            have K9 := hid (KD.out.trans (hk9.mono fun g _ h => by have := HBE.out; (show W.heap.size ≤ g; omega)))
            clear hk9 KD ED RD1 MD1 hHeld
            try dsimp only []
            refine hK.out _ _ (by exact trivial) (fun hHeld => ?_)
            clear hK K
            try simp only [Act.put, List.setIfInBounds_toArray, List.set_cons_zero, List.set_cons_succ]
            refine wpAnyH_at 4 (some 55) (v := ?v304) (by decide) rfl (by kernel_rfl) (by kernel_rfl) (by kernel_rfl) (fun _ _ _ h => h) (Or.inl ⟨by rfl, ?y304⟩) (by assumption) ?r304
            case y304 => (intro w hSw; (try dsimp only at hSw); go_simp; (try with_reducible rfl))
            simp only [Act.put, List.setIfInBounds_toArray, List.set_cons_zero, List.set_cons_succ]
            refine wpAnyH_at 5 (some 56) (v := ?v305) (by decide) rfl (by kernel_rfl) (by kernel_rfl) (by kernel_rfl) (fun _ _ _ h => h) (Or.inl ⟨by rfl, ?y305⟩) (by assumption) ?r305
            case y305 => (intro w hSw; (try dsimp only at hSw); go_simp; (try with_reducible rfl))
            simp only [Act.put, List.setIfInBounds_toArray, List.set_cons_zero, List.set_cons_succ]
            refine wpAnyH_at 6 (some 57) (v := ?v306) (by decide) rfl (by kernel_rfl) (by kernel_rfl) (by kernel_rfl) (fun _ _ _ h => h) (Or.inl ⟨by rfl, ?y306⟩) (by assumption) ?r306
            case y306 => (intro w hSw; (try dsimp only at hSw); go_simp; (try with_reducible rfl))
            simp only [Act.put, List.setIfInBounds_toArray, List.set_cons_zero, List.set_cons_succ]
            refine wpAnyH_at 7 (some 58) (v := ?v307) (by decide) rfl (by kernel_rfl) (by kernel_rfl) (by kernel_rfl) (fun _ _ _ h => h) (Or.inl ⟨by rfl, ?y307⟩) (by assumption) ?r307
            case y307 => (intro w hSw; (try dsimp only at hSw); go_simp; (try with_reducible rfl))
            simp only [Act.put, List.setIfInBounds_toArray, List.set_cons_zero, List.set_cons_succ]
            refine wpAnyH_at 8 (some 59) (v := ?v308) (by decide) rfl (by kernel_rfl) (by kernel_rfl) (by kernel_rfl) (fun _ _ _ h => h) (Or.inl ⟨by rfl, ?y308⟩) (by assumption) ?r308
            case y308 => (intro w hSw; (try dsimp only at hSw); go_simp; (try with_reducible rfl))
            simp only [Act.put, List.setIfInBounds_toArray, List.set_cons_zero, List.set_cons_succ]
            refine wpAnyH_at 9 (some 60) (v := undef) (by decide) rfl (by kernel_rfl) (by kernel_rfl) (by kernel_rfl) (fun _ _ _ h => h) (Or.inr ⟨by rfl, rfl⟩) (by assumption) ?_
            simp only [Act.put, List.setIfInBounds_toArray, List.set_cons_zero, List.set_cons_succ]
            refine wpAnyH_at 10 (some 61) (v := undef) (by decide) rfl (by kernel_rfl) (by kernel_rfl) (by kernel_rfl) (fun _ _ _ h => h) (Or.inr ⟨by rfl, rfl⟩) (by assumption) ?_
            simp only [Act.put, List.setIfInBounds_toArray, List.set_cons_zero, List.set_cons_succ]
            refine wpAnyH_at 11 (some 62) (v := undef) (by decide) rfl (by kernel_rfl) (by kernel_rfl) (by kernel_rfl) (fun _ _ _ h => h) (Or.inr ⟨by rfl, rfl⟩) (by assumption) ?_
            simp only [Act.put, List.setIfInBounds_toArray, List.set_cons_zero, List.set_cons_succ]
            refine wpAnyH_at 12 (some 63) (v := undef) (by decide) rfl (by kernel_rfl) (by kernel_rfl) (by kernel_rfl) (fun _ _ _ h => h) (Or.inr ⟨by rfl, rfl⟩) (by assumption) ?_
            simp only [Act.put, List.setIfInBounds_toArray, List.set_cons_zero, List.set_cons_succ]
            refine wpAnyH_at 13 (some 64) (v := undef) (by decide) rfl (by kernel_rfl) (by kernel_rfl) (by kernel_rfl) (fun _ _ _ h => h) (Or.inr ⟨by rfl, rfl⟩) (by assumption) ?_
            simp only [Act.put, List.setIfInBounds_toArray, List.set_cons_zero, List.set_cons_succ]
            refine wpAnyH_at 14 (some 65) (v := undef) (by decide) rfl (by kernel_rfl) (by kernel_rfl) (by kernel_rfl) (fun _ _ _ h => h) (Or.inr ⟨by rfl, rfl⟩) (by assumption) ?_
            simp only [Act.put, List.setIfInBounds_toArray, List.set_cons_zero, List.set_cons_succ]
            refine wpAnyH_at 15 (some 66) (v := undef) (by decide) rfl (by kernel_rfl) (by kernel_rfl) (by kernel_rfl) (fun _ _ _ h => h) (Or.inr ⟨by rfl, rfl⟩) (by assumption) ?_
            simp only [Act.put, List.setIfInBounds_toArray, List.set_cons_zero, List.set_cons_succ]
            refine wpAnyH_at 16 (some 67) (v := ?v316) (by decide) rfl (by kernel_rfl) (by kernel_rfl) (by kernel_rfl) (fun _ _ _ h => h) (Or.inl ⟨by rfl, ?y316⟩) (by assumption) ?r316
            case y316 => (intro w hSw; (try dsimp only at hSw); go_simp; (try with_reducible rfl))
            simp only [Act.put, List.setIfInBounds_toArray, List.set_cons_zero, List.set_cons_succ]
            refine wpAnyH_at 17 (some 68) (v := ?v317) (by decide) rfl (by kernel_rfl) (by kernel_rfl) (by kernel_rfl) (fun _ _ _ h => h) (Or.inl ⟨by rfl, ?y317⟩) (by assumption) ?r317
            case y317 => (intro w hSw; (try dsimp only at hSw); go_simp; (try with_reducible rfl))
            simp only [Act.put, List.setIfInBounds_toArray, List.set_cons_zero, List.set_cons_succ]
            refine wpAnyH_at 18 (some 69) (v := ?v318) (by decide) rfl (by kernel_rfl) (by kernel_rfl) (by kernel_rfl) (fun _ _ _ h => h) (Or.inl ⟨by rfl, ?y318⟩) (by assumption) ?r318
            case y318 => (intro w hSw; (try dsimp only at hSw); go_simp; (try with_reducible rfl))
            simp only [Act.put, List.setIfInBounds_toArray, List.set_cons_zero, List.set_cons_succ]
            refine wpAnyH_at 19 (some 70) (v := ?v319) (by decide) rfl (by kernel_rfl) (by kernel_rfl) (by kernel_rfl) (fun _ _ _ h => h) (Or.inl ⟨by rfl, ?y319⟩) (by assumption) ?r319
            case y319 => (intro w hSw; (try dsimp only at hSw); go_simp; (try with_reducible rfl))
            simp only [Act.put, List.setIfInBounds_toArray, List.set_cons_zero, List.set_cons_succ]
            refine wpAnyH_at 20 (some 71) (v := ?v320) (by decide) rfl (by kernel_rfl) (by kernel_rfl) (by kernel_rfl) (fun _ _ _ h => h) (Or.inl ⟨by rfl, ?y320⟩) (by assumption) ?r320
            case y320 => (intro w hSw; (try dsimp only at hSw); go_simp; (try with_reducible rfl))
            simp only [Act.put, List.setIfInBounds_toArray, List.set_cons_zero, List.set_cons_succ]
            refine wpAnyH_at 21 (some 72) (v := ?v321) (by decide) rfl (by kernel_rfl) (by kernel_rfl) (by kernel_rfl) (fun _ _ _ h => h) (Or.inl ⟨by rfl, ?y321⟩) (by assumption) ?r321
            case y321 => (intro w hSw; (try dsimp only at hSw); go_simp; (try with_reducible rfl))
            simp only [Act.put, List.setIfInBounds_toArray, List.set_cons_zero, List.set_cons_succ]
            refine wpAnyH_at 22 (some 73) (v := ?v322) (by decide) rfl (by kernel_rfl) (by kernel_rfl) (by kernel_rfl) (fun _ _ _ h => h) (Or.inl ⟨by rfl, ?y322⟩) (by assumption) ?r322
            case y322 => (intro w hSw; (try dsimp only at hSw); go_simp; (try with_reducible rfl))
            simp only [Act.put, List.setIfInBounds_toArray, List.set_cons_zero, List.set_cons_succ]
            refine wpAnyH_ready (rs := [23]) (by kernel_rfl) (by simp) ?_
            refine AllReadyH.cons rfl (fun K hK => ?_) AllReadyH.nil
            go_simp
            refine seq_nil.mono ?_
            rintro e w10 ⟨rfl, rfl⟩
            try dsimp only []
            refine hK.out _ _ (by exact trivial) (fun hHeld => ?_)
            clear hK K
            try simp only [Act.put, List.setIfInBounds_toArray, List.set_cons_zero, List.set_cons_succ]
            refine wpAnyH_at 24 (some 75) (v := ?v324) (by decide) rfl (by kernel_rfl) (by kernel_rfl) (by kernel_rfl) (fun _ _ _ h => h) (Or.inl ⟨by rfl, ?y324⟩) (by assumption) ?r324
            case y324 => (intro w hSw; (try dsimp only at hSw); go_simp; (try with_reducible rfl))
            simp only [Act.put, List.setIfInBounds_toArray, List.set_cons_zero, List.set_cons_succ]
            refine wpAnyH_at 25 (some 76) (v := ?v325) (by decide) rfl (by kernel_rfl) (by kernel_rfl) (by kernel_rfl) (fun _ _ _ h => h) (Or.inl ⟨by rfl, ?y325⟩) (by assumption) ?r325
            case y325 => (intro w hSw; (try dsimp only at hSw); go_simp; (try with_reducible rfl))
            simp only [Act.put, List.setIfInBounds_toArray, List.set_cons_zero, List.set_cons_succ]
            refine wpAnyH_at 26 (some 77) (v := ?v326) (by decide) rfl (by kernel_rfl) (by kernel_rfl) (by kernel_rfl) (fun _ _ _ h => h) (Or.inl ⟨by rfl, ?y326⟩) (by assumption) ?r326
            case y326 => (intro w hSw; (try dsimp only at hSw); go_simp; (try with_reducible rfl))
            simp only [Act.put, List.setIfInBounds_toArray, List.set_cons_zero, List.set_cons_succ]
            refine wpAnyH_done (by kernel_rfl) ?_ _
            clear hHeld
            go_wp2
            go_roundw
            case rel => exact ⟨k + 1, by omega, by omega, by go_num, K9.out⟩
            case measure => (simp only [RowKit.intOf]; omega)
      · go_wp2
        go_ret
        exact ⟨rfl, KR.out.below (Nat.le_refl _) (fun _ h => h)⟩
end Go.Proofs.Ytnlbdlbinoebgaa
