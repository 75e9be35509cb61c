/- PlateAgain's walk. -/
import Derived.Test.YtnfdkpjklenllaaO
namespace Go.Proofs.Ytnfdkpjklenllaa
open Go.RowKit

set_option maxRecDepth 100000 in
set_option maxHeartbeats 8000000 in
theorem again_walk (W : World) (args : Array Value) (h : RdAll Try.prog W Try.f3.params.toList args.toList) :
    Calls Try.prog 3 args W fun e W' => e = .returned (.bool true) ∧ Below W.heap.size W W' := by
  rw [Try.params3] at h
  obtain ⟨v0, v1, v2, v3, rfl⟩ : ∃ v0 v1 v2 v3, args = #[v0, v1, v2, v3] := by
    rcases args with ⟨_ | ⟨v0, _ | ⟨v1, _ | ⟨v2, _ | ⟨v3, _ | ⟨v4, l⟩⟩⟩⟩⟩⟩ <;> simp [RdAll] at h
    exact ⟨v0, v1, v2, v3, rfl⟩
  obtain ⟨r0, r1, r2, r3, _⟩ := h
  obtain ⟨sa, sl, sc, rfl, h0⟩ := r0.slice Try.underlying22
  obtain ⟨ops, rfl, hscr⟩ := scr_read h0
  obtain ⟨ma, ml, mc, rfl, h1⟩ := r1.slice Try.underlying22
  obtain ⟨more, rfl, hmore⟩ := scr_read h1
  obtain ⟨ka, kl, kc, rfl, h2⟩ := r2.slice Try.underlying23
  obtain ⟨KB, rfl, hkb, hkr, hkl⟩ := h2.bytes
  obtain ⟨all, rfl⟩ := r3.bool Try.underlying4
  have HSC := hid hscr; have HMO := hid hmore; have HKB := hid hkb; have HKR := hid hkr; have HKL := hid hkl
  have hml : more.length ≤ 9223372036854775807 := by obtain ⟨_, _, e, q1, q2, _⟩ := hmore; unfold maxLen at q2; omega
  clear r0 r1 r2 r3 h0 h1 h2 hscr hmore hkb hkr hkl
  go_enter Try.func3, Try.ntmps3
  go_wp2_with fail
  refine (awake_any _).mono ?_; rintro e w1 ⟨rfl, hk1⟩
  have K1 := hid hk1; clear hk1
  go_wp2_with fail
  refine (some_ok (HSC.out.same K1.out)).mono ?_
  rintro e w2 ⟨b, rfl, hp, hk⟩
  have K2 := hid (K1.out.trans hk)
  have P2 := hid (show PlAt (fun g => W.heap.size ≤ g ∧ g < w2.heap.size) w2 b (someS ops) from hp.bound.mono (fun g hg => ⟨Nat.le_trans K1.out.size hg.1, hg.2⟩))
  clear hp hk K1
  go_wp2_with fail
  refine (some_ok (HSC.out.same K2.out)).mono ?_
  rintro e w3 ⟨c, rfl, hp, hk⟩
  have K3 := hid (K2.out.trans hk)
  obtain ⟨S, hS⟩ : ∃ S, someS ops = S := ⟨_, rfl⟩
  have HC := hid (show Calm S 61 from hS ▸ calm_some ops); have HS0 := hid (show S.since = [] from hS ▸ some_since ops)
  rw [hS] at P2 hp
  clear hS
  have T3 := hid (show Two W w3 (fun _ => False) b c S S (fun g => W.heap.size ≤ g ∧ g < w2.heap.size) (fun g => w2.heap.size ≤ g ∧ g < w3.heap.size) from
    ⟨P2.out.same hk, hp.bound.mono (fun g hg => hg), fun g hg => ⟨hg.1, Nat.lt_of_lt_of_le hg.2 hk.size, id⟩, fun g hg => ⟨Nat.le_trans K2.out.size hg.1, hg.2, id⟩, fun g h1 h2 => by omega⟩)
  clear hp hk K2 P2
  go_upto_block 0 with fail
  go_cut [13] from 13 to 81 (fun _ wx => ∃ (n : Nat) (F G : Nat → Prop), n ≤ 20 ∧ Two W wx (fun _ => False) b c ((more.take n).foldl moreStep S) (if all then (more.take n).foldl moreStep S else S) F G ∧ Kept (fun _ => False) W wx)
  case first =>
    go_wp2_with fail
    go_loopw [42] (fun i wr => ∃ (k : Nat) (F G : Nat → Prop), k ≤ more.length ∧ k ≤ 20 ∧ i = .int .i64 k ∧ Two W wr (fun _ => False) b c ((more.take k).foldl moreStep S) (if all then (more.take k).foldl moreStep S else S) F G ∧ Kept (fun _ => False) W wr) (fun i _ => more.length - (intOf i).toNat)
    case atStart => exact ⟨0, _, _, Nat.zero_le _, by decide, rfl, by simpa using T3.out, K3.out⟩
    case round =>
      clear T3 K3
      obtain ⟨k, F, G, hk, hk20, rfl, ht, hkr⟩ := hrel
      have HT := hid ht; have HK := hid hkr; clear ht hkr
      have HCA := hid (show Calm ((more.take k).foldl moreStep S) 101 from (calm_mores (more.take k) HC.out).mono (by simp; omega))
      by_cases hlt : k < more.length
      · obtain ⟨x, hx⟩ : ∃ x, more[k]? = some x := ⟨more[k], by simp [hlt]⟩
        obtain ⟨ao', c', e0, _, _, hat⟩ := HMO.out
        simp only [Value.slice.injEq] at e0
        obtain ⟨rfl, _, rfl⟩ := e0
        obtain ⟨ob, off, bo, bc, rfl, d0, d1, d2, hok⟩ := hat k x hx
        have d0 := HK.out.cell d0 (fun h => h); have d1 := HK.out.cell d1 (fun h => h); have d2 := HK.out.cell d2 (fun h => h)
        have HX := hid hx
        clear hat hx
        obtain ⟨W2, hW2⟩ : ∃ W2, wr.alloc (.cells #[.int .u8 x.kd, .int .i64 x.i, .slice bo x.l.length bc] 29) = W2 := ⟨_, rfl⟩
        have HB := hid (show W2.heap[wr.heap.size]? = some (.cells #[.int .u8 x.kd, .int .i64 x.i, .slice bo x.l.length bc] 29 (0, 0)) from by rw [← hW2]; exact row_new _ _)
        have HKW := hid (show Kept (fun _ => False) wr W2 from by rw [← hW2]; exact (Kept.refl _ _).alloc _)
        by_cases h20 : (20 : Int) ≤ (k : Int)
        · go_wp2_with fail
          go_meet
          exact ⟨k, F, G, hk20, HT.out.same HKW.out, HK.out.trans HKW.out⟩
        · obtain ⟨l', cut⟩ := cut_of hok.b
          have HCU := hid cut
          have a1 := cut.le; have a2 := cut.cap; have a3 := cut.mi; have a4 := cut.b1; have a5 := cut.b2
          obtain ⟨j, hj⟩ : ∃ j, j = x.i % 8 := ⟨_, rfl⟩
          obtain ⟨j0, j8, u1, u2, u3⟩ := eight hj
          have HJ := hid hj
          clear cut hok hj
          have e1 : W2.cell? ⟨wr.heap.size, 1, none⟩ = some (.int .i64 x.i) := row_cell HB.out 1
          have e2 : W2.cell? ⟨wr.heap.size, 2, none⟩ = some (.slice bo x.l.length bc) := row_cell HB.out 2
          go_wp2_with fail
          cases all
          · refine wp_region_till (fun w' => w'.cell? ⟨wr.heap.size, 1, none⟩ = some (.int .i64 x.i)) 24 (by kernel_rfl) (by exact e1) (fun hHeld => ?_)
            refine till_pure 0 (some 56) (v := ?v100) (by decide) rfl (by kernel_rfl) (by kernel_rfl) (by kernel_rfl) (by kernel_rfl) (by decide) (fun _ _ _ h => h) (Or.inl ⟨by rfl, ?y100⟩) (by assumption) ?r100
            case y100 => (intro w hSw; clear hSw; go_simp; (try with_reducible rfl))
            simp only [Act.put, List.setIfInBounds_toArray, List.set_cons_zero, List.set_cons_succ]
            refine till_pure 1 (some 57) (v := ?v101) (by decide) rfl (by kernel_rfl) (by kernel_rfl) (by kernel_rfl) (by kernel_rfl) (by decide) (fun _ _ _ h => h) (Or.inl ⟨by rfl, ?y101⟩) (by assumption) ?r101
            case y101 => (intro w hSw; clear hSw; go_simp; (try with_reducible rfl))
            simp only [Act.put, List.setIfInBounds_toArray, List.set_cons_zero, List.set_cons_succ]
            refine till_load 2 (some 58) [10, 9, 8, 5, 4, 3] (v := ?v102) (by decide) rfl (by kernel_rfl) (by kernel_rfl) (by kernel_rfl) (by kernel_rfl) (by kernel_rfl) (by decide) (by decide) (fun _ _ _ h => h) (Or.inl ⟨by rfl, ?y102⟩) (by assumption) ?r102
            case y102 => (intro w hSw; (try dsimp only at hSw); go_simp; (try with_reducible rfl))
            simp only [Act.put, List.setIfInBounds_toArray, List.set_cons_zero, List.set_cons_succ]
            refine till_pure 3 (some 59) (v := ?v103) (by decide) rfl (by kernel_rfl) (by kernel_rfl) (by kernel_rfl) (by kernel_rfl) (by decide) (fun _ _ _ h => h) (Or.inl ⟨by rfl, ?y103⟩) (by assumption) ?r103
            case y103 => (intro w hSw; clear hSw; go_simp; (try with_reducible rfl))
            simp only [Act.put, List.setIfInBounds_toArray, List.set_cons_zero, List.set_cons_succ]
            refine till_pure 4 (some 60) (v := ?v104) (by decide) rfl (by kernel_rfl) (by kernel_rfl) (by kernel_rfl) (by kernel_rfl) (by decide) (fun _ _ _ h => h) (Or.inl ⟨by rfl, ?y104⟩) (by assumption) ?r104
            case y104 => (intro w hSw; clear hSw; go_simp; (try with_reducible rfl))
            simp only [Act.put, List.setIfInBounds_toArray, List.set_cons_zero, List.set_cons_succ]
            refine till_pure 5 (some 61) (v := ?v105) (by decide) rfl (by kernel_rfl) (by kernel_rfl) (by kernel_rfl) (by kernel_rfl) (by decide) (fun _ _ _ h => h) (Or.inl ⟨by rfl, ?y105⟩) (by assumption) ?r105
            case y105 => (intro w hSw; clear hSw; go_simp; (try with_reducible rfl))
            simp only [Act.put, List.setIfInBounds_toArray, List.set_cons_zero, List.set_cons_succ]
            refine till_pure 6 (some 62) (v := ?v106) (by decide) rfl (by kernel_rfl) (by kernel_rfl) (by kernel_rfl) (by kernel_rfl) (by decide) (fun _ _ _ h => h) (Or.inl ⟨by rfl, ?y106⟩) (by assumption) ?r106
            case y106 => (intro w hSw; clear hSw; go_simp; (try with_reducible rfl))
            simp only [Act.put, List.setIfInBounds_toArray, List.set_cons_zero, List.set_cons_succ]
            refine till_call 7 (by kernel_rfl) rfl (fun K hK => ?_)
            go_simp
            refine (twin_any (by exact (HCU.out.byt.kept (HK.out.trans HKW.out.drew) (fun _ _ h => h)).bts) (by have := HCU.out.len; omega)).mono ?_
            rintro e w4 ⟨ta, tc, rfl, ho4, _, hk4⟩
            have HO4 := hid ho4; have K4 := hid (HKW.out.trans (Kept.of_drew hk4))
            try dsimp only []
            refine hK.out _ _ (by exact hk4.cell hHeld (fun h => h)) (fun hHeld => ?_)
            clear hK K
            try simp only [Act.put, List.setIfInBounds_toArray, List.set_cons_zero, List.set_cons_succ]
            clear ho4 hk4
            refine till_call 8 (by kernel_rfl) rfl (fun K hK => ?_)
            go_simp
            have HT4 := hid (HT.out.same K4.out)
            obtain ⟨mb, ao, cap, hpl⟩ := HT4.out.p
            refine (write_ok hpl (HCA.out.small (by omega)) HCA.out.off (by have := HCA.out.since; omega) j j0 (by rw [HCA.out.n]; exact j8) HO4.out.byt (by have := HCU.out.len; omega)).mono ?_
            rintro e w5 ⟨rfl, ⟨F5, hp5, hf5⟩, hk5⟩
            have hdn : (tick (((more.take k).foldl moreStep S).add j l')).down = 0 := by simp only [Plt.down, (HCA.out.add j l').tick.off]; rfl
            obtain ⟨F6, ht5⟩ := HT4.out.step (Nat.le_trans HK.out.size K4.out.size) (fun _ h => h.elim) hp5 hf5 hk5
            have HT5 := hid ht5; have K5 := hid ((HK.out.trans K4.out).trans' hk5 (fun g hg => .inr (HT4.out.f g hg).1))
            try dsimp only []
            refine hK.out _ _ (by exact hk5.cell hHeld (fun h => by have := (HT.out.f _ h).2.1; simp at this)) (fun hHeld => ?_)
            clear hK K
            try simp only [Act.put, List.setIfInBounds_toArray, List.set_cons_zero, List.set_cons_succ]
            clear ht5 hk5 hpl hp5 hf5
            rw [hdn]
            refine till_pure 9 (some 65) (v := ?v309) (by decide) rfl (by kernel_rfl) (by kernel_rfl) (by kernel_rfl) (by kernel_rfl) (by decide) (fun _ _ _ h => h) (Or.inl ⟨by rfl, ?y309⟩) (by assumption) ?r309
            case y309 => (intro w hSw; clear hSw; go_simp; (try with_reducible rfl))
            simp only [Act.put, List.setIfInBounds_toArray, List.set_cons_zero, List.set_cons_succ]
            refine till_pure 10 (some 66) (v := ?v310) (by decide) rfl (by kernel_rfl) (by kernel_rfl) (by kernel_rfl) (by kernel_rfl) (by decide) (fun _ _ _ h => h) (Or.inl ⟨by rfl, ?y310⟩) (by assumption) ?r310
            case y310 => (intro w hSw; clear hSw; go_simp; (try with_reducible rfl))
            simp only [Act.put, List.setIfInBounds_toArray, List.set_cons_zero, List.set_cons_succ]
            refine till_pure 11 (some 67) (v := ?v311) (by decide) rfl (by kernel_rfl) (by kernel_rfl) (by kernel_rfl) (by kernel_rfl) (by decide) (fun _ _ _ h => h) (Or.inl ⟨by rfl, ?y311⟩) (by assumption) ?r311
            case y311 => (intro w hSw; clear hSw; go_simp; (try with_reducible rfl))
            simp only [Act.put, List.setIfInBounds_toArray, List.set_cons_zero, List.set_cons_succ]
            refine till_pure 12 (some 68) (v := ?v312) (by decide) rfl (by kernel_rfl) (by kernel_rfl) (by kernel_rfl) (by kernel_rfl) (by decide) (fun _ _ _ h => h) (Or.inl ⟨by rfl, ?y312⟩) (by assumption) ?r312
            case y312 => (intro w hSw; clear hSw; go_simp; (try with_reducible rfl))
            simp only [Act.put, List.setIfInBounds_toArray, List.set_cons_zero, List.set_cons_succ]
            refine till_pure 13 (some 69) (v := undef) (by decide) rfl (by kernel_rfl) (by kernel_rfl) (by kernel_rfl) (by kernel_rfl) (by decide) (fun _ _ _ h => h) (Or.inr ⟨by rfl, rfl⟩) (by assumption) ?_
            simp only [Act.put, List.setIfInBounds_toArray, List.set_cons_zero, List.set_cons_succ]
            refine till_pure 14 (some 70) (v := undef) (by decide) rfl (by kernel_rfl) (by kernel_rfl) (by kernel_rfl) (by kernel_rfl) (by decide) (fun _ _ _ h => h) (Or.inr ⟨by rfl, rfl⟩) (by assumption) ?_
            simp only [Act.put, List.setIfInBounds_toArray, List.set_cons_zero, List.set_cons_succ]
            refine till_pure 15 (some 71) (v := undef) (by decide) rfl (by kernel_rfl) (by kernel_rfl) (by kernel_rfl) (by kernel_rfl) (by decide) (fun _ _ _ h => h) (Or.inr ⟨by rfl, rfl⟩) (by assumption) ?_
            simp only [Act.put, List.setIfInBounds_toArray, List.set_cons_zero, List.set_cons_succ]
            refine till_pure 16 (some 72) (v := undef) (by decide) rfl (by kernel_rfl) (by kernel_rfl) (by kernel_rfl) (by kernel_rfl) (by decide) (fun _ _ _ h => h) (Or.inr ⟨by rfl, rfl⟩) (by assumption) ?_
            simp only [Act.put, List.setIfInBounds_toArray, List.set_cons_zero, List.set_cons_succ]
            refine till_pure 17 (some 73) (v := undef) (by decide) rfl (by kernel_rfl) (by kernel_rfl) (by kernel_rfl) (by kernel_rfl) (by decide) (fun _ _ _ h => h) (Or.inr ⟨by rfl, rfl⟩) (by assumption) ?_
            simp only [Act.put, List.setIfInBounds_toArray, List.set_cons_zero, List.set_cons_succ]
            refine till_pure 18 (some 74) (v := undef) (by decide) rfl (by kernel_rfl) (by kernel_rfl) (by kernel_rfl) (by kernel_rfl) (by decide) (fun _ _ _ h => h) (Or.inr ⟨by rfl, rfl⟩) (by assumption) ?_
            simp only [Act.put, List.setIfInBounds_toArray, List.set_cons_zero, List.set_cons_succ]
            refine till_pure 19 (some 75) (v := undef) (by decide) rfl (by kernel_rfl) (by kernel_rfl) (by kernel_rfl) (by kernel_rfl) (by decide) (fun _ _ _ h => h) (Or.inr ⟨by rfl, rfl⟩) (by assumption) ?_
            simp only [Act.put, List.setIfInBounds_toArray, List.set_cons_zero, List.set_cons_succ]
            refine till_pure 20 (some 76) (v := undef) (by decide) rfl (by kernel_rfl) (by kernel_rfl) (by kernel_rfl) (by kernel_rfl) (by decide) (fun _ _ _ h => h) (Or.inr ⟨by rfl, rfl⟩) (by assumption) ?_
            simp only [Act.put, List.setIfInBounds_toArray, List.set_cons_zero, List.set_cons_succ]
            refine till_pure 21 (some 77) (v := undef) (by decide) rfl (by kernel_rfl) (by kernel_rfl) (by kernel_rfl) (by kernel_rfl) (by decide) (fun _ _ _ h => h) (Or.inr ⟨by rfl, rfl⟩) (by assumption) ?_
            simp only [Act.put, List.setIfInBounds_toArray, List.set_cons_zero, List.set_cons_succ]
            refine till_pure 22 (some 78) (v := undef) (by decide) rfl (by kernel_rfl) (by kernel_rfl) (by kernel_rfl) (by kernel_rfl) (by decide) (fun _ _ _ h => h) (Or.inr ⟨by rfl, rfl⟩) (by assumption) ?_
            simp only [Act.put, List.setIfInBounds_toArray, List.set_cons_zero, List.set_cons_succ]
            refine till_pure 23 (some 79) (v := ?v323) (by decide) rfl (by kernel_rfl) (by kernel_rfl) (by kernel_rfl) (by kernel_rfl) (by decide) (fun _ _ _ h => h) (Or.inl ⟨by rfl, ?y323⟩) (by assumption) ?r323
            case y323 => (intro w hSw; clear hSw; go_simp; (try with_reducible rfl))
            simp only [Act.put, List.setIfInBounds_toArray, List.set_cons_zero, List.set_cons_succ]
            refine till_list [] (by kernel_rfl) (by kernel_rfl) (by decide) (by decide) ?_
            simp only [pickOps, List.getElem?_toArray, List.getElem?_cons_zero, List.getElem?_cons_succ]
            clear hHeld
            go_wp2
            go_roundw
            case rel =>
              refine ⟨k + 1, F6, G, by omega, by omega, by go_num, ?_, K5.out⟩
              have hms : moreStep ((more.take k).foldl moreStep S) x = tick (((more.take k).foldl moreStep S).add j l') := by rw [moreStep, ← HJ.out, HCU.out.eq]
              rw [mores_take HX.out, hms]
              exact HT5.out
            case measure => simp [intOf]; omega
          · refine wp_region_till (fun w' => w'.cell? ⟨wr.heap.size, 1, none⟩ = some (.int .i64 x.i)) 24 (by kernel_rfl) (by exact e1) (fun hHeld => ?_)
            refine till_pure 0 (some 56) (v := ?v200) (by decide) rfl (by kernel_rfl) (by kernel_rfl) (by kernel_rfl) (by kernel_rfl) (by decide) (fun _ _ _ h => h) (Or.inl ⟨by rfl, ?y200⟩) (by assumption) ?r200
            case y200 => (intro w hSw; clear hSw; go_simp; (try with_reducible rfl))
            simp only [Act.put, List.setIfInBounds_toArray, List.set_cons_zero, List.set_cons_succ]
            refine till_pure 1 (some 57) (v := ?v201) (by decide) rfl (by kernel_rfl) (by kernel_rfl) (by kernel_rfl) (by kernel_rfl) (by decide) (fun _ _ _ h => h) (Or.inl ⟨by rfl, ?y201⟩) (by assumption) ?r201
            case y201 => (intro w hSw; clear hSw; go_simp; (try with_reducible rfl))
            simp only [Act.put, List.setIfInBounds_toArray, List.set_cons_zero, List.set_cons_succ]
            refine till_load 2 (some 58) [10, 9, 8, 5, 4, 3] (v := ?v202) (by decide) rfl (by kernel_rfl) (by kernel_rfl) (by kernel_rfl) (by kernel_rfl) (by kernel_rfl) (by decide) (by decide) (fun _ _ _ h => h) (Or.inl ⟨by rfl, ?y202⟩) (by assumption) ?r202
            case y202 => (intro w hSw; (try dsimp only at hSw); go_simp; (try with_reducible rfl))
            simp only [Act.put, List.setIfInBounds_toArray, List.set_cons_zero, List.set_cons_succ]
            refine till_pure 3 (some 59) (v := ?v203) (by decide) rfl (by kernel_rfl) (by kernel_rfl) (by kernel_rfl) (by kernel_rfl) (by decide) (fun _ _ _ h => h) (Or.inl ⟨by rfl, ?y203⟩) (by assumption) ?r203
            case y203 => (intro w hSw; clear hSw; go_simp; (try with_reducible rfl))
            simp only [Act.put, List.setIfInBounds_toArray, List.set_cons_zero, List.set_cons_succ]
            refine till_pure 4 (some 60) (v := ?v204) (by decide) rfl (by kernel_rfl) (by kernel_rfl) (by kernel_rfl) (by kernel_rfl) (by decide) (fun _ _ _ h => h) (Or.inl ⟨by rfl, ?y204⟩) (by assumption) ?r204
            case y204 => (intro w hSw; clear hSw; go_simp; (try with_reducible rfl))
            simp only [Act.put, List.setIfInBounds_toArray, List.set_cons_zero, List.set_cons_succ]
            refine till_pure 5 (some 61) (v := ?v205) (by decide) rfl (by kernel_rfl) (by kernel_rfl) (by kernel_rfl) (by kernel_rfl) (by decide) (fun _ _ _ h => h) (Or.inl ⟨by rfl, ?y205⟩) (by assumption) ?r205
            case y205 => (intro w hSw; clear hSw; go_simp; (try with_reducible rfl))
            simp only [Act.put, List.setIfInBounds_toArray, List.set_cons_zero, List.set_cons_succ]
            refine till_pure 6 (some 62) (v := ?v206) (by decide) rfl (by kernel_rfl) (by kernel_rfl) (by kernel_rfl) (by kernel_rfl) (by decide) (fun _ _ _ h => h) (Or.inl ⟨by rfl, ?y206⟩) (by assumption) ?r206
            case y206 => (intro w hSw; clear hSw; go_simp; (try with_reducible rfl))
            simp only [Act.put, List.setIfInBounds_toArray, List.set_cons_zero, List.set_cons_succ]
            refine till_call 7 (by kernel_rfl) rfl (fun K hK => ?_)
            go_simp
            refine (twin_any (by exact (HCU.out.byt.kept (HK.out.trans HKW.out.drew) (fun _ _ h => h)).bts) (by have := HCU.out.len; omega)).mono ?_
            rintro e w4 ⟨ta, tc, rfl, ho4, _, hk4⟩
            have HO4 := hid ho4; have K4 := hid (HKW.out.trans (Kept.of_drew hk4))
            try dsimp only []
            refine hK.out _ _ (by exact hk4.cell hHeld (fun h => h)) (fun hHeld => ?_)
            clear hK K
            try simp only [Act.put, List.setIfInBounds_toArray, List.set_cons_zero, List.set_cons_succ]
            clear ho4 hk4
            refine till_call 8 (by kernel_rfl) rfl (fun K hK => ?_)
            go_simp
            have HT4 := hid (HT.out.same K4.out)
            obtain ⟨mb, ao, cap, hpl⟩ := HT4.out.p
            refine (write_ok hpl (HCA.out.small (by omega)) HCA.out.off (by have := HCA.out.since; omega) j j0 (by rw [HCA.out.n]; exact j8) HO4.out.byt (by have := HCU.out.len; omega)).mono ?_
            rintro e w5 ⟨rfl, ⟨F5, hp5, hf5⟩, hk5⟩
            have hdn : (tick (((more.take k).foldl moreStep S).add j l')).down = 0 := by simp only [Plt.down, (HCA.out.add j l').tick.off]; rfl
            obtain ⟨F6, ht5⟩ := HT4.out.step (Nat.le_trans HK.out.size K4.out.size) (fun _ h => h.elim) hp5 hf5 hk5
            have HT5 := hid ht5; have K5 := hid ((HK.out.trans K4.out).trans' hk5 (fun g hg => .inr (HT4.out.f g hg).1))
            try dsimp only []
            refine hK.out _ _ (by exact hk5.cell hHeld (fun h => by have := (HT.out.f _ h).2.1; simp at this)) (fun hHeld => ?_)
            clear hK K
            try simp only [Act.put, List.setIfInBounds_toArray, List.set_cons_zero, List.set_cons_succ]
            clear ht5 hk5 hpl hp5 hf5
            rw [hdn]
            refine till_pure 9 (some 65) (v := ?v409) (by decide) rfl (by kernel_rfl) (by kernel_rfl) (by kernel_rfl) (by kernel_rfl) (by decide) (fun _ _ _ h => h) (Or.inl ⟨by rfl, ?y409⟩) (by assumption) ?r409
            case y409 => (intro w hSw; clear hSw; go_simp; (try with_reducible rfl))
            simp only [Act.put, List.setIfInBounds_toArray, List.set_cons_zero, List.set_cons_succ]
            refine till_pure 10 (some 66) (v := ?v410) (by decide) rfl (by kernel_rfl) (by kernel_rfl) (by kernel_rfl) (by kernel_rfl) (by decide) (fun _ _ _ h => h) (Or.inl ⟨by rfl, ?y410⟩) (by assumption) ?r410
            case y410 => (intro w hSw; clear hSw; go_simp; (try with_reducible rfl))
            simp only [Act.put, List.setIfInBounds_toArray, List.set_cons_zero, List.set_cons_succ]
            refine till_pure 11 (some 67) (v := ?v411) (by decide) rfl (by kernel_rfl) (by kernel_rfl) (by kernel_rfl) (by kernel_rfl) (by decide) (fun _ _ _ h => h) (Or.inl ⟨by rfl, ?y411⟩) (by assumption) ?r411
            case y411 => (intro w hSw; clear hSw; go_simp; (try with_reducible rfl))
            simp only [Act.put, List.setIfInBounds_toArray, List.set_cons_zero, List.set_cons_succ]
            refine till_pure 12 (some 68) (v := ?v412) (by decide) rfl (by kernel_rfl) (by kernel_rfl) (by kernel_rfl) (by kernel_rfl) (by decide) (fun _ _ _ h => h) (Or.inl ⟨by rfl, ?y412⟩) (by assumption) ?r412
            case y412 => (intro w hSw; clear hSw; go_simp; (try with_reducible rfl))
            simp only [Act.put, List.setIfInBounds_toArray, List.set_cons_zero, List.set_cons_succ]
            refine till_pure 13 (some 69) (v := ?v413) (by decide) rfl (by kernel_rfl) (by kernel_rfl) (by kernel_rfl) (by kernel_rfl) (by decide) (fun _ _ _ h => h) (Or.inl ⟨by rfl, ?y413⟩) (by assumption) ?r413
            case y413 => (intro w hSw; clear hSw; go_simp; (try with_reducible rfl))
            simp only [Act.put, List.setIfInBounds_toArray, List.set_cons_zero, List.set_cons_succ]
            refine till_pure 14 (some 70) (v := ?v414) (by decide) rfl (by kernel_rfl) (by kernel_rfl) (by kernel_rfl) (by kernel_rfl) (by decide) (fun _ _ _ h => h) (Or.inl ⟨by rfl, ?y414⟩) (by assumption) ?r414
            case y414 => (intro w hSw; clear hSw; go_simp; (try with_reducible rfl))
            simp only [Act.put, List.setIfInBounds_toArray, List.set_cons_zero, List.set_cons_succ]
            refine till_load 15 (some 71) [23, 22, 21, 18, 17, 16] (v := ?v415) (by decide) rfl (by kernel_rfl) (by kernel_rfl) (by kernel_rfl) (by kernel_rfl) (by kernel_rfl) (by decide) (by decide) (fun _ _ _ h => h) (Or.inl ⟨by rfl, ?y415⟩) (by assumption) ?r415
            case y415 => (intro w hSw; (try dsimp only at hSw); go_simp; (try with_reducible rfl))
            simp only [Act.put, List.setIfInBounds_toArray, List.set_cons_zero, List.set_cons_succ]
            refine till_pure 16 (some 72) (v := ?v416) (by decide) rfl (by kernel_rfl) (by kernel_rfl) (by kernel_rfl) (by kernel_rfl) (by decide) (fun _ _ _ h => h) (Or.inl ⟨by rfl, ?y416⟩) (by assumption) ?r416
            case y416 => (intro w hSw; clear hSw; go_simp; (try with_reducible rfl))
            simp only [Act.put, List.setIfInBounds_toArray, List.set_cons_zero, List.set_cons_succ]
            refine till_pure 17 (some 73) (v := ?v417) (by decide) rfl (by kernel_rfl) (by kernel_rfl) (by kernel_rfl) (by kernel_rfl) (by decide) (fun _ _ _ h => h) (Or.inl ⟨by rfl, ?y417⟩) (by assumption) ?r417
            case y417 => (intro w hSw; clear hSw; go_simp; (try with_reducible rfl))
            simp only [Act.put, List.setIfInBounds_toArray, List.set_cons_zero, List.set_cons_succ]
            refine till_pure 18 (some 74) (v := ?v418) (by decide) rfl (by kernel_rfl) (by kernel_rfl) (by kernel_rfl) (by kernel_rfl) (by decide) (fun _ _ _ h => h) (Or.inl ⟨by rfl, ?y418⟩) (by assumption) ?r418
            case y418 => (intro w hSw; clear hSw; go_simp; (try with_reducible rfl))
            simp only [Act.put, List.setIfInBounds_toArray, List.set_cons_zero, List.set_cons_succ]
            refine till_pure 19 (some 75) (v := ?v419) (by decide) rfl (by kernel_rfl) (by kernel_rfl) (by kernel_rfl) (by kernel_rfl) (by decide) (fun _ _ _ h => h) (Or.inl ⟨by rfl, ?y419⟩) (by assumption) ?r419
            case y419 => (intro w hSw; clear hSw; go_simp; (try with_reducible rfl))
            simp only [Act.put, List.setIfInBounds_toArray, List.set_cons_zero, List.set_cons_succ]
            refine till_call 20 (by kernel_rfl) rfl (fun K hK => ?_)
            go_simp
            refine (twin_any (by exact (HCU.out.byt.kept K5.out (fun _ _ h => h)).bts) (by have := HCU.out.len; omega)).mono ?_
            rintro e w6 ⟨tb, td, rfl, ho6, _, hk6⟩
            have HO6 := hid ho6; have K6 := hid hk6
            try dsimp only []
            refine hK.out _ _ (by exact hk6.cell hHeld (fun h => h)) (fun hHeld => ?_)
            clear hK K
            try simp only [Act.put, List.setIfInBounds_toArray, List.set_cons_zero, List.set_cons_succ]
            clear ho6 hk6
            refine till_call 21 (by kernel_rfl) rfl (fun K hK => ?_)
            go_simp
            have HT6 := hid (show Two W w6 (fun _ => False) b c (tick (((more.take k).foldl moreStep S).add j l')) ((more.take k).foldl moreStep S) F6 G from HT5.out.same K6.out)
            obtain ⟨mb, ao, cap, hpl⟩ := HT6.out.q
            refine (write_ok hpl (HCA.out.small (by omega)) HCA.out.off (by have := HCA.out.since; omega) j j0 (by rw [HCA.out.n]; exact j8) HO6.out.byt (by have := HCU.out.len; omega)).mono ?_
            rintro e w7 ⟨rfl, ⟨F7, hp7, hf7⟩, hk7⟩
            obtain ⟨F8, ht7⟩ := HT6.out.swap.step (K5.out.trans K6.out).size (fun _ h => h.elim) hp7 hf7 hk7
            have HT7 := hid ht7.swap; have K7 := hid ((K5.out.trans K6.out).trans' hk7 (fun g hg => .inr (HT6.out.g g hg).1))
            have hdn : (tick (((more.take k).foldl moreStep S).add j l')).down = 0 := by simp only [Plt.down, (HCA.out.add j l').tick.off]; rfl
            try dsimp only []
            refine hK.out _ _ (by exact hk7.cell hHeld (fun h => by have := (HT.out.g _ h).2.1; simp at this)) (fun hHeld => ?_)
            clear hK K
            try simp only [Act.put, List.setIfInBounds_toArray, List.set_cons_zero, List.set_cons_succ]
            clear ht7 hk7 hpl hp7 hf7
            rw [hdn]
            refine till_pure 22 (some 78) (v := ?v422) (by decide) rfl (by kernel_rfl) (by kernel_rfl) (by kernel_rfl) (by kernel_rfl) (by decide) (fun _ _ _ h => h) (Or.inl ⟨by rfl, ?y422⟩) (by assumption) ?r422
            case y422 => (intro w hSw; clear hSw; go_simp; (try with_reducible rfl))
            simp only [Act.put, List.setIfInBounds_toArray, List.set_cons_zero, List.set_cons_succ]
            refine till_pure 23 (some 79) (v := ?v423) (by decide) rfl (by kernel_rfl) (by kernel_rfl) (by kernel_rfl) (by kernel_rfl) (by decide) (fun _ _ _ h => h) (Or.inl ⟨by rfl, ?y423⟩) (by assumption) ?r423
            case y423 => (intro w hSw; clear hSw; go_simp; (try with_reducible rfl))
            simp only [Act.put, List.setIfInBounds_toArray, List.set_cons_zero, List.set_cons_succ]
            refine till_list [] (by kernel_rfl) (by kernel_rfl) (by decide) (by decide) ?_
            simp only [pickOps, List.getElem?_toArray, List.getElem?_cons_zero, List.getElem?_cons_succ]
            clear hHeld
            go_wp2
            go_roundw
            case rel =>
              refine ⟨k + 1, F6, F8, by omega, by omega, by go_num, ?_, K7.out⟩
              have hms : moreStep ((more.take k).foldl moreStep S) x = tick (((more.take k).foldl moreStep S).add j l') := by rw [moreStep, ← HJ.out, HCU.out.eq]
              rw [mores_take HX.out, hms]
              exact HT7.out
            case measure => simp [intOf]; omega
      · go_wp2_with fail
        go_meet
        exact ⟨k, F, G, hk20, HT.out, HK.out⟩
  case rest =>
    clear T3 K3
    obtain ⟨n, F, G, hn20, ht, hkr⟩ := hcut
    have HT := hid ht; have HK := hid hkr
    have HCA := hid (show Calm ((more.take n).foldl moreStep S) 101 from (calm_mores (more.take n) HC.out).mono (by simp; omega))
    have HLA := hid (mores_last (more.take n) S)
    obtain ⟨T, hT⟩ : ∃ T, (more.take n).foldl moreStep S = T := ⟨_, rfl⟩
    have HTL := hid (show T.last = S.last ∧ T.since.length ≤ 20 from by rw [← hT]; refine ⟨HLA.out.1, ?_⟩; rw [HLA.out.2, HS0.out]; simp; omega)
    rw [hT] at HT HCA
    obtain ⟨T2, hT2⟩ : ∃ T2, (if all then T else S) = T2 := ⟨_, rfl⟩
    have HC2 := hid (show Calm T2 101 from by rw [← hT2]; split; exact HCA.out; exact HC.out.mono (by omega))
    rw [hT2] at HT
    have HT2 := hid hT2
    obtain ⟨cc, hcc⟩ : ∃ cc : Int, (if all then 1 else 0) = cc := ⟨_, rfl⟩
    have HCC := hid hcc
    clear ht hkr hT hT2 hcc HLA
    have hmk : ∀ w, (Instr.makeSlice 23 (.int .i64 20) (.int .i64 20)).run Try.prog w = .ok (.slice (some ⟨w.heap.size, 0, none⟩) 20 20) (w.alloc (.cells (u8s (List.replicate 20 0)).toArray 5)) := fun w => by rw [← made20]; exact run_make_row' (P := Try.prog) 23 5 (.int .u8 0) 1 Try.underlying23 infoU8 rfl .i64 .i64 20 (by decide) (by decide) w
    have HB0 := hid (show (wc.alloc (.cells (u8s (List.replicate 20 0)).toArray 5)).heap[wc.heap.size]? = some (.cells (u8s (List.replicate 20 0)).toArray 5 (0, 0)) from row_new _ _)
    go_wp2_with fail
    go_loopw [85] (fun i wr => ∃ k : Nat, k ≤ 20 ∧ i = .int .i64 k ∧ wr.heap[wc.heap.size]? = some (.cells (u8s (List.replicate k cc ++ List.replicate (20 - k) 0)).toArray 5 (0, 0)) ∧ Kept (fun _ => False) wc wr) (fun i _ => 20 - (intOf i).toNat)
    case atStart => exact ⟨0, by decide, rfl, by simpa using HB0.out, (Kept.refl _ _).alloc _⟩
    case round =>
      obtain ⟨k, hk, rfl, hb, hkr⟩ := hrel
      have HB := hid hb; have HKR2 := hid hkr; clear hb hkr hmk
      by_cases hlt : k < 20
      · cases all
        · go_wp2
          go_roundw
          case rel =>
            refine ⟨k + 1, by omega, by go_num, ?_, HKR2.out⟩
            rw [HB.out, ← HCC.out]
            simp only [Bool.false_eq_true, if_false]
            rw [fill_none hlt]
          case measure => simp [intOf]; omega
        · have hc0 : wr.cell? ⟨wc.heap.size, k, none⟩ = some (.int .u8 0) := by
            rw [row_cell HB.out]
            exact fill_at hlt cc
          have f0 := row_free HB.out k
          have hr := row_set HB.out k (.int .u8 1)
          have HR := hid hr; clear hr
          go_wp2
          go_roundw
          case rel =>
            refine ⟨k + 1, by omega, by go_num, ?_, HKR2.out.setCell (p := ⟨wc.heap.size, k, none⟩) (.inr (Nat.le_refl _)) _⟩
            have hf := fill_one hlt
            rw [← HCC.out] at HR
            rw [HR.out, ← HCC.out]
            simp only [if_true] at hf ⊢
            rw [hf]
          case measure => simp [intOf]; omega
      · obtain rfl : k = 20 := by omega
        have HB1 := hid (show wr.heap[wc.heap.size]? = some (.cells (u8s (List.replicate 20 cc)).toArray 5 (0, 0)) from by have := HB.out; simpa using this)
        clear HB
        go_wp2_with fail
        have HTa := hid (HT.out.same HKR2.out)
        have HKa := hid (HK.out.trans HKR2.out)
        clear hlt hk
        obtain ⟨mb, ao, cap, hpl⟩ := HTa.out.p
        refine (arm_ok hpl HCA.out.off 1 (by decide)).mono ?_
        rintro e x1 ⟨rfl, hp1, hx1⟩
        have PX1 := hid hp1
        have KX1 := hid (show Kept F wr x1 from hx1.mono (fun g _ e => by subst e; exact hpl.m))
        clear hpl hp1 hx1
        go_wp2_with fail
        refine (flush_dead PX1.out (HCA.out.two.small (by omega)) HCA.out.off rfl).mono ?_
        rintro e x2 ⟨rfl, hp2, hx2⟩
        have PX2 := hid hp2
        have KX2 := hid (KX1.out.trans hx2)
        have BX2 := hid (show x2.heap[wc.heap.size]? = some (.cells (u8s (List.replicate 20 cc)).toArray 5 (0, 0)) from (KX2.out.block _ (row_lt HB1.out) (fun hf => by have := (HT.out.f _ hf).2.1; omega)).trans HB1.out)
        clear hp2 hx2
        have bky : Byt x2 (.slice (some ⟨wc.heap.size, 0, none⟩) 20 20) (List.replicate 20 cc) := by
          have := row_byt BX2.out (by simp [maxLen])
          rwa [List.length_replicate] at this
        go_wp2_with fail
        refine (fate_any bky.bts (by simp)).mono ?_
        rintro e x3 ⟨fa, fc, rfl, hb3, hf3, hx3⟩
        have BX3 := hid hb3; have FX3 := hid hf3; have KX3 := hid hx3
        clear hb3 hf3 hx3 bky
        go_wp2_with fail
        obtain ⟨mb, ao, cap, hpl⟩ := PX2.out
        have HFb := hid (show ∀ g, F g → g < x2.heap.size from fun g hg => Nat.lt_of_lt_of_le (HTa.out.f g hg).2.1 KX2.out.size)
        refine (restart_ok (hpl.kept KX3.out (fun _ _ _ h => h)) (cut_off T) (by have := HTL.out.2; show T.since.length ≤ _; omega) BX3.out (by intro y hy; rw [List.mem_replicate] at hy; rw [hy.2, ← HCC.out]; split <;> decide) (fun g hg hF => by have := FX3.out g hg; have := HFb.out g hF; omega) (fun g hg => Nat.lt_of_lt_of_le (HFb.out g hg) KX3.out.size)).mono ?_
        rintro e x4 ⟨rfl, hp4, hx4⟩
        have KX4 := hid ((KX2.out.trans (KX3.out.mono (fun _ _ h => h.elim))).trans hx4)
        have HT4 := hid (HTa.out.step HKa.out.size (fun _ h => h.elim) (show PlAt F x4 b (T.cut (List.replicate 20 cc)) from hp4) (fun g hg => .inl hg) KX4.out)
        clear hpl hp4 hx4 HFb
        obtain ⟨F4, hT4⟩ := HT4.out
        have HT4 := hid hT4; clear hT4
        have HKb := hid (HKa.out.trans' KX4.out (fun g hg => .inr (HTa.out.f g hg).1))
        have HCp := hid (HCA.out.two.cut (List.replicate 20 cc))
        obtain ⟨C, hC⟩ : ∃ C, T.cut (List.replicate 20 cc) = C := ⟨_, rfl⟩
        have HCs := hid (show C.since = [] from hC ▸ rfl)
        have HCpg := hid (show ∀ i, C.page i = T2.page i from fun i => by
          rw [← hC, cut_page, keepAll_const (by rw [← HCC.out]; cases all <;> simp) HTL.out.2, ← HCC.out, ← HT2.out]
          cases all
          · simp only [Bool.false_eq_true, if_false, Int.zero_ne_one]
            rw [page_nil HS0.out, HTL.out.1]
          · simp only [if_true]
            rfl)
        rw [hC] at HT4 HCp
        clear hC KX1 PX1 BX2 BX3 FX3 KX3 PX2 KX2 KX4 HB0 HB1
        go_wp2_with fail
        obtain ⟨mb, ao, cap, hpl⟩ := HT4.out.p
        refine (pages_ok hpl HCp.out.off (by rw [HCs.out]; simp) 8 HCp.out.n (by decide)).mono ?_
        rintro e x5 ⟨oa, oc, rfl, hg5, hx5⟩
        have CL := hid (show ∀ i, (C.page i).length = 64 from fun i => by rw [page_nil HCs.out]; exact hpl.l i)
        have G5 := hid hg5; have KX5 := hid hx5
        have HT5 := hid (HT4.out.same hx5)
        clear hg5 hx5 hpl
        go_wp2_with fail
        obtain ⟨mb, ao, cap, hpl⟩ := HT5.out.q
        have TL2 := hid (show ∀ i, (T2.page i).length = 64 from fun i => by rw [← HCpg.out]; exact CL.out i)
        refine (pages_ok hpl HC2.out.off (by have := HC2.out.since; omega) 8 HC2.out.n (by decide)).mono ?_
        rintro e x6 ⟨qa, qc, rfl, hg6, hx6⟩
        have G6 := hid hg6; have KX6 := hid hx6
        have HT6 := hid (HT5.out.same hx6)
        have G5b := hid (G5.out.same hx6)
        clear hg6 hx6 hpl
        go_wp2_with fail
        obtain ⟨mb, ao, cap, hpl⟩ := HT6.out.p
        refine (arm_ok hpl HCp.out.off 1 (by decide)).mono ?_
        rintro e x7 ⟨rfl, hp1, hx1⟩
        have PX7 := hid hp1
        have KX7 := hid (show Kept F4 x6 x7 from hx1.mono (fun g _ e => by subst e; exact hpl.m))
        clear hpl hp1 hx1
        go_wp2_with fail
        refine (flush_dead PX7.out (HCp.out.small (by omega)) HCp.out.off rfl).mono ?_
        rintro e x8 ⟨rfl, hp2, hx2⟩
        have PX8 := hid hp2
        have KX8 := hid (KX7.out.trans hx2)
        have KW8 := hid (show Kept (fun _ => False) W x8 from ((HKb.out.trans KX5.out).trans KX6.out).trans' KX8.out (fun g hg => .inr (HT4.out.f g hg).1))
        clear hp2 hx2
        go_wp2_with fail
        refine (fate_any (by exact (HKB.out.kept KW8.out (fun _ _ h => h)).bts) HKL.out).mono ?_
        rintro e x9 ⟨fa, fc, rfl, hb3, hf3, hx3⟩
        have BX9 := hid hb3; have FX9 := hid hf3; have KX9 := hid hx3
        clear hb3 hf3 hx3
        go_wp2_with fail
        obtain ⟨mb, ao, cap, hpl⟩ := PX8.out
        have HFb := hid (show ∀ g, F4 g → g < x8.heap.size from fun g hg => Nat.lt_of_lt_of_le (HT6.out.f g hg).2.1 KX8.out.size)
        refine (restart_ok (hpl.kept KX9.out (fun _ _ _ h => h)) (cut_off C) (by show C.since.length ≤ _; rw [HCs.out]; simp) BX9.out HKR.out (fun g hg hF => by have := FX9.out g hg; have := HFb.out g hF; omega) (fun g hg => Nat.lt_of_lt_of_le (HFb.out g hg) KX9.out.size)).mono ?_
        rintro e y1 ⟨rfl, hp4, hx4⟩
        have KY1 := hid ((KX8.out.trans (KX9.out.mono (fun _ _ h => h.elim))).trans hx4)
        have PY1 := hid (show PlAt F4 y1 b (C.cut KB) from hp4)
        have HDp := hid (HCp.out.cut KB)
        have KWY := hid (show Kept (fun _ => False) W y1 from ((HKb.out.trans KX5.out).trans KX6.out).trans' KY1.out (fun g hg => .inr (HT4.out.f g hg).1))
        have L4 := hid (show ∀ g, F4 g → g < x4.heap.size from fun g hg => (HT4.out.f g hg).2.1)
        have GY5 := hid (G5b.out.kept KY1.out (fun g h1 _ h2 => by have := L4.out g h2; omega))
        have GY6 := hid (G6.out.kept KY1.out (fun g h1 _ h2 => by have := L4.out g h2; have := KX5.out.size; omega))
        have DPG := hid (show ∀ i, (C.cut KB).page i = C.page i from fun i => by
          rw [cut_page, HCs.out, page_nil HCs.out]; rfl)
        have DSI := hid (cut_since C KB)
        obtain ⟨D, hD⟩ : ∃ D, C.cut KB = D := ⟨_, rfl⟩
        rw [hD] at PY1 HDp DPG DSI
        clear hpl hp4 hx4 HFb hD PX7 PX8 KX7 KX8 KX9 BX9 FX9 KW8 HT5 HT6
        go_wp2_with fail
        obtain ⟨mb, ao, cap, hpl⟩ := PY1.out
        refine (pages_ok hpl HDp.out.off (by rw [DSI.out]; simp) 8 HDp.out.n (by decide)).mono ?_
        rintro e y2 ⟨za, zc, rfl, hg7, hx7⟩
        have DL := hid (show ∀ i, (D.page i).length = 64 from fun i => by rw [DPG.out]; exact CL.out i)
        have G7 := hid hg7; have KY2 := hid (KWY.out.trans hx7)
        have GZ5 := hid (GY5.out.same hx7); have GZ6 := hid (GY6.out.same hx7)
        clear hg7 hx7 hpl
        go_wp2_with fail
        go_loopw [148] (fun i wr => ∃ k : Nat, k ≤ 8 ∧ i = .int .i64 k ∧ Kept (fun _ => False) y2 wr) (fun i _ => 8 - (intOf i).toNat)
        case atStart => exact ⟨0, by decide, rfl, Kept.refl _ _⟩
        case round =>
          obtain ⟨k, hk, rfl, hkr⟩ := hrel
          have KR := hid hkr; clear hkr
          by_cases hlt : k < 8
          · obtain ⟨ag, ac', an, e10, i1, i2, i3, i4, i5⟩ := (GZ5.out.same KR.out).at CL.out k hlt
            simp only [Value.slice.injEq] at e10
            obtain ⟨rfl, _, rfl⟩ := e10
            obtain ⟨bg, bc', bn, e11, j1, j2, j3, j4, j5⟩ := (GZ6.out.same KR.out).at TL2.out k hlt
            simp only [Value.slice.injEq] at e11
            obtain ⟨rfl, _, rfl⟩ := e11
            obtain ⟨dg, dc', dn, e12, l1, l2, l3, l4, l5⟩ := (G7.out.same KR.out).at DL.out k hlt
            simp only [Value.slice.injEq] at e12
            obtain ⟨rfl, _, rfl⟩ := e12
            unfold maxLen at i2 j2 l2
            have I5 := hid i5; have J5 := hid j5; have L5 := hid l5; clear i4 i5 j4 j5 l4 l5
            go_wp2_with fail
            refine wp_region_till (fun w' => w'.cell? ⟨ag, k, none⟩ = some (.slice (some ⟨an, 0, none⟩) 64 64) ∧ w'.cell? ⟨bg, k, none⟩ = some (.slice (some ⟨bn, 0, none⟩) 64 64) ∧ w'.cell? ⟨dg, k, none⟩ = some (.slice (some ⟨dn, 0, none⟩) 64 64)) 25 (by kernel_rfl) (by exact ⟨i3, j3, l3⟩) (fun hHeld => ?_)
            refine till_pure 0 (some 151) (v := ?v500) (by decide) rfl (by kernel_rfl) (by kernel_rfl) (by kernel_rfl) (by kernel_rfl) (by decide) (fun _ _ _ h => h) (Or.inl ⟨by rfl, ?y500⟩) (by assumption) ?r500
            case y500 => (intro w hSw; clear hSw; go_simp; (try with_reducible rfl))
            simp only [Act.put, List.setIfInBounds_toArray, List.set_cons_zero, List.set_cons_succ]
            refine till_pure 1 (some 152) (v := ?v501) (by decide) rfl (by kernel_rfl) (by kernel_rfl) (by kernel_rfl) (by kernel_rfl) (by decide) (fun _ _ _ h => h) (Or.inl ⟨by rfl, ?y501⟩) (by assumption) ?r501
            case y501 => (intro w hSw; clear hSw; go_simp; (try with_reducible rfl))
            simp only [Act.put, List.setIfInBounds_toArray, List.set_cons_zero, List.set_cons_succ]
            refine till_pure 2 (some 153) (v := ?v502) (by decide) rfl (by kernel_rfl) (by kernel_rfl) (by kernel_rfl) (by kernel_rfl) (by decide) (fun _ _ _ h => h) (Or.inl ⟨by rfl, ?y502⟩) (by assumption) ?r502
            case y502 => (intro w hSw; clear hSw; go_simp; (try with_reducible rfl))
            simp only [Act.put, List.setIfInBounds_toArray, List.set_cons_zero, List.set_cons_succ]
            refine till_pure 3 (some 154) (v := ?v503) (by decide) rfl (by kernel_rfl) (by kernel_rfl) (by kernel_rfl) (by kernel_rfl) (by decide) (fun _ _ _ h => h) (Or.inl ⟨by rfl, ?y503⟩) (by assumption) ?r503
            case y503 => (intro w hSw; clear hSw; go_simp; (try with_reducible rfl))
            simp only [Act.put, List.setIfInBounds_toArray, List.set_cons_zero, List.set_cons_succ]
            refine till_pure 4 (some 155) (v := ?v504) (by decide) rfl (by kernel_rfl) (by kernel_rfl) (by kernel_rfl) (by kernel_rfl) (by decide) (fun _ _ _ h => h) (Or.inl ⟨by rfl, ?y504⟩) (by assumption) ?r504
            case y504 => (intro w hSw; clear hSw; go_simp; (try with_reducible rfl))
            simp only [Act.put, List.setIfInBounds_toArray, List.set_cons_zero, List.set_cons_succ]
            refine till_pure 5 (some 156) (v := ?v505) (by decide) rfl (by kernel_rfl) (by kernel_rfl) (by kernel_rfl) (by kernel_rfl) (by decide) (fun _ _ _ h => h) (Or.inl ⟨by rfl, ?y505⟩) (by assumption) ?r505
            case y505 => (intro w hSw; clear hSw; go_simp; (try with_reducible rfl))
            simp only [Act.put, List.setIfInBounds_toArray, List.set_cons_zero, List.set_cons_succ]
            refine till_load 6 (some 157) [14, 13, 12, 11] (v := ?v506) (by decide) rfl (by kernel_rfl) (by kernel_rfl) (by kernel_rfl) (by kernel_rfl) (by kernel_rfl) (by decide) (by decide) (fun _ _ _ h => h) (Or.inl ⟨by rfl, ?y506⟩) (by assumption) ?r506
            case y506 => (intro w hSw; (try dsimp only at hSw); go_simp; (try with_reducible rfl))
            simp only [Act.put, List.setIfInBounds_toArray, List.set_cons_zero, List.set_cons_succ]
            refine till_pure 7 (some 158) (v := ?v507) (by decide) rfl (by kernel_rfl) (by kernel_rfl) (by kernel_rfl) (by kernel_rfl) (by decide) (fun _ _ _ h => h) (Or.inl ⟨by rfl, ?y507⟩) (by assumption) ?r507
            case y507 => (intro w hSw; clear hSw; go_simp; (try with_reducible rfl))
            simp only [Act.put, List.setIfInBounds_toArray, List.set_cons_zero, List.set_cons_succ]
            refine till_pure 8 (some 159) (v := ?v508) (by decide) rfl (by kernel_rfl) (by kernel_rfl) (by kernel_rfl) (by kernel_rfl) (by decide) (fun _ _ _ h => h) (Or.inl ⟨by rfl, ?y508⟩) (by assumption) ?r508
            case y508 => (intro w hSw; clear hSw; go_simp; (try with_reducible rfl))
            simp only [Act.put, List.setIfInBounds_toArray, List.set_cons_zero, List.set_cons_succ]
            refine till_pure 9 (some 160) (v := ?v509) (by decide) rfl (by kernel_rfl) (by kernel_rfl) (by kernel_rfl) (by kernel_rfl) (by decide) (fun _ _ _ h => h) (Or.inl ⟨by rfl, ?y509⟩) (by assumption) ?r509
            case y509 => (intro w hSw; clear hSw; go_simp; (try with_reducible rfl))
            simp only [Act.put, List.setIfInBounds_toArray, List.set_cons_zero, List.set_cons_succ]
            refine till_load 10 (some 161) [14, 13, 12, 11] (v := ?v510) (by decide) rfl (by kernel_rfl) (by kernel_rfl) (by kernel_rfl) (by kernel_rfl) (by kernel_rfl) (by decide) (by decide) (fun _ _ _ h => h) (Or.inl ⟨by rfl, ?y510⟩) (by assumption) ?r510
            case y510 => (intro w hSw; (try dsimp only at hSw); go_simp; (try with_reducible rfl))
            simp only [Act.put, List.setIfInBounds_toArray, List.set_cons_zero, List.set_cons_succ]
            refine till_call 11 (by kernel_rfl) rfl (fun K hK => ?_)
            go_simp
            refine (same_bytes (I5.out.kept (Kept.refl (fun _ => False) wr).drew (fun _ _ h => h)) (J5.out.kept (Kept.refl (fun _ => False) wr).drew (fun _ _ h => h))).mono ?_
            rintro e z1 ⟨rfl, hz1⟩
            have Z1 := hid (Kept.of_drew hz1)
            have hd1 : decide (C.page (k : Int) = T2.page (k : Int)) = true := by rw [HCpg.out]; simp
            try dsimp only []
            refine hK.out _ _ (by exact ⟨hz1.cell hHeld.1 (fun h => h), hz1.cell hHeld.2.1 (fun h => h), hz1.cell hHeld.2.2 (fun h => h)⟩) (fun hHeld => ?_)
            clear hK K
            try simp only [Act.put, List.setIfInBounds_toArray, List.set_cons_zero, List.set_cons_succ]
            rw [hd1]
            clear hz1 hd1
            refine till_pure 12 (some 163) (v := ?v512) (by decide) rfl (by kernel_rfl) (by kernel_rfl) (by kernel_rfl) (by kernel_rfl) (by decide) (fun _ _ _ h => h) (Or.inl ⟨by rfl, ?y512⟩) (by assumption) ?r512
            case y512 => (intro w hSw; clear hSw; go_simp; (try with_reducible rfl))
            simp only [Act.put, List.setIfInBounds_toArray, List.set_cons_zero, List.set_cons_succ]
            refine till_pure 13 (some 164) (v := ?v513) (by decide) rfl (by kernel_rfl) (by kernel_rfl) (by kernel_rfl) (by kernel_rfl) (by decide) (fun _ _ _ h => h) (Or.inl ⟨by rfl, ?y513⟩) (by assumption) ?r513
            case y513 => (intro w hSw; clear hSw; go_simp; (try with_reducible rfl))
            simp only [Act.put, List.setIfInBounds_toArray, List.set_cons_zero, List.set_cons_succ]
            refine till_pure 14 (some 165) (v := ?v514) (by decide) rfl (by kernel_rfl) (by kernel_rfl) (by kernel_rfl) (by kernel_rfl) (by decide) (fun _ _ _ h => h) (Or.inl ⟨by rfl, ?y514⟩) (by assumption) ?r514
            case y514 => (intro w hSw; clear hSw; go_simp; (try with_reducible rfl))
            simp only [Act.put, List.setIfInBounds_toArray, List.set_cons_zero, List.set_cons_succ]
            refine till_pure 15 (some 166) (v := ?v515) (by decide) rfl (by kernel_rfl) (by kernel_rfl) (by kernel_rfl) (by kernel_rfl) (by decide) (fun _ _ _ h => h) (Or.inl ⟨by rfl, ?y515⟩) (by assumption) ?r515
            case y515 => (intro w hSw; clear hSw; go_simp; (try with_reducible rfl))
            simp only [Act.put, List.setIfInBounds_toArray, List.set_cons_zero, List.set_cons_succ]
            refine till_pure 16 (some 167) (v := ?v516) (by decide) rfl (by kernel_rfl) (by kernel_rfl) (by kernel_rfl) (by kernel_rfl) (by decide) (fun _ _ _ h => h) (Or.inl ⟨by rfl, ?y516⟩) (by assumption) ?r516
            case y516 => (intro w hSw; clear hSw; go_simp; (try with_reducible rfl))
            simp only [Act.put, List.setIfInBounds_toArray, List.set_cons_zero, List.set_cons_succ]
            refine till_pure 17 (some 168) (v := ?v517) (by decide) rfl (by kernel_rfl) (by kernel_rfl) (by kernel_rfl) (by kernel_rfl) (by decide) (fun _ _ _ h => h) (Or.inl ⟨by rfl, ?y517⟩) (by assumption) ?r517
            case y517 => (intro w hSw; clear hSw; go_simp; (try with_reducible rfl))
            simp only [Act.put, List.setIfInBounds_toArray, List.set_cons_zero, List.set_cons_succ]
            refine till_load 18 (some 169) [24, 23] (v := ?v518) (by decide) rfl (by kernel_rfl) (by kernel_rfl) (by kernel_rfl) (by kernel_rfl) (by kernel_rfl) (by decide) (by decide) (fun _ _ _ h => h) (Or.inl ⟨by rfl, ?y518⟩) (by assumption) ?r518
            case y518 => (intro w hSw; (try dsimp only at hSw); go_simp; (try with_reducible rfl))
            simp only [Act.put, List.setIfInBounds_toArray, List.set_cons_zero, List.set_cons_succ]
            refine till_pure 19 (some 170) (v := ?v519) (by decide) rfl (by kernel_rfl) (by kernel_rfl) (by kernel_rfl) (by kernel_rfl) (by decide) (fun _ _ _ h => h) (Or.inl ⟨by rfl, ?y519⟩) (by assumption) ?r519
            case y519 => (intro w hSw; clear hSw; go_simp; (try with_reducible rfl))
            simp only [Act.put, List.setIfInBounds_toArray, List.set_cons_zero, List.set_cons_succ]
            refine till_pure 20 (some 171) (v := ?v520) (by decide) rfl (by kernel_rfl) (by kernel_rfl) (by kernel_rfl) (by kernel_rfl) (by decide) (fun _ _ _ h => h) (Or.inl ⟨by rfl, ?y520⟩) (by assumption) ?r520
            case y520 => (intro w hSw; clear hSw; go_simp; (try with_reducible rfl))
            simp only [Act.put, List.setIfInBounds_toArray, List.set_cons_zero, List.set_cons_succ]
            refine till_pure 21 (some 172) (v := ?v521) (by decide) rfl (by kernel_rfl) (by kernel_rfl) (by kernel_rfl) (by kernel_rfl) (by decide) (fun _ _ _ h => h) (Or.inl ⟨by rfl, ?y521⟩) (by assumption) ?r521
            case y521 => (intro w hSw; clear hSw; go_simp; (try with_reducible rfl))
            simp only [Act.put, List.setIfInBounds_toArray, List.set_cons_zero, List.set_cons_succ]
            refine till_load 22 (some 173) [24, 23] (v := ?v522) (by decide) rfl (by kernel_rfl) (by kernel_rfl) (by kernel_rfl) (by kernel_rfl) (by kernel_rfl) (by decide) (by decide) (fun _ _ _ h => h) (Or.inl ⟨by rfl, ?y522⟩) (by assumption) ?r522
            case y522 => (intro w hSw; (try dsimp only at hSw); go_simp; (try with_reducible rfl))
            simp only [Act.put, List.setIfInBounds_toArray, List.set_cons_zero, List.set_cons_succ]
            refine till_call 23 (by kernel_rfl) rfl (fun K hK => ?_)
            go_simp
            refine (same_bytes (I5.out.kept Z1.out (fun _ _ h => h)) (L5.out.kept Z1.out (fun _ _ h => h))).mono ?_
            rintro e z2 ⟨rfl, hz2⟩
            have Z2 := hid (Z1.out.trans hz2)
            have hd1 : decide (C.page (k : Int) = D.page (k : Int)) = true := by rw [DPG.out]; simp
            try dsimp only []
            refine hK.out _ _ (by exact ⟨hz2.cell hHeld.1 (fun h => h), hz2.cell hHeld.2.1 (fun h => h), hz2.cell hHeld.2.2 (fun h => h)⟩) (fun hHeld => ?_)
            clear hK K
            try simp only [Act.put, List.setIfInBounds_toArray, List.set_cons_zero, List.set_cons_succ]
            rw [hd1]
            clear hz2 hd1
            refine till_pure 24 (some 175) (v := ?v524) (by decide) rfl (by kernel_rfl) (by kernel_rfl) (by kernel_rfl) (by kernel_rfl) (by decide) (fun _ _ _ h => h) (Or.inl ⟨by rfl, ?y524⟩) (by assumption) ?r524
            case y524 => (intro w hSw; clear hSw; go_simp; (try with_reducible rfl))
            simp only [Act.put, List.setIfInBounds_toArray, List.set_cons_zero, List.set_cons_succ]
            refine till_list [] (by kernel_rfl) (by kernel_rfl) (by decide) (by decide) ?_
            simp only [pickOps, List.getElem?_toArray, List.getElem?_cons_zero, List.getElem?_cons_succ]
            clear hHeld
            go_wp2
            go_roundw
            case rel => exact ⟨k + 1, by omega, by go_num, KR.out.trans Z2.out⟩
            case measure => simp [intOf]; omega
          · obtain rfl : k = 8 := by omega
            go_wp2
            go_ret
            exact ⟨rfl, (KY2.out.trans KR.out).below (Nat.le_refl _) (fun _ h => h.elim)⟩
end Go.Proofs.Ytnfdkpjklenllaa
