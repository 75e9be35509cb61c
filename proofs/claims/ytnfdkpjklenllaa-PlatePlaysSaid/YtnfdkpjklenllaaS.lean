/- PlateLasts' walk. -/
import Derived.Test.YtnfdkpjklenllaaR
namespace Go.Proofs.Ytnfdkpjklenllaa
open Go.RowKit

theorem infoSl : (Try.prog.info? 23).map (fun i => (i.zero, i.size, i.bytes)) = some (some (.slice none 0 0), 1, 24) := infoBytes
set_option maxRecDepth 100000 in
set_option maxHeartbeats 8000000 in
theorem lasts_walk (W : World) (args : Array Value) (h : RdAll Try.prog W Try.f5.params.toList args.toList) :
    Calls Try.prog 5 args W fun e W' => e = .returned (.bool true) ∧ Below W.heap.size W W' := by
  rw [Try.params5] at h
  obtain ⟨v0, v1, v2, rfl⟩ : ∃ v0 v1 v2, args = #[v0, v1, v2] := by
    rcases args with ⟨_ | ⟨v0, _ | ⟨v1, _ | ⟨v2, _ | ⟨v3, l⟩⟩⟩⟩⟩ <;> simp [RdAll] at h
    exact ⟨v0, v1, v2, rfl⟩
  obtain ⟨r0, r1, r2, _⟩ := h
  obtain ⟨sa, sl, sc, rfl, h0⟩ := r0.slice Try.underlying22
  obtain ⟨ops, rfl, hscr⟩ := scr_read h0
  obtain ⟨ma, ml, mc, rfl, h1⟩ := r1.slice Try.underlying22
  obtain ⟨more, rfl, hmore⟩ := scr_read h1
  obtain ⟨ka, kl, kc, rfl, h2⟩ := r2.slice Try.underlying23
  obtain ⟨KB, rfl, hkb, hkr, hkl⟩ := h2.bytes
  have HSC := hid hscr; have HMO := hid hmore; have HKB := hid hkb; have HKR := hid hkr; have HKL := hid hkl
  have hml : more.length ≤ 9223372036854775807 := by obtain ⟨_, _, e, q1, q2, _⟩ := hmore; unfold maxLen at q2; omega
  clear r0 r1 r2 h0 h1 h2 hscr hmore hkb hkr hkl
  go_enter Try.func5, Try.ntmps5
  go_wp2_with fail
  refine (awake_any _).mono ?_; rintro e w1 ⟨rfl, hk1⟩
  have K1 := hid hk1; clear hk1
  go_wp2_with fail
  refine (some_ok (HSC.out.same K1.out)).mono ?_
  rintro e w2 ⟨b, rfl, hp, hk⟩
  have K2 := hid (K1.out.trans hk)
  have P2 := hid (show PlAt (fun g => W.heap.size ≤ g ∧ g < w2.heap.size) w2 b (someS ops) from hp.bound.mono (fun g hg => ⟨Nat.le_trans K1.out.size hg.1, hg.2⟩))
  obtain ⟨S, hS⟩ : ∃ S, someS ops = S := ⟨_, rfl⟩
  have HC := hid (show Calm S 61 from hS ▸ calm_some ops); have HS0 := hid (show S.since = [] from hS ▸ some_since ops)
  rw [hS] at P2
  clear hp hk K1 hS
  go_wp2_with fail
  obtain ⟨mb, ao, cap, hpl⟩ := P2.out
  refine (pages_ok hpl HC.out.off (by have := HC.out.since; omega) 8 HC.out.n (by decide)).mono ?_
  rintro e w3 ⟨pa, pc, rfl, hg3, hk3⟩
  have SPL := hid (show ∀ i, (S.page i).length = 64 from fun i => by rw [page_nil HS0.out]; exact hpl.l i)
  have G3 := hid hg3; have K3 := hid (K2.out.trans hk3); have P3 := hid (P2.out.same hk3); have Z3 := hid hk3.size
  clear hpl hg3 hk3
  go_upto_block 0 with fail
  obtain ⟨W4, hW4⟩ : ∃ W4, w3.alloc (.cells #[.slice none 0 0, .slice none 0 0, .slice none 0 0, .slice none 0 0, .slice none 0 0, .slice none 0 0, .slice none 0 0, .slice none 0 0] 46) = W4 := ⟨_, rfl⟩
  have HL0 := hid (show Lst W W4 w2.heap.size w3.heap.size b (.slice pa 8 pc) S.page S (wrote S.since) (fun g => W.heap.size ≤ g ∧ g < w2.heap.size) (fun _ => False) (fun _ => .slice none 0 0) (fun _ _ => (0, 0)) from by
    have ka : Kept (fun _ => False) w3 W4 := by rw [← hW4]; exact (Kept.refl _ _).alloc _
    have hs4 : W4.heap.size = w3.heap.size + 1 := by rw [← hW4]; simp
    refine ⟨P3.out.same ka, ?_, fun g hg => ⟨hg.1, by have := Z3.out; omega, .inl hg.2⟩, fun g hg => hg.elim, fun g _ h => h, G3.out.same ka, ⟨K2.out.size, Z3.out, by omega⟩, K3.out.trans ka⟩
    rw [← hW4]
    exact (wr_new w3).mono (fun _ h => h) (by rw [HS0.out]; rfl))
  go_cut [11] from 11 to 77 (fun _ wx => ∃ (n : Nat) (F Y : Nat → Prop) (vs : Nat → Value) (zs : Nat → Nat → Nat × Nat), n ≤ 20 ∧ Lst W wx w2.heap.size w3.heap.size b (.slice pa 8 pc) S.page ((more.take n).foldl moreStep S) (wrote ((more.take n).foldl moreStep S).since) F Y vs zs)
  case first =>
    go_wp2_with fail
    go_loopw [40] (fun i wr => ∃ (k : Nat) (F Y : Nat → Prop) (vs : Nat → Value) (zs : Nat → Nat → Nat × Nat), k ≤ more.length ∧ k ≤ 20 ∧ i = .int .i64 k ∧ Lst W wr w2.heap.size w3.heap.size b (.slice pa 8 pc) S.page ((more.take k).foldl moreStep S) (wrote ((more.take k).foldl moreStep S).since) F Y vs zs) (fun i _ => more.length - (intOf i).toNat)
    case atStart => exact ⟨0, _, _, _, _, Nat.zero_le _, by decide, rfl, by have := HL0.out; rw [← hW4] at this; simpa using this⟩
    case round =>
      clear HL0 hW4 G3 K3 P3 Z3 P2 K2
      obtain ⟨k, F, Y, vs, zs, hk, hk20, rfl, ht⟩ := hrel
      have HT := hid ht; clear ht
      have HCA := hid (show Calm ((more.take k).foldl moreStep S) 101 from (calm_mores (more.take k) HC.out).mono (by simp; omega))
      by_cases hlt : k < more.length
      · obtain ⟨x, hx⟩ : ∃ x, more[k]? = some x := ⟨more[k], by simp [hlt]⟩
        obtain ⟨ao', c', e0, _, _, hat⟩ := HMO.out
        simp only [Value.slice.injEq] at e0
        obtain ⟨rfl, _, rfl⟩ := e0
        obtain ⟨ob, off, bo, bc, rfl, d0, d1, d2, hok⟩ := hat k x hx
        have d0 := HT.out.k.cell d0 (fun h => h); have d1 := HT.out.k.cell d1 (fun h => h); have d2 := HT.out.k.cell d2 (fun h => h)
        have HX := hid hx
        clear hat hx
        obtain ⟨W2, hW2⟩ : ∃ W2, wr.alloc (.cells #[.int .u8 x.kd, .int .i64 x.i, .slice bo x.l.length bc] 29) = W2 := ⟨_, rfl⟩
        have HB := hid (show W2.heap[wr.heap.size]? = some (.cells #[.int .u8 x.kd, .int .i64 x.i, .slice bo x.l.length bc] 29 (0, 0)) from by rw [← hW2]; exact row_new _ _)
        have HKW := hid (show Kept (fun _ => False) wr W2 from by rw [← hW2]; exact (Kept.refl _ _).alloc _)
        by_cases h20 : (20 : Int) ≤ (k : Int)
        · go_wp2_with fail
          go_meet
          exact ⟨k, F, Y, vs, zs, hk20, HT.out.same HKW.out⟩
        · obtain ⟨l', cut⟩ := cut_of hok.b
          have HCU := hid cut
          have a1 := cut.le; have a2 := cut.cap; have a3 := cut.mi; have a4 := cut.b1; have a5 := cut.b2
          obtain ⟨j, hj⟩ : ∃ j, j = x.i % 8 := ⟨_, rfl⟩
          obtain ⟨j0, j8, u1, u2, u3⟩ := eight hj
          have HJ := hid hj
          clear cut hok hj
          have e1 : W2.cell? ⟨wr.heap.size, 1, none⟩ = some (.int .i64 x.i) := row_cell HB.out 1
          have e2 : W2.cell? ⟨wr.heap.size, 2, none⟩ = some (.slice bo x.l.length bc) := row_cell HB.out 2
          go_wp2_with fail
          refine (twin_any (by exact (HCU.out.byt.kept (HT.out.k.trans HKW.out) (fun _ _ h => h)).bts) (by have := HCU.out.len; omega)).mono ?_
          rintro e w4 ⟨ta, tc, rfl, ho4, hf4, hk4⟩
          have HO4 := hid ho4; have HF4 := hid hf4; have K4 := hid hk4
          have HT4 := hid ((HT.out.same HKW.out).same hk4)
          clear ho4 hf4 hk4
          go_wp2_with fail
          obtain ⟨mb, ao, cap, hpl⟩ := HT4.out.p
          refine (write_ok hpl (HCA.out.small (by omega)) HCA.out.off (by have := HCA.out.since; omega) j j0 (by rw [HCA.out.n]; exact j8) HO4.out.byt (by have := HCU.out.len; omega)).mono ?_
          rintro e w5 ⟨rfl, ⟨F5, hp5, hf5⟩, hk5⟩
          have hdn : (tick (((more.take k).foldl moreStep S).add j l')).down = 0 := by simp only [Plt.down, (HCA.out.add j l').tick.off]; rfl
          rw [hdn]
          have HT5 := hid (HT4.out.step hp5 hf5 hk5)
          have hta : ∀ g, (Value.slice ta l'.length tc).ownBlock = some g → wr.heap.size ≤ g ∧ g < w4.heap.size := fun g hg => ⟨Nat.le_trans HKW.out.size (HF4.out g hg), HO4.out.lt hg⟩
          have HTA := hid hta
          have HO5 := hid (HO4.out.kept hk5 (fun g hg hf => by have := (HT.out.f g hf).2.1; have := (hta g hg).1; omega))
          have HNF := hid (show ∀ g, (F5 g ∧ g < w5.heap.size) → ¬ (Value.slice ta l'.length tc).ownBlock = some g from fun g hg he => by rcases hf5 g hg.1 with h | h; have := (HT.out.f g h).2.1; have := (hta g he).1; omega; have := (hta g he).2; omega)
          clear hpl hk5 hdn hta
          obtain ⟨J, hJ⟩ : ∃ J : Nat, j = (J : Int) := ⟨j.toNat, by omega⟩
          subst hJ
          have hJ8 : J < 8 := by omega
          obtain ⟨va, vcap, hvs⟩ := (HT5.out.wr.o J hJ8).isSlice
          have HVO := hid (show Own w5 23 1 (.slice va (wrote ((more.take k).foldl moreStep S).since J).length vcap) (wrote ((more.take k).foldl moreStep S).since J).length ((List.range (wrote ((more.take k).foldl moreStep S).since J).length).map fun m => .slice (some ⟨(zs J m).1, 0, none⟩) 64 (zs J m).2) from hvs ▸ HT5.out.wr.o J hJ8)
          have HNL := hid (show (wrote ((more.take k).foldl moreStep S).since J).length ≤ 101 from Nat.le_trans (wrote_le _ _) HCA.out.since)
          obtain ⟨nL, hnL⟩ : ∃ nL, (wrote ((more.take k).foldl moreStep S).since J).length = nL := ⟨_, rfl⟩
          have e3 : w5.cell? ⟨w3.heap.size, J, none⟩ = some (.slice va nL vcap) := by
            rw [row_cell HT5.out.wr.r, ← hnL, ← hvs]
            simp [hJ8]
          obtain ⟨m, hm⟩ : ∃ m : Nat, m = 64 - l'.length := ⟨_, rfl⟩
          have hz1 : 64 - (l'.length : Int) = (m : Int) := by have := HCU.out.len; omega
          have hz2 : IntKind.i64.wrap (m : Int) = (m : Int) := IntWalk.i64_in _ (by omega)
          have hm64 : l'.length + m = 64 := by have := HCU.out.len; omega
          have hpad : pad l' = l' ++ List.replicate m 0 := by rw [hm]; rfl
          have HPA := hid hpad; have HVS := hid hvs; have HnL := hid hnL
          clear hm hpad hvs e1 e2 a1 a2 a3 a4 a5 u1 u2 u3 hnL
          go_wp2_with fail
          refine wp_region_till (fun w' => w'.cell? ⟨w3.heap.size, J, none⟩ = some (.slice va nL vcap)) 12 (by kernel_rfl) (by exact e3) (fun hHeld => ?_)
          refine till_pure 0 (some 65) (v := ?v100) (by decide) rfl (by kernel_rfl) (by kernel_rfl) (by kernel_rfl) (by kernel_rfl) (by decide) (fun _ _ _ h => h) (Or.inl ⟨by rfl, ?y100⟩) (by assumption) ?r100
          case y100 => (intro w hSw; clear hSw; go_simp; (try with_reducible rfl))
          simp only [Act.put, List.setIfInBounds_toArray, List.set_cons_zero, List.set_cons_succ]
          refine till_pure 1 (some 66) (v := ?v101) (by decide) rfl (by kernel_rfl) (by kernel_rfl) (by kernel_rfl) (by kernel_rfl) (by decide) (fun _ _ _ h => h) (Or.inl ⟨by rfl, ?y101⟩) (by assumption) ?r101
          case y101 => (intro w hSw; clear hSw; go_simp; (try with_reducible rfl))
          simp only [Act.put, List.setIfInBounds_toArray, List.set_cons_zero, List.set_cons_succ]
          refine till_pure 2 (some 67) (v := ?v102) (by decide) rfl (by kernel_rfl) (by kernel_rfl) (by kernel_rfl) (by kernel_rfl) (by decide) (fun _ _ _ h => h) (Or.inl ⟨by rfl, ?y102⟩) (by assumption) ?r102
          case y102 => (intro w hSw; clear hSw; go_simp; (try with_reducible rfl))
          simp only [Act.put, List.setIfInBounds_toArray, List.set_cons_zero, List.set_cons_succ]
          refine till_load 3 (some 68) [10] (v := ?v103) (by decide) rfl (by kernel_rfl) (by kernel_rfl) (by kernel_rfl) (by kernel_rfl) (by kernel_rfl) (by decide) (by decide) (fun _ _ _ h => h) (Or.inl ⟨by rfl, ?y103⟩) (by assumption) ?r103
          case y103 => (intro w hSw; (try dsimp only at hSw); go_simp; (try with_reducible rfl))
          simp only [Act.put, List.setIfInBounds_toArray, List.set_cons_zero, List.set_cons_succ]
          refine till_pure 4 (some 69) (v := ?v104) (by decide) rfl (by kernel_rfl) (by kernel_rfl) (by kernel_rfl) (by kernel_rfl) (by decide) (fun _ _ _ h => h) (Or.inl ⟨by rfl, ?y104⟩) (by assumption) ?r104
          case y104 => (intro w hSw; clear hSw; go_simp; (try with_reducible rfl))
          simp only [Act.put, List.setIfInBounds_toArray, List.set_cons_zero, List.set_cons_succ]
          refine till_pure 5 (some 70) (v := ?v105) (by decide) rfl (by kernel_rfl) (by kernel_rfl) (by kernel_rfl) (by kernel_rfl) (by decide) (fun _ _ _ h => h) (Or.inl ⟨by rfl, ?y105⟩) (by assumption) ?r105
          case y105 => (intro w hSw; clear hSw; go_simp; (try with_reducible rfl))
          simp only [Act.put, List.setIfInBounds_toArray, List.set_cons_zero, List.set_cons_succ]
          refine till_pure 6 (some 71) (v := ?v106) (by decide) rfl (by kernel_rfl) (by kernel_rfl) (by kernel_rfl) (by kernel_rfl) (by decide) (fun _ _ _ h => h) (Or.inl ⟨by rfl, ?y106⟩) (by assumption) ?r106
          case y106 => (intro w hSw; clear hSw; go_simp; (try with_reducible rfl))
          simp only [Act.put, List.setIfInBounds_toArray, List.set_cons_zero, List.set_cons_succ]
          refine till_pure 7 (some 72) (v := ?v107) (by decide) rfl (by kernel_rfl) (by kernel_rfl) (by kernel_rfl) (by kernel_rfl) (by decide) (fun _ _ _ h => h) (Or.inl ⟨by rfl, ?y107⟩) (by assumption) ?r107
          case y107 => (intro w hSw; clear hSw; go_simp; (try with_reducible rfl))
          simp only [Act.put, List.setIfInBounds_toArray, List.set_cons_zero, List.set_cons_succ]
          refine till_call 8 (by kernel_rfl) rfl (fun K hK => ?_)
          refine step_app_zeros1 (some 73) rfl (by rfl) (.tmp 69) (.tmp 72) 23 3 rfl 5 (.int .u8 0) 1 Try.underlying23 Try.underlying3 infoU8 rfl rfl (.slice ta l'.length tc) l'.length (u8s l') rfl (by exact HO5.out) m rfl (by rw [hm64]; decide) (by rw [hm64]; decide) ?_
          intro z1 z2 w6 ho6 hk6 hf6
          simp only [Act.put, List.setIfInBounds_toArray, List.set_cons_zero, List.set_cons_succ]
          rw [hm64] at ho6 hf6 ⊢
          have HT6 := hid (HT5.out.kept (Kept.of_drew hk6) (fun g hg he => HNF.out g hg he) (fun g he => ⟨by have := (HTA.out g he).1; have := HT.out.l; omega, fun hy => by have := (HT.out.y g hy).2; have := (HTA.out g he).1; omega⟩))
          obtain ⟨zb, zc, e6, hzc, hzm⟩ := ho6.some_of_pos (by decide)
          simp only [Value.slice.injEq] at e6
          obtain ⟨rfl, _, rfl⟩ := e6
          have HZ6 := hid (show Own w6 5 1 (.slice (some ⟨zb, 0, none⟩) 64 z2) 64 (u8s (pad l')) from by rw [HPA.out]; simpa [u8s] using ho6)
          have HZB := hid (show w3.heap.size < zb ∧ ¬ (F5 zb ∧ zb < w5.heap.size) from by
            rcases hf6 zb rfl with h | h
            · exact ⟨by have := (HTA.out zb h).1; have := HT.out.l; omega, fun hf => HNF.out zb hf h⟩
            · simp at h
              exact ⟨by have := HT5.out.l; omega, fun hf => by omega⟩)
          have hne6 : ¬ (Value.slice ta l'.length tc).ownBlock = some w3.heap.size := fun he => by have := (HTA.out _ he).1; have := HT.out.l; omega
          try dsimp only []
          refine hK.out _ _ (by exact hk6.cell hHeld hne6) (fun hHeld => ?_)
          clear hK K
          try simp only [Act.put, List.setIfInBounds_toArray, List.set_cons_zero, List.set_cons_succ]
          have HVO6 := hid (HVO.out.kept (Kept.of_drew hk6) (fun g hg he => HVO.out.ne HO5.out (by decide) hg he))
          clear ho6 hf6 hk6 hne6
          refine till_call 9 (by kernel_rfl) rfl (fun K hK => ?_)
          go_simp
          have hS7 : (w6.alloc (.cells #[.slice (some ⟨zb, 0, none⟩) 64 z2] 23)).cell? ⟨w3.heap.size, J, none⟩ = some (.slice va nL vcap) := ((Kept.refl (fun _ => False) w6).alloc _).cell hHeld (fun h => h)
          try dsimp only []
          refine hK.out _ _ (by exact hS7) (fun hHeld => ?_)
          clear hK K
          try simp only [Act.put, List.setIfInBounds_toArray, List.set_cons_zero, List.set_cons_succ]
          refine till_call 10 (by kernel_rfl) rfl (fun K hK => ?_)
          have HVO7 := hid (show Own w6 23 1 (.slice va nL vcap) nL ((List.range nL).map fun m => .slice (some ⟨(zs J m).1, 0, none⟩) 64 (zs J m).2) from by have := HVO6.out; rw [HnL.out] at this; exact this)
          refine step_appd (some 75) rfl (by rfl) (.tmp 68) (.tmp 74) 40 rfl 23 (.slice none 0 0) 1 24 Try.underlying40 infoBytes rfl (by decide) (.slice va nL vcap) nL _ rfl (by exact HVO7.out.alloc _) _ rfl 1 [.slice (some ⟨zb, 0, none⟩) 64 z2] (by exact src_one _ rfl) (by have := HNL.out; have := HnL.out; simp only [maxLen]; omega) (by have := HNL.out; have := HnL.out; omega) ?_
          intro y1 y2 w8 ho8 hk8 hf8 _
          simp only [Act.put, List.setIfInBounds_toArray, List.set_cons_zero, List.set_cons_succ]
          have hne7 : ∀ g, (Value.slice va nL vcap).ownBlock = some g → g ≠ w3.heap.size := fun g hg e => by subst e; exact HVO7.out.ne_block HT6.out.wr.r (by decide) hg
          have hS8 := hk8.cell hS7 (fun he => hne7 _ he rfl)
          try dsimp only []
          refine hK.out _ _ (by exact hS8) (fun hHeld => ?_)
          clear hK K
          try simp only [Act.put, List.setIfInBounds_toArray, List.set_cons_zero, List.set_cons_succ]
          have f8 : w8.frozen? ⟨w3.heap.size, J, none⟩ = false := row_free ((hk8.block _ (by have := HT6.out.l; simp; omega) (fun he => hne7 _ he rfl)).trans (row_old HT6.out.wr.r _)) J
          obtain ⟨Y', vs', zs', hpush⟩ := HT6.out.push hJ8 (pad_len (by have := HCU.out.len; omega)) (HZ6.out.alloc (.cells #[.slice (some ⟨zb, 0, none⟩) 64 z2] 23)) HZB.out.1 HZB.out.2 ((Kept.refl _ _).alloc _) (by rw [HnL.out]; exact ho8) (by rw [HVS.out, HnL.out]; exact hk8) (by rw [HVS.out, HnL.out]; exact hf8)
          rw [HnL.out] at hpush
          have HPU := hid hpush
          clear ho8 hk8 hf8 hpush hne7 hS7
          refine till_pure 11 (some 76) (v := ?v111) (by decide) rfl (by kernel_rfl) (by kernel_rfl) (by kernel_rfl) (by kernel_rfl) (by decide) (fun _ _ _ h => h) (Or.inl ⟨by rfl, ?y111⟩) (by assumption) ?r111
          case y111 => (intro w hSw; clear hSw; go_simp; (try with_reducible rfl))
          simp only [Act.put, List.setIfInBounds_toArray, List.set_cons_zero, List.set_cons_succ]
          refine till_list [] (by kernel_rfl) (by kernel_rfl) (by decide) (by decide) ?_
          simp only [pickOps, List.getElem?_toArray, List.getElem?_cons_zero, List.getElem?_cons_succ]
          clear hHeld
          go_wp2
          go_roundw
          case rel =>
            have hms : moreStep ((more.take k).foldl moreStep S) x = tick (((more.take k).foldl moreStep S).add (J : Int) l') := by rw [moreStep, ← HJ.out, HCU.out.eq]
            refine ⟨k + 1, fun g => F5 g ∧ g < w5.heap.size, Y', vs', zs', by omega, by omega, by go_num, ?_⟩
            rw [mores_take HX.out, hms]
            have hw : wrote (tick (((more.take k).foldl moreStep S).add (J : Int) l')).since = fun i => if i = J then wrote ((more.take k).foldl moreStep S).since i ++ [pad l'] else wrote ((more.take k).foldl moreStep S).since i := by
              funext i
              show wrote (((more.take k).foldl moreStep S).since ++ [((J : Int), pad l')]) i = _
              rw [wrote_snoc]
              by_cases hi : i = J
              · subst hi; simp
              · rw [if_neg hi, if_neg (by simp; omega)]
            rw [hw]
            exact HPU.out
          case measure => simp [intOf]; omega
      · go_wp2_with fail
        go_meet
        exact ⟨k, F, Y, vs, zs, hk20, HT.out⟩
  case rest =>
    clear HL0 hW4 G3 K3 P3 Z3 P2 K2
    obtain ⟨n, F, Y, vs, zs, hn20, ht⟩ := hcut
    have HT := hid ht
    have HCA := hid (show Calm ((more.take n).foldl moreStep S) 101 from (calm_mores (more.take n) HC.out).mono (by simp; omega))
    have HLA := hid (mores_last (more.take n) S)
    obtain ⟨T, hT⟩ : ∃ T, (more.take n).foldl moreStep S = T := ⟨_, rfl⟩
    have HNL := hid (show ∀ i, (wrote T.since i).length ≤ 101 from fun i => Nat.le_trans (wrote_le _ _) (hT ▸ HCA.out.since))
    have HTL := hid (show T.last = S.last from by rw [← hT]; exact HLA.out.1)
    rw [hT] at HT HCA
    clear ht hT HLA
    go_wp2_with fail
    obtain ⟨mb, ao, cap, hpl⟩ := HT.out.p
    have HTS := hid (show (∀ k, (T.last k).length = 64) ∧ ∀ x ∈ T.since, x.2.length = 64 from ⟨hpl.l, hpl.s⟩)
    refine (arm_ok hpl HCA.out.off 1 (by decide)).mono ?_
    rintro e x1 ⟨rfl, hp1, hx1⟩
    have PX1 := hid hp1
    have KX1 := hid (show Kept F wc x1 from hx1.mono (fun g _ e => by subst e; exact hpl.m))
    clear hpl hp1 hx1
    go_wp2_with fail
    refine (flush_dead PX1.out (HCA.out.two.small (by omega)) HCA.out.off rfl).mono ?_
    rintro e x2 ⟨rfl, hp2, hx2⟩
    have PX2 := hid hp2
    have KX2 := hid (KX1.out.trans hx2)
    clear hp2 hx2
    go_wp2_with fail
    refine (on_any PX2.out).mono ?_
    rintro e x2' ⟨rfl, rfl⟩
    rw [show (!(tick { T with armed := 1 }).off) = false from rfl]
    have KW2 := hid (show Kept (fun _ => False) W x2' from HT.out.k.trans' KX2.out (fun g hg => .inr (HT.out.f g hg).1))
    go_wp2_with fail
    refine (fate_any (by exact (HKB.out.kept KW2.out (fun _ _ h => h)).bts) HKL.out).mono ?_
    rintro e x3 ⟨fa, fc, rfl, hb3, hf3, hx3⟩
    have BX3 := hid hb3; have FX3 := hid hf3; have KX3 := hid hx3
    clear hb3 hf3 hx3
    go_wp2_with fail
    obtain ⟨mb, ao, cap, hpl⟩ := PX2.out
    have HFb := hid (show ∀ g, F g → g < x2'.heap.size from fun g hg => Nat.lt_of_lt_of_le (HT.out.f g hg).2.1 KX2.out.size)
    refine (restart_ok (hpl.kept KX3.out (fun _ _ _ h => h)) (cut_off T) (by have := HCA.out.since; show T.since.length ≤ _; omega) BX3.out HKR.out (fun g hg hF => by have := FX3.out g hg; have := HFb.out g hF; omega) (fun g hg => Nat.lt_of_lt_of_le (HFb.out g hg) KX3.out.size)).mono ?_
    rintro e x4 ⟨rfl, hp4, hx4⟩
    have KX4 := hid ((KX2.out.trans (KX3.out.mono (fun _ _ h => h.elim))).trans hx4)
    have HT4 := hid (HT.out.step (show PlAt F x4 b (T.cut KB) from hp4) (fun g hg => .inl hg) KX4.out)
    have HCp := hid (HCA.out.two.cut KB)
    obtain ⟨C, hC⟩ : ∃ C, T.cut KB = C := ⟨_, rfl⟩
    have HCs := hid (show C.since = [] from hC ▸ rfl)
    have HHF := hid (show ∀ (i h : Nat), (h = 0 ∨ h = 32) → half h (C.page (i : Int)) = half h (S.page (i : Int)) ∨ ∃ p ∈ wrote T.since i, half h (C.page (i : Int)) = half h p from fun i h hh => by
      have := half_keepAll (K := KB) HTS.out.1 HTS.out.2 hh i T.since.length (Nat.le_refl _)
      rw [List.take_length] at this
      rw [← hC, cut_page, page_nil HS0.out, ← HTL.out]
      exact this)
    rw [hC] at HT4 HCp
    clear hC hpl hp4 hx4 HFb KX1 PX1 BX3 FX3 KX3 PX2 KX2 KX4 KW2
    go_wp2_with fail
    obtain ⟨mb, ao, cap, hpl⟩ := HT4.out.p
    refine (pages_ok hpl HCp.out.off (by rw [HCs.out]; simp) 8 HCp.out.n (by decide)).mono ?_
    rintro e x5 ⟨oa, oc, rfl, hg5, hx5⟩
    have CL := hid (show ∀ i, (C.page i).length = 64 from fun i => by rw [page_nil HCs.out]; exact hpl.l i)
    have G5 := hid hg5; have HT5 := hid (HT4.out.same hx5)
    clear hg5 hx5 hpl
    go_wp2_with fail
    go_loopw [106] (fun i wr => ∃ k : Nat, k ≤ 8 ∧ i = .int .i64 k ∧ Kept (fun _ => False) x5 wr) (fun i _ => 8 - (intOf i).toNat)
    case atStart => exact ⟨0, by decide, rfl, Kept.refl _ _⟩
    case round =>
      rename World => wA
      obtain ⟨k, hk, rfl, hkr⟩ := hrel
      have KR := hid hkr; clear hkr
      by_cases hlt : k < 8
      · have hltI : (k : Int) < 8 := by omega
        obtain ⟨og, oc', an, e10, y1, y2, y3, y4, y5⟩ := (G5.out.same KR.out).at CL.out k hlt
        simp only [Value.slice.injEq] at e10
        obtain ⟨rfl, _, rfl⟩ := e10
        obtain ⟨pg, pc', bn, e11, v1, v2, v3, v4, v5⟩ := (HT5.out.g.same KR.out).at SPL.out k hlt
        simp only [Value.slice.injEq] at e11
        obtain ⟨rfl, _, rfl⟩ := e11
        unfold maxLen at y2 v2
        have Y4 := hid y4; have V4 := hid v4; clear y4 y5 v4 v5
        have HL2 := hid (row_new wA (.cells #[.int .i64 0, .int .i64 32] 3))
        go_wp2_with fail
        go_loopw [111] (fun i wq => ∃ q : Nat, q ≤ 2 ∧ i = .int .i64 q ∧ Kept (fun _ => False) (wA.alloc (.cells #[.int .i64 0, .int .i64 32] 3)) wq) (fun i _ => 2 - (intOf i).toNat)
        case atStart => exact ⟨0, by decide, rfl, Kept.refl _ _⟩
        case round =>
          rename World => wq
          obtain ⟨q, hq, rfl, hkq⟩ := hrel
          have HKx := hid hkq
          have HK2 := hid (((Kept.refl (fun _ => False) wA).alloc (.cells #[.int .i64 0, .int .i64 32] 3)).trans hkq); clear hkq
          have c0 := HKx.out.cell (row_cell HL2.out 0 : (wA.alloc (.cells #[.int .i64 0, .int .i64 32] 3)).cell? ⟨wA.heap.size, 0, none⟩ = some (.int .i64 0)) (fun h => h)
          have c1 := HKx.out.cell (row_cell HL2.out 1 : (wA.alloc (.cells #[.int .i64 0, .int .i64 32] 3)).cell? ⟨wA.heap.size, 1, none⟩ = some (.int .i64 32)) (fun h => h)
          by_cases hq2 : q < 2
          · rcases (show q = 0 ∨ q = 1 by omega) with rfl | rfl
            · have wr32 : IntKind.i64.wrap 32 = 32 := by decide
              have wr64 : IntKind.i64.wrap 64 = 64 := by decide
              have hBa := pg_half (Y4.out) (CL.out k) (o := 0) (by decide)
              have hBb := pg_half (V4.out) (SPL.out k) (o := 0) (by decide)
              have HBa := hid hBa; have HBb := hid hBb
              clear hBa hBb
              go_wp2_with fail
              refine wp_region_till (fun w' => w'.cell? ⟨og, k, none⟩ = some (.slice (some ⟨an, 0, none⟩) 64 64) ∧ w'.cell? ⟨pg, k, none⟩ = some (.slice (some ⟨bn, 0, none⟩) 64 64)) 16 (by kernel_rfl) (by exact ⟨HK2.out.cell y3 (fun h => h), HK2.out.cell v3 (fun h => h)⟩) (fun hHeld => ?_)
              refine till_pure 0 (some 115) (v := ?v200) (by decide) rfl (by kernel_rfl) (by kernel_rfl) (by kernel_rfl) (by kernel_rfl) (by decide) (fun _ _ _ h => h) (Or.inl ⟨by rfl, ?y200⟩) (by assumption) ?r200
              case y200 => (intro w hSw; clear hSw; go_simp; (try with_reducible rfl))
              simp only [Act.put, List.setIfInBounds_toArray, List.set_cons_zero, List.set_cons_succ]
              refine till_pure 1 (some 116) (v := ?v201) (by decide) rfl (by kernel_rfl) (by kernel_rfl) (by kernel_rfl) (by kernel_rfl) (by decide) (fun _ _ _ h => h) (Or.inl ⟨by rfl, ?y201⟩) (by assumption) ?r201
              case y201 => (intro w hSw; clear hSw; go_simp; (try with_reducible rfl))
              simp only [Act.put, List.setIfInBounds_toArray, List.set_cons_zero, List.set_cons_succ]
              refine till_pure 2 (some 117) (v := ?v202) (by decide) rfl (by kernel_rfl) (by kernel_rfl) (by kernel_rfl) (by kernel_rfl) (by decide) (fun _ _ _ h => h) (Or.inl ⟨by rfl, ?y202⟩) (by assumption) ?r202
              case y202 => (intro w hSw; clear hSw; go_simp; (try with_reducible rfl))
              simp only [Act.put, List.setIfInBounds_toArray, List.set_cons_zero, List.set_cons_succ]
              refine till_load 3 (some 118) [7] (v := ?v203) (by decide) rfl (by kernel_rfl) (by kernel_rfl) (by kernel_rfl) (by kernel_rfl) (by kernel_rfl) (by decide) (by decide) (fun _ _ _ h => h) (Or.inl ⟨by rfl, ?y203⟩) (by assumption) ?r203
              case y203 => (intro w hSw; (try dsimp only at hSw); go_simp; (try with_reducible rfl))
              simp only [Act.put, List.setIfInBounds_toArray, List.set_cons_zero, List.set_cons_succ]
              refine till_pure 4 (some 119) (v := ?v204) (by decide) rfl (by kernel_rfl) (by kernel_rfl) (by kernel_rfl) (by kernel_rfl) (by decide) (fun _ _ _ h => h) (Or.inl ⟨by rfl, ?y204⟩) (by assumption) ?r204
              case y204 => (intro w hSw; clear hSw; go_simp; (try with_reducible rfl))
              simp only [Act.put, List.setIfInBounds_toArray, List.set_cons_zero, List.set_cons_succ]
              refine till_pure 5 (some 120) (v := ?v205) (by decide) rfl (by kernel_rfl) (by kernel_rfl) (by kernel_rfl) (by kernel_rfl) (by decide) (fun _ _ _ h => h) (Or.inl ⟨by rfl, ?y205⟩) (by assumption) ?r205
              case y205 => (intro w hSw; clear hSw; go_simp; (try with_reducible rfl))
              simp only [Act.put, List.setIfInBounds_toArray, List.set_cons_zero, List.set_cons_succ]
              refine till_pure 6 (some 121) (v := ?v206) (by decide) rfl (by kernel_rfl) (by kernel_rfl) (by kernel_rfl) (by kernel_rfl) (by decide) (fun _ _ _ h => h) (Or.inl ⟨by rfl, ?y206⟩) (by assumption) ?r206
              case y206 => (intro w hSw; clear hSw; go_simp; (try with_reducible rfl))
              simp only [Act.put, List.setIfInBounds_toArray, List.set_cons_zero, List.set_cons_succ]
              refine till_pure 7 (some 122) (v := ?v207) (by decide) rfl (by kernel_rfl) (by kernel_rfl) (by kernel_rfl) (by kernel_rfl) (by decide) (fun _ _ _ h => h) (Or.inl ⟨by rfl, ?y207⟩) (by assumption) ?r207
              case y207 => (intro w hSw; clear hSw; go_simp; (try with_reducible rfl))
              simp only [Act.put, List.setIfInBounds_toArray, List.set_cons_zero, List.set_cons_succ]
              refine till_pure 8 (some 123) (v := ?v208) (by decide) rfl (by kernel_rfl) (by kernel_rfl) (by kernel_rfl) (by kernel_rfl) (by decide) (fun _ _ _ h => h) (Or.inl ⟨by rfl, ?y208⟩) (by assumption) ?r208
              case y208 => (intro w hSw; clear hSw; go_simp; (try with_reducible rfl))
              simp only [Act.put, List.setIfInBounds_toArray, List.set_cons_zero, List.set_cons_succ]
              refine till_pure 9 (some 124) (v := ?v209) (by decide) rfl (by kernel_rfl) (by kernel_rfl) (by kernel_rfl) (by kernel_rfl) (by decide) (fun _ _ _ h => h) (Or.inl ⟨by rfl, ?y209⟩) (by assumption) ?r209
              case y209 => (intro w hSw; clear hSw; go_simp; (try with_reducible rfl))
              simp only [Act.put, List.setIfInBounds_toArray, List.set_cons_zero, List.set_cons_succ]
              refine till_pure 10 (some 125) (v := ?v210) (by decide) rfl (by kernel_rfl) (by kernel_rfl) (by kernel_rfl) (by kernel_rfl) (by decide) (fun _ _ _ h => h) (Or.inl ⟨by rfl, ?y210⟩) (by assumption) ?r210
              case y210 => (intro w hSw; clear hSw; go_simp; (try with_reducible rfl))
              simp only [Act.put, List.setIfInBounds_toArray, List.set_cons_zero, List.set_cons_succ]
              refine till_load 11 (some 126) [15] (v := ?v211) (by decide) rfl (by kernel_rfl) (by kernel_rfl) (by kernel_rfl) (by kernel_rfl) (by kernel_rfl) (by decide) (by decide) (fun _ _ _ h => h) (Or.inl ⟨by rfl, ?y211⟩) (by assumption) ?r211
              case y211 => (intro w hSw; (try dsimp only at hSw); go_simp; (try with_reducible rfl))
              simp only [Act.put, List.setIfInBounds_toArray, List.set_cons_zero, List.set_cons_succ]
              refine till_pure 12 (some 127) (v := ?v212) (by decide) rfl (by kernel_rfl) (by kernel_rfl) (by kernel_rfl) (by kernel_rfl) (by decide) (fun _ _ _ h => h) (Or.inl ⟨by rfl, ?y212⟩) (by assumption) ?r212
              case y212 => (intro w hSw; clear hSw; go_simp; (try with_reducible rfl))
              simp only [Act.put, List.setIfInBounds_toArray, List.set_cons_zero, List.set_cons_succ]
              refine till_pure 13 (some 128) (v := ?v213) (by decide) rfl (by kernel_rfl) (by kernel_rfl) (by kernel_rfl) (by kernel_rfl) (by decide) (fun _ _ _ h => h) (Or.inl ⟨by rfl, ?y213⟩) (by assumption) ?r213
              case y213 => (intro w hSw; clear hSw; go_simp; (try with_reducible rfl))
              simp only [Act.put, List.setIfInBounds_toArray, List.set_cons_zero, List.set_cons_succ]
              refine till_pure 14 (some 129) (v := ?v214) (by decide) rfl (by kernel_rfl) (by kernel_rfl) (by kernel_rfl) (by kernel_rfl) (by decide) (fun _ _ _ h => h) (Or.inl ⟨by rfl, ?y214⟩) (by assumption) ?r214
              case y214 => (intro w hSw; clear hSw; go_simp; (try with_reducible rfl))
              simp only [Act.put, List.setIfInBounds_toArray, List.set_cons_zero, List.set_cons_succ]
              refine till_pure 15 (some 130) (v := ?v215) (by decide) rfl (by kernel_rfl) (by kernel_rfl) (by kernel_rfl) (by kernel_rfl) (by decide) (fun _ _ _ h => h) (Or.inl ⟨by rfl, ?y215⟩) (by assumption) ?r215
              case y215 => (intro w hSw; clear hSw; go_simp; (try with_reducible rfl))
              simp only [Act.put, List.setIfInBounds_toArray, List.set_cons_zero, List.set_cons_succ]
              refine till_list [17] (by kernel_rfl) (by kernel_rfl) (by decide) (by decide) ?_
              simp only [pickOps, List.getElem?_toArray, List.getElem?_cons_zero, List.getElem?_cons_succ]
              clear hHeld
              go_wp2_with fail
              refine (same_bytes (by exact HBa.out.kept HK2.out.drew (fun _ _ h => h)) (by exact HBb.out.kept HK2.out.drew (fun _ _ h => h))).mono ?_
              rintro e z1 ⟨rfl, hz1⟩
              have Zq := hid (Kept.of_drew hz1)
              have Z1 := hid (HK2.out.trans Zq.out); clear hz1
              rw [← fnd_zero (C.page (k : Int)) (S.page (k : Int)) (wrote T.since k) 0]
              obtain ⟨va, vcap, hvs⟩ := (HT5.out.wr.o k hlt).isSlice
              have HWZ := hid (HT5.out.wr.kept ((KR.out.trans Z1.out)) (fun h => h) (fun _ _ h => h))
              have e3 : z1.cell? ⟨w3.heap.size, k, none⟩ = some (.slice va (wrote T.since k).length vcap) := (row_cell HWZ.out.r k).trans (by rw [← hvs]; simp [hlt])
              have HVS := hid hvs; clear hvs
              have hNL := HNL.out k
              go_wp2_with fail
              go_loopw [19, 136] (fun f i wq => ∃ m : Nat, m ≤ (wrote T.since k).length ∧ i = .int .i64 m ∧ f = .bool (fnd (C.page (k : Int)) (S.page (k : Int)) (wrote T.since k) 0 m) ∧ Kept (fun _ => False) z1 wq) (fun _ i _ => (wrote T.since k).length - (intOf i).toNat)
              case atStart => exact ⟨0, Nat.zero_le _, rfl, rfl, Kept.refl _ _⟩
              case round =>
                rename World => wq
                obtain ⟨m, hm, rfl, rfl, hq⟩ := hrel
                have KQ := hid hq; clear hq
                by_cases hlm : m < (wrote T.since k).length
                · obtain ⟨p, hp⟩ : ∃ p, (wrote T.since k)[m]? = some p := ⟨(wrote T.since k)[m], by simp [hlm]⟩
                  have HWQ := hid (HWZ.out.kept KQ.out (fun h => h) (fun _ _ h => h))
                  obtain ⟨hp64, _, hpo⟩ := HWQ.out.b k m p hlt hp
                  have hvo := HWQ.out.o k hlt
                  rw [HVS.out] at hvo
                  obtain ⟨vg, vc', ev, _, vm⟩ := hvo.some_of_pos (by omega)
                  simp only [Value.slice.injEq] at ev
                  obtain ⟨rfl, _, rfl⟩ := ev
                  obtain ⟨_, zc', ez, hz64, hzm⟩ := hpo.some_of_pos (by decide)
                  simp only [Value.slice.injEq] at ez
                  obtain ⟨_, _, rfl⟩ := ez
                  obtain ⟨zp, hzp⟩ : ∃ zp, zs k m = zp := ⟨_, rfl⟩
                  obtain ⟨zb, zc⟩ := zp
                  rw [hzp] at hpo hz64 hzm
                  dsimp only at hpo hz64 hzm
                  have em : wq.cell? ⟨vg, m, none⟩ = some (.slice (some ⟨zb, 0, none⟩) 64 zc) := by
                    rw [hvo.cells rfl m (by simp; omega)]
                    simp [hzp]
                  have HBp := hid (own_half hpo hp64 (o := 0) (by decide))
                  have HKa := hid (HBa.out.kept (Z1.out.trans KQ.out) (fun _ _ h => h))
                  have HF := hid (fnd_succ (a := C.page (k : Int)) (b := S.page (k : Int)) (h := 0) hp)
                  have hne : ¬ zc = 32 := by omega
                  have hne' : ¬ zc = 0 := by omega
                  have hzi : (32 : Int) ≤ (zc : Int) := by omega
                  have hzi2 : (64 : Int) ≤ (zc : Int) := by omega
                  unfold maxLen at vm hzm
                  have y3q := (Z1.out.trans KQ.out).cell y3 (fun h => h)
                  clear hpo hvo hp
                  cases hfd : fnd (C.page (k : Int)) (S.page (k : Int)) (wrote T.since k) 0 m
                  · rw [hfd] at HF
                    clear hfd
                    go_wp2_with fail
                    refine wp_region_till (fun w' => w'.cell? ⟨og, k, none⟩ = some (.slice (some ⟨an, 0, none⟩) 64 64)) 15 (by kernel_rfl) (by exact y3q) (fun hHeld => ?_)
                    refine till_pure 0 (some 140) (v := ?v300) (by decide) rfl (by kernel_rfl) (by kernel_rfl) (by kernel_rfl) (by kernel_rfl) (by decide) (fun _ _ _ h => h) (Or.inl ⟨by rfl, ?y300⟩) (by assumption) ?r300
                    case y300 => (intro w hSw; clear hSw; go_simp; (try with_reducible rfl))
                    simp only [Act.put, List.setIfInBounds_toArray, List.set_cons_zero, List.set_cons_succ]
                    refine till_pure 1 (some 141) (v := ?v301) (by decide) rfl (by kernel_rfl) (by kernel_rfl) (by kernel_rfl) (by kernel_rfl) (by decide) (fun _ _ _ h => h) (Or.inl ⟨by rfl, ?y301⟩) (by assumption) ?r301
                    case y301 => (intro w hSw; clear hSw; go_simp; (try with_reducible rfl))
                    simp only [Act.put, List.setIfInBounds_toArray, List.set_cons_zero, List.set_cons_succ]
                    refine till_pure 2 (some 142) (v := ?v302) (by decide) rfl (by kernel_rfl) (by kernel_rfl) (by kernel_rfl) (by kernel_rfl) (by decide) (fun _ _ _ h => h) (Or.inl ⟨by rfl, ?y302⟩) (by assumption) ?r302
                    case y302 => (intro w hSw; clear hSw; go_simp; (try with_reducible rfl))
                    simp only [Act.put, List.setIfInBounds_toArray, List.set_cons_zero, List.set_cons_succ]
                    refine till_pure 3 (some 143) (v := ?v303) (by decide) rfl (by kernel_rfl) (by kernel_rfl) (by kernel_rfl) (by kernel_rfl) (by decide) (fun _ _ _ h => h) (Or.inl ⟨by rfl, ?y303⟩) (by assumption) ?r303
                    case y303 => (intro w hSw; clear hSw; go_simp; (try with_reducible rfl))
                    simp only [Act.put, List.setIfInBounds_toArray, List.set_cons_zero, List.set_cons_succ]
                    refine till_pure 4 (some 144) (v := ?v304) (by decide) rfl (by kernel_rfl) (by kernel_rfl) (by kernel_rfl) (by kernel_rfl) (by decide) (fun _ _ _ h => h) (Or.inl ⟨by rfl, ?y304⟩) (by assumption) ?r304
                    case y304 => (intro w hSw; clear hSw; go_simp; (try with_reducible rfl))
                    simp only [Act.put, List.setIfInBounds_toArray, List.set_cons_zero, List.set_cons_succ]
                    refine till_load 5 (some 145) [9] (v := ?v305) (by decide) rfl (by kernel_rfl) (by kernel_rfl) (by kernel_rfl) (by kernel_rfl) (by kernel_rfl) (by decide) (by decide) (fun _ _ _ h => h) (Or.inl ⟨by rfl, ?y305⟩) (by assumption) ?r305
                    case y305 => (intro w hSw; (try dsimp only at hSw); go_simp; (try with_reducible rfl))
                    simp only [Act.put, List.setIfInBounds_toArray, List.set_cons_zero, List.set_cons_succ]
                    refine till_pure 6 (some 146) (v := ?v306) (by decide) rfl (by kernel_rfl) (by kernel_rfl) (by kernel_rfl) (by kernel_rfl) (by decide) (fun _ _ _ h => h) (Or.inl ⟨by rfl, ?y306⟩) (by assumption) ?r306
                    case y306 => (intro w hSw; clear hSw; go_simp; (try with_reducible rfl))
                    simp only [Act.put, List.setIfInBounds_toArray, List.set_cons_zero, List.set_cons_succ]
                    refine till_pure 7 (some 147) (v := ?v307) (by decide) rfl (by kernel_rfl) (by kernel_rfl) (by kernel_rfl) (by kernel_rfl) (by decide) (fun _ _ _ h => h) (Or.inl ⟨by rfl, ?y307⟩) (by assumption) ?r307
                    case y307 => (intro w hSw; clear hSw; go_simp; (try with_reducible rfl))
                    simp only [Act.put, List.setIfInBounds_toArray, List.set_cons_zero, List.set_cons_succ]
                    refine till_pure 8 (some 148) (v := ?v308) (by decide) rfl (by kernel_rfl) (by kernel_rfl) (by kernel_rfl) (by kernel_rfl) (by decide) (fun _ _ _ h => h) (Or.inl ⟨by rfl, ?y308⟩) (by assumption) ?r308
                    case y308 => (intro w hSw; clear hSw; go_simp; (try with_reducible rfl))
                    simp only [Act.put, List.setIfInBounds_toArray, List.set_cons_zero, List.set_cons_succ]
                    refine till_pure 9 (some 149) (v := ?v309) (by decide) rfl (by kernel_rfl) (by kernel_rfl) (by kernel_rfl) (by kernel_rfl) (by decide) (fun _ _ _ h => h) (Or.inl ⟨by rfl, ?y309⟩) (by assumption) ?r309
                    case y309 => (intro w hSw; clear hSw; go_simp; (try with_reducible rfl))
                    simp only [Act.put, List.setIfInBounds_toArray, List.set_cons_zero, List.set_cons_succ]
                    refine till_pure 10 (some 150) (v := ?v310) (by decide) rfl (by kernel_rfl) (by kernel_rfl) (by kernel_rfl) (by kernel_rfl) (by decide) (fun _ _ _ h => h) (Or.inl ⟨by rfl, ?y310⟩) (by assumption) ?r310
                    case y310 => (intro w hSw; clear hSw; go_simp; (try with_reducible rfl))
                    simp only [Act.put, List.setIfInBounds_toArray, List.set_cons_zero, List.set_cons_succ]
                    refine till_pure 11 (some 151) (v := ?v311) (by decide) rfl (by kernel_rfl) (by kernel_rfl) (by kernel_rfl) (by kernel_rfl) (by decide) (fun _ _ _ h => h) (Or.inl ⟨by rfl, ?y311⟩) (by assumption) ?r311
                    case y311 => (intro w hSw; clear hSw; go_simp; (try with_reducible rfl))
                    simp only [Act.put, List.setIfInBounds_toArray, List.set_cons_zero, List.set_cons_succ]
                    refine till_pure 12 (some 152) (v := ?v312) (by decide) rfl (by kernel_rfl) (by kernel_rfl) (by kernel_rfl) (by kernel_rfl) (by decide) (fun _ _ _ h => h) (Or.inl ⟨by rfl, ?y312⟩) (by assumption) ?r312
                    case y312 => (intro w hSw; clear hSw; go_simp; (try with_reducible rfl))
                    simp only [Act.put, List.setIfInBounds_toArray, List.set_cons_zero, List.set_cons_succ]
                    refine till_pure 13 (some 153) (v := ?v313) (by decide) rfl (by kernel_rfl) (by kernel_rfl) (by kernel_rfl) (by kernel_rfl) (by decide) (fun _ _ _ h => h) (Or.inl ⟨by rfl, ?y313⟩) (by assumption) ?r313
                    case y313 => (intro w hSw; clear hSw; go_simp; (try with_reducible rfl))
                    simp only [Act.put, List.setIfInBounds_toArray, List.set_cons_zero, List.set_cons_succ]
                    refine till_pure 14 (some 154) (v := ?v314) (by decide) rfl (by kernel_rfl) (by kernel_rfl) (by kernel_rfl) (by kernel_rfl) (by decide) (fun _ _ _ h => h) (Or.inl ⟨by rfl, ?y314⟩) (by assumption) ?r314
                    case y314 => (intro w hSw; clear hSw; go_simp; (try with_reducible rfl))
                    simp only [Act.put, List.setIfInBounds_toArray, List.set_cons_zero, List.set_cons_succ]
                    refine till_list [16, 17] (by kernel_rfl) (by kernel_rfl) (by decide) (by decide) ?_
                    simp only [pickOps, List.getElem?_toArray, List.getElem?_cons_zero, List.getElem?_cons_succ]
                    clear hHeld
                    go_wp2_with fail
                    refine (same_bytes (by exact HKa.out.kept (Kept.refl (fun _ => False) wq).drew (fun _ _ h => h)) (by exact HBp.out.kept (Kept.refl (fun _ => False) wq).drew (fun _ _ h => h))).mono ?_
                    rintro e z2 ⟨rfl, hz2⟩
                    have Z2 := hid (KQ.out.trans (Kept.of_drew hz2)); clear hz2
                    rw [show decide (half 0 (C.page (k : Int)) = half 0 p) = fnd (C.page (k : Int)) (S.page (k : Int)) (wrote T.since k) 0 (m + 1) from by rw [HF.out]; simp]
                    go_wp2
                    go_roundw
                    case rel => exact ⟨m + 1, by omega, by go_num, rfl, Z2.out⟩
                    case measure => simp [intOf]; omega
                  · rw [hfd] at HF
                    clear hfd
                    have HF2 := hid (show fnd (C.page (k : Int)) (S.page (k : Int)) (wrote T.since k) 0 (m + 1) = true from by rw [HF.out]; simp)
                    go_wp2_with fail
                    refine wp_region_till (fun _ => True) 100 (by kernel_rfl) trivial (fun hHeld => ?_)
                    refine till_pure 0 (some 140) (v := ?v400) (by decide) rfl (by kernel_rfl) (by kernel_rfl) (by kernel_rfl) (by kernel_rfl) (by decide) (fun _ _ _ h => h) (Or.inl ⟨by rfl, ?y400⟩) (by assumption) ?r400
                    case y400 => (intro w hSw; clear hSw; go_simp; (try with_reducible rfl))
                    simp only [Act.put, List.setIfInBounds_toArray, List.set_cons_zero, List.set_cons_succ]
                    refine till_pure 1 (some 141) (v := ?v401) (by decide) rfl (by kernel_rfl) (by kernel_rfl) (by kernel_rfl) (by kernel_rfl) (by decide) (fun _ _ _ h => h) (Or.inl ⟨by rfl, ?y401⟩) (by assumption) ?r401
                    case y401 => (intro w hSw; clear hSw; go_simp; (try with_reducible rfl))
                    simp only [Act.put, List.setIfInBounds_toArray, List.set_cons_zero, List.set_cons_succ]
                    refine till_pure 2 (some 142) (v := undef) (by decide) rfl (by kernel_rfl) (by kernel_rfl) (by kernel_rfl) (by kernel_rfl) (by decide) (fun _ _ _ h => h) (Or.inr ⟨by rfl, rfl⟩) (by assumption) ?_
                    simp only [Act.put, List.setIfInBounds_toArray, List.set_cons_zero, List.set_cons_succ]
                    refine till_pure 3 (some 143) (v := undef) (by decide) rfl (by kernel_rfl) (by kernel_rfl) (by kernel_rfl) (by kernel_rfl) (by decide) (fun _ _ _ h => h) (Or.inr ⟨by rfl, rfl⟩) (by assumption) ?_
                    simp only [Act.put, List.setIfInBounds_toArray, List.set_cons_zero, List.set_cons_succ]
                    refine till_pure 4 (some 144) (v := undef) (by decide) rfl (by kernel_rfl) (by kernel_rfl) (by kernel_rfl) (by kernel_rfl) (by decide) (fun _ _ _ h => h) (Or.inr ⟨by rfl, rfl⟩) (by assumption) ?_
                    simp only [Act.put, List.setIfInBounds_toArray, List.set_cons_zero, List.set_cons_succ]
                    refine till_pure 5 (some 145) (v := undef) (by decide) rfl (by kernel_rfl) (by kernel_rfl) (by kernel_rfl) (by kernel_rfl) (by decide) (fun _ _ _ h => h) (Or.inr ⟨by rfl, rfl⟩) (by assumption) ?_
                    simp only [Act.put, List.setIfInBounds_toArray, List.set_cons_zero, List.set_cons_succ]
                    refine till_pure 6 (some 146) (v := undef) (by decide) rfl (by kernel_rfl) (by kernel_rfl) (by kernel_rfl) (by kernel_rfl) (by decide) (fun _ _ _ h => h) (Or.inr ⟨by rfl, rfl⟩) (by assumption) ?_
                    simp only [Act.put, List.setIfInBounds_toArray, List.set_cons_zero, List.set_cons_succ]
                    refine till_pure 7 (some 147) (v := undef) (by decide) rfl (by kernel_rfl) (by kernel_rfl) (by kernel_rfl) (by kernel_rfl) (by decide) (fun _ _ _ h => h) (Or.inr ⟨by rfl, rfl⟩) (by assumption) ?_
                    simp only [Act.put, List.setIfInBounds_toArray, List.set_cons_zero, List.set_cons_succ]
                    refine till_pure 8 (some 148) (v := undef) (by decide) rfl (by kernel_rfl) (by kernel_rfl) (by kernel_rfl) (by kernel_rfl) (by decide) (fun _ _ _ h => h) (Or.inr ⟨by rfl, rfl⟩) (by assumption) ?_
                    simp only [Act.put, List.setIfInBounds_toArray, List.set_cons_zero, List.set_cons_succ]
                    refine till_pure 9 (some 149) (v := undef) (by decide) rfl (by kernel_rfl) (by kernel_rfl) (by kernel_rfl) (by kernel_rfl) (by decide) (fun _ _ _ h => h) (Or.inr ⟨by rfl, rfl⟩) (by assumption) ?_
                    simp only [Act.put, List.setIfInBounds_toArray, List.set_cons_zero, List.set_cons_succ]
                    refine till_pure 10 (some 150) (v := undef) (by decide) rfl (by kernel_rfl) (by kernel_rfl) (by kernel_rfl) (by kernel_rfl) (by decide) (fun _ _ _ h => h) (Or.inr ⟨by rfl, rfl⟩) (by assumption) ?_
                    simp only [Act.put, List.setIfInBounds_toArray, List.set_cons_zero, List.set_cons_succ]
                    refine till_pure 11 (some 151) (v := undef) (by decide) rfl (by kernel_rfl) (by kernel_rfl) (by kernel_rfl) (by kernel_rfl) (by decide) (fun _ _ _ h => h) (Or.inr ⟨by rfl, rfl⟩) (by assumption) ?_
                    simp only [Act.put, List.setIfInBounds_toArray, List.set_cons_zero, List.set_cons_succ]
                    refine till_pure 12 (some 152) (v := undef) (by decide) rfl (by kernel_rfl) (by kernel_rfl) (by kernel_rfl) (by kernel_rfl) (by decide) (fun _ _ _ h => h) (Or.inr ⟨by rfl, rfl⟩) (by assumption) ?_
                    simp only [Act.put, List.setIfInBounds_toArray, List.set_cons_zero, List.set_cons_succ]
                    refine till_pure 13 (some 153) (v := undef) (by decide) rfl (by kernel_rfl) (by kernel_rfl) (by kernel_rfl) (by kernel_rfl) (by decide) (fun _ _ _ h => h) (Or.inr ⟨by rfl, rfl⟩) (by assumption) ?_
                    simp only [Act.put, List.setIfInBounds_toArray, List.set_cons_zero, List.set_cons_succ]
                    refine till_pure 14 (some 154) (v := undef) (by decide) rfl (by kernel_rfl) (by kernel_rfl) (by kernel_rfl) (by kernel_rfl) (by decide) (fun _ _ _ h => h) (Or.inr ⟨by rfl, rfl⟩) (by assumption) ?_
                    simp only [Act.put, List.setIfInBounds_toArray, List.set_cons_zero, List.set_cons_succ]
                    refine till_pure 15 (some 155) (v := undef) (by decide) rfl (by kernel_rfl) (by kernel_rfl) (by kernel_rfl) (by kernel_rfl) (by decide) (fun _ _ _ h => h) (Or.inr ⟨by rfl, rfl⟩) (by assumption) ?_
                    simp only [Act.put, List.setIfInBounds_toArray, List.set_cons_zero, List.set_cons_succ]
                    refine till_pure 16 (some 156) (v := ?v416) (by decide) rfl (by kernel_rfl) (by kernel_rfl) (by kernel_rfl) (by kernel_rfl) (by decide) (fun _ _ _ h => h) (Or.inl ⟨by rfl, ?y416⟩) (by assumption) ?r416
                    case y416 => (intro w hSw; clear hSw; go_simp; (try with_reducible rfl))
                    simp only [Act.put, List.setIfInBounds_toArray, List.set_cons_zero, List.set_cons_succ]
                    refine till_pure 17 (some 19) (v := ?v417) (by decide) rfl (by kernel_rfl) (by kernel_rfl) (by kernel_rfl) (by kernel_rfl) (by decide) (fun _ _ _ h => h) (Or.inl ⟨by rfl, ?y417⟩) (by assumption) ?r417
                    case y417 => (intro w hSw; clear hSw; go_simp; (try with_reducible rfl))
                    simp only [Act.put, List.setIfInBounds_toArray, List.set_cons_zero, List.set_cons_succ]
                    refine till_done (by kernel_rfl) ?_ _
                    clear hHeld
                    go_wp2
                    go_roundw
                    case rel => exact ⟨m + 1, by omega, by go_num, by rw [HF2.out], KQ.out.drew⟩
                    case measure => simp [intOf]; omega
                · obtain rfl : m = (wrote T.since k).length := by omega
                  have hfa := fnd_all (HHF.out k 0 (by decide))
                  rw [hfa]
                  clear hfa
                  go_wp2
                  go_roundw
                  case rel => first | exact ⟨1, by decide, by rfl, (HKx.out.trans Zq.out).trans KQ.out⟩ | exact ⟨_, _, _, _, _, _, _, _, _, _, _, _, _, _, _, _, _, _, _, _, _, _, _, _, _, _, _, _, _, _, _, _, _, _, _, _, _, _, _, _, _, _, _, _, _, _, _, _, _, _, _, _, _, _, ⟨1, by decide, by rfl, (HKx.out.trans Zq.out).trans KQ.out⟩, rfl⟩
                  case measure => simp [intOf]
            · have wr32 : IntKind.i64.wrap 32 = 32 := by decide
              have wr64 : IntKind.i64.wrap 64 = 64 := by decide
              have hBa := pg_half (Y4.out) (CL.out k) (o := 32) (by decide)
              have hBb := pg_half (V4.out) (SPL.out k) (o := 32) (by decide)
              have HBa := hid hBa; have HBb := hid hBb
              clear hBa hBb
              go_wp2_with fail
              refine wp_region_till (fun w' => w'.cell? ⟨og, k, none⟩ = some (.slice (some ⟨an, 0, none⟩) 64 64) ∧ w'.cell? ⟨pg, k, none⟩ = some (.slice (some ⟨bn, 0, none⟩) 64 64)) 16 (by kernel_rfl) (by exact ⟨HK2.out.cell y3 (fun h => h), HK2.out.cell v3 (fun h => h)⟩) (fun hHeld => ?_)
              refine till_pure 0 (some 115) (v := ?v500) (by decide) rfl (by kernel_rfl) (by kernel_rfl) (by kernel_rfl) (by kernel_rfl) (by decide) (fun _ _ _ h => h) (Or.inl ⟨by rfl, ?y500⟩) (by assumption) ?r500
              case y500 => (intro w hSw; clear hSw; go_simp; (try with_reducible rfl))
              simp only [Act.put, List.setIfInBounds_toArray, List.set_cons_zero, List.set_cons_succ]
              refine till_pure 1 (some 116) (v := ?v501) (by decide) rfl (by kernel_rfl) (by kernel_rfl) (by kernel_rfl) (by kernel_rfl) (by decide) (fun _ _ _ h => h) (Or.inl ⟨by rfl, ?y501⟩) (by assumption) ?r501
              case y501 => (intro w hSw; clear hSw; go_simp; (try with_reducible rfl))
              simp only [Act.put, List.setIfInBounds_toArray, List.set_cons_zero, List.set_cons_succ]
              refine till_pure 2 (some 117) (v := ?v502) (by decide) rfl (by kernel_rfl) (by kernel_rfl) (by kernel_rfl) (by kernel_rfl) (by decide) (fun _ _ _ h => h) (Or.inl ⟨by rfl, ?y502⟩) (by assumption) ?r502
              case y502 => (intro w hSw; clear hSw; go_simp; (try with_reducible rfl))
              simp only [Act.put, List.setIfInBounds_toArray, List.set_cons_zero, List.set_cons_succ]
              refine till_load 3 (some 118) [7] (v := ?v503) (by decide) rfl (by kernel_rfl) (by kernel_rfl) (by kernel_rfl) (by kernel_rfl) (by kernel_rfl) (by decide) (by decide) (fun _ _ _ h => h) (Or.inl ⟨by rfl, ?y503⟩) (by assumption) ?r503
              case y503 => (intro w hSw; (try dsimp only at hSw); go_simp; (try with_reducible rfl))
              simp only [Act.put, List.setIfInBounds_toArray, List.set_cons_zero, List.set_cons_succ]
              refine till_pure 4 (some 119) (v := ?v504) (by decide) rfl (by kernel_rfl) (by kernel_rfl) (by kernel_rfl) (by kernel_rfl) (by decide) (fun _ _ _ h => h) (Or.inl ⟨by rfl, ?y504⟩) (by assumption) ?r504
              case y504 => (intro w hSw; clear hSw; go_simp; (try with_reducible rfl))
              simp only [Act.put, List.setIfInBounds_toArray, List.set_cons_zero, List.set_cons_succ]
              refine till_pure 5 (some 120) (v := ?v505) (by decide) rfl (by kernel_rfl) (by kernel_rfl) (by kernel_rfl) (by kernel_rfl) (by decide) (fun _ _ _ h => h) (Or.inl ⟨by rfl, ?y505⟩) (by assumption) ?r505
              case y505 => (intro w hSw; clear hSw; go_simp; (try with_reducible rfl))
              simp only [Act.put, List.setIfInBounds_toArray, List.set_cons_zero, List.set_cons_succ]
              refine till_pure 6 (some 121) (v := ?v506) (by decide) rfl (by kernel_rfl) (by kernel_rfl) (by kernel_rfl) (by kernel_rfl) (by decide) (fun _ _ _ h => h) (Or.inl ⟨by rfl, ?y506⟩) (by assumption) ?r506
              case y506 => (intro w hSw; clear hSw; go_simp; (try with_reducible rfl))
              simp only [Act.put, List.setIfInBounds_toArray, List.set_cons_zero, List.set_cons_succ]
              refine till_pure 7 (some 122) (v := ?v507) (by decide) rfl (by kernel_rfl) (by kernel_rfl) (by kernel_rfl) (by kernel_rfl) (by decide) (fun _ _ _ h => h) (Or.inl ⟨by rfl, ?y507⟩) (by assumption) ?r507
              case y507 => (intro w hSw; clear hSw; go_simp; (try with_reducible rfl))
              simp only [Act.put, List.setIfInBounds_toArray, List.set_cons_zero, List.set_cons_succ]
              refine till_pure 8 (some 123) (v := ?v508) (by decide) rfl (by kernel_rfl) (by kernel_rfl) (by kernel_rfl) (by kernel_rfl) (by decide) (fun _ _ _ h => h) (Or.inl ⟨by rfl, ?y508⟩) (by assumption) ?r508
              case y508 => (intro w hSw; clear hSw; go_simp; (try with_reducible rfl))
              simp only [Act.put, List.setIfInBounds_toArray, List.set_cons_zero, List.set_cons_succ]
              refine till_pure 9 (some 124) (v := ?v509) (by decide) rfl (by kernel_rfl) (by kernel_rfl) (by kernel_rfl) (by kernel_rfl) (by decide) (fun _ _ _ h => h) (Or.inl ⟨by rfl, ?y509⟩) (by assumption) ?r509
              case y509 => (intro w hSw; clear hSw; go_simp; (try with_reducible rfl))
              simp only [Act.put, List.setIfInBounds_toArray, List.set_cons_zero, List.set_cons_succ]
              refine till_pure 10 (some 125) (v := ?v510) (by decide) rfl (by kernel_rfl) (by kernel_rfl) (by kernel_rfl) (by kernel_rfl) (by decide) (fun _ _ _ h => h) (Or.inl ⟨by rfl, ?y510⟩) (by assumption) ?r510
              case y510 => (intro w hSw; clear hSw; go_simp; (try with_reducible rfl))
              simp only [Act.put, List.setIfInBounds_toArray, List.set_cons_zero, List.set_cons_succ]
              refine till_load 11 (some 126) [15] (v := ?v511) (by decide) rfl (by kernel_rfl) (by kernel_rfl) (by kernel_rfl) (by kernel_rfl) (by kernel_rfl) (by decide) (by decide) (fun _ _ _ h => h) (Or.inl ⟨by rfl, ?y511⟩) (by assumption) ?r511
              case y511 => (intro w hSw; (try dsimp only at hSw); go_simp; (try with_reducible rfl))
              simp only [Act.put, List.setIfInBounds_toArray, List.set_cons_zero, List.set_cons_succ]
              refine till_pure 12 (some 127) (v := ?v512) (by decide) rfl (by kernel_rfl) (by kernel_rfl) (by kernel_rfl) (by kernel_rfl) (by decide) (fun _ _ _ h => h) (Or.inl ⟨by rfl, ?y512⟩) (by assumption) ?r512
              case y512 => (intro w hSw; clear hSw; go_simp; (try with_reducible rfl))
              simp only [Act.put, List.setIfInBounds_toArray, List.set_cons_zero, List.set_cons_succ]
              refine till_pure 13 (some 128) (v := ?v513) (by decide) rfl (by kernel_rfl) (by kernel_rfl) (by kernel_rfl) (by kernel_rfl) (by decide) (fun _ _ _ h => h) (Or.inl ⟨by rfl, ?y513⟩) (by assumption) ?r513
              case y513 => (intro w hSw; clear hSw; go_simp; (try with_reducible rfl))
              simp only [Act.put, List.setIfInBounds_toArray, List.set_cons_zero, List.set_cons_succ]
              refine till_pure 14 (some 129) (v := ?v514) (by decide) rfl (by kernel_rfl) (by kernel_rfl) (by kernel_rfl) (by kernel_rfl) (by decide) (fun _ _ _ h => h) (Or.inl ⟨by rfl, ?y514⟩) (by assumption) ?r514
              case y514 => (intro w hSw; clear hSw; go_simp; (try with_reducible rfl))
              simp only [Act.put, List.setIfInBounds_toArray, List.set_cons_zero, List.set_cons_succ]
              refine till_pure 15 (some 130) (v := ?v515) (by decide) rfl (by kernel_rfl) (by kernel_rfl) (by kernel_rfl) (by kernel_rfl) (by decide) (fun _ _ _ h => h) (Or.inl ⟨by rfl, ?y515⟩) (by assumption) ?r515
              case y515 => (intro w hSw; clear hSw; go_simp; (try with_reducible rfl))
              simp only [Act.put, List.setIfInBounds_toArray, List.set_cons_zero, List.set_cons_succ]
              refine till_list [17] (by kernel_rfl) (by kernel_rfl) (by decide) (by decide) ?_
              simp only [pickOps, List.getElem?_toArray, List.getElem?_cons_zero, List.getElem?_cons_succ]
              clear hHeld
              go_wp2_with fail
              refine (same_bytes (by exact HBa.out.kept HK2.out.drew (fun _ _ h => h)) (by exact HBb.out.kept HK2.out.drew (fun _ _ h => h))).mono ?_
              rintro e z1 ⟨rfl, hz1⟩
              have Zq := hid (Kept.of_drew hz1)
              have Z1 := hid (HK2.out.trans Zq.out); clear hz1
              rw [← fnd_zero (C.page (k : Int)) (S.page (k : Int)) (wrote T.since k) 32]
              obtain ⟨va, vcap, hvs⟩ := (HT5.out.wr.o k hlt).isSlice
              have HWZ := hid (HT5.out.wr.kept ((KR.out.trans Z1.out)) (fun h => h) (fun _ _ h => h))
              have e3 : z1.cell? ⟨w3.heap.size, k, none⟩ = some (.slice va (wrote T.since k).length vcap) := (row_cell HWZ.out.r k).trans (by rw [← hvs]; simp [hlt])
              have HVS := hid hvs; clear hvs
              have hNL := HNL.out k
              go_wp2_with fail
              go_loopw [19, 136] (fun f i wq => ∃ m : Nat, m ≤ (wrote T.since k).length ∧ i = .int .i64 m ∧ f = .bool (fnd (C.page (k : Int)) (S.page (k : Int)) (wrote T.since k) 32 m) ∧ Kept (fun _ => False) z1 wq) (fun _ i _ => (wrote T.since k).length - (intOf i).toNat)
              case atStart => exact ⟨0, Nat.zero_le _, rfl, rfl, Kept.refl _ _⟩
              case round =>
                rename World => wq
                obtain ⟨m, hm, rfl, rfl, hq⟩ := hrel
                have KQ := hid hq; clear hq
                by_cases hlm : m < (wrote T.since k).length
                · obtain ⟨p, hp⟩ : ∃ p, (wrote T.since k)[m]? = some p := ⟨(wrote T.since k)[m], by simp [hlm]⟩
                  have HWQ := hid (HWZ.out.kept KQ.out (fun h => h) (fun _ _ h => h))
                  obtain ⟨hp64, _, hpo⟩ := HWQ.out.b k m p hlt hp
                  have hvo := HWQ.out.o k hlt
                  rw [HVS.out] at hvo
                  obtain ⟨vg, vc', ev, _, vm⟩ := hvo.some_of_pos (by omega)
                  simp only [Value.slice.injEq] at ev
                  obtain ⟨rfl, _, rfl⟩ := ev
                  obtain ⟨_, zc', ez, hz64, hzm⟩ := hpo.some_of_pos (by decide)
                  simp only [Value.slice.injEq] at ez
                  obtain ⟨_, _, rfl⟩ := ez
                  obtain ⟨zp, hzp⟩ : ∃ zp, zs k m = zp := ⟨_, rfl⟩
                  obtain ⟨zb, zc⟩ := zp
                  rw [hzp] at hpo hz64 hzm
                  dsimp only at hpo hz64 hzm
                  have em : wq.cell? ⟨vg, m, none⟩ = some (.slice (some ⟨zb, 0, none⟩) 64 zc) := by
                    rw [hvo.cells rfl m (by simp; omega)]
                    simp [hzp]
                  have HBp := hid (own_half hpo hp64 (o := 32) (by decide))
                  have HKa := hid (HBa.out.kept (Z1.out.trans KQ.out) (fun _ _ h => h))
                  have HF := hid (fnd_succ (a := C.page (k : Int)) (b := S.page (k : Int)) (h := 32) hp)
                  have hne : ¬ zc = 32 := by omega
                  have hne' : ¬ zc = 0 := by omega
                  have hzi : (32 : Int) ≤ (zc : Int) := by omega
                  have hzi2 : (64 : Int) ≤ (zc : Int) := by omega
                  unfold maxLen at vm hzm
                  have y3q := (Z1.out.trans KQ.out).cell y3 (fun h => h)
                  clear hpo hvo hp
                  cases hfd : fnd (C.page (k : Int)) (S.page (k : Int)) (wrote T.since k) 32 m
                  · rw [hfd] at HF
                    clear hfd
                    go_wp2_with fail
                    refine wp_region_till (fun w' => w'.cell? ⟨og, k, none⟩ = some (.slice (some ⟨an, 0, none⟩) 64 64)) 15 (by kernel_rfl) (by exact y3q) (fun hHeld => ?_)
                    refine till_pure 0 (some 140) (v := ?v600) (by decide) rfl (by kernel_rfl) (by kernel_rfl) (by kernel_rfl) (by kernel_rfl) (by decide) (fun _ _ _ h => h) (Or.inl ⟨by rfl, ?y600⟩) (by assumption) ?r600
                    case y600 => (intro w hSw; clear hSw; go_simp; (try with_reducible rfl))
                    simp only [Act.put, List.setIfInBounds_toArray, List.set_cons_zero, List.set_cons_succ]
                    refine till_pure 1 (some 141) (v := ?v601) (by decide) rfl (by kernel_rfl) (by kernel_rfl) (by kernel_rfl) (by kernel_rfl) (by decide) (fun _ _ _ h => h) (Or.inl ⟨by rfl, ?y601⟩) (by assumption) ?r601
                    case y601 => (intro w hSw; clear hSw; go_simp; (try with_reducible rfl))
                    simp only [Act.put, List.setIfInBounds_toArray, List.set_cons_zero, List.set_cons_succ]
                    refine till_pure 2 (some 142) (v := ?v602) (by decide) rfl (by kernel_rfl) (by kernel_rfl) (by kernel_rfl) (by kernel_rfl) (by decide) (fun _ _ _ h => h) (Or.inl ⟨by rfl, ?y602⟩) (by assumption) ?r602
                    case y602 => (intro w hSw; clear hSw; go_simp; (try with_reducible rfl))
                    simp only [Act.put, List.setIfInBounds_toArray, List.set_cons_zero, List.set_cons_succ]
                    refine till_pure 3 (some 143) (v := ?v603) (by decide) rfl (by kernel_rfl) (by kernel_rfl) (by kernel_rfl) (by kernel_rfl) (by decide) (fun _ _ _ h => h) (Or.inl ⟨by rfl, ?y603⟩) (by assumption) ?r603
                    case y603 => (intro w hSw; clear hSw; go_simp; (try with_reducible rfl))
                    simp only [Act.put, List.setIfInBounds_toArray, List.set_cons_zero, List.set_cons_succ]
                    refine till_pure 4 (some 144) (v := ?v604) (by decide) rfl (by kernel_rfl) (by kernel_rfl) (by kernel_rfl) (by kernel_rfl) (by decide) (fun _ _ _ h => h) (Or.inl ⟨by rfl, ?y604⟩) (by assumption) ?r604
                    case y604 => (intro w hSw; clear hSw; go_simp; (try with_reducible rfl))
                    simp only [Act.put, List.setIfInBounds_toArray, List.set_cons_zero, List.set_cons_succ]
                    refine till_load 5 (some 145) [9] (v := ?v605) (by decide) rfl (by kernel_rfl) (by kernel_rfl) (by kernel_rfl) (by kernel_rfl) (by kernel_rfl) (by decide) (by decide) (fun _ _ _ h => h) (Or.inl ⟨by rfl, ?y605⟩) (by assumption) ?r605
                    case y605 => (intro w hSw; (try dsimp only at hSw); go_simp; (try with_reducible rfl))
                    simp only [Act.put, List.setIfInBounds_toArray, List.set_cons_zero, List.set_cons_succ]
                    refine till_pure 6 (some 146) (v := ?v606) (by decide) rfl (by kernel_rfl) (by kernel_rfl) (by kernel_rfl) (by kernel_rfl) (by decide) (fun _ _ _ h => h) (Or.inl ⟨by rfl, ?y606⟩) (by assumption) ?r606
                    case y606 => (intro w hSw; clear hSw; go_simp; (try with_reducible rfl))
                    simp only [Act.put, List.setIfInBounds_toArray, List.set_cons_zero, List.set_cons_succ]
                    refine till_pure 7 (some 147) (v := ?v607) (by decide) rfl (by kernel_rfl) (by kernel_rfl) (by kernel_rfl) (by kernel_rfl) (by decide) (fun _ _ _ h => h) (Or.inl ⟨by rfl, ?y607⟩) (by assumption) ?r607
                    case y607 => (intro w hSw; clear hSw; go_simp; (try with_reducible rfl))
                    simp only [Act.put, List.setIfInBounds_toArray, List.set_cons_zero, List.set_cons_succ]
                    refine till_pure 8 (some 148) (v := ?v608) (by decide) rfl (by kernel_rfl) (by kernel_rfl) (by kernel_rfl) (by kernel_rfl) (by decide) (fun _ _ _ h => h) (Or.inl ⟨by rfl, ?y608⟩) (by assumption) ?r608
                    case y608 => (intro w hSw; clear hSw; go_simp; (try with_reducible rfl))
                    simp only [Act.put, List.setIfInBounds_toArray, List.set_cons_zero, List.set_cons_succ]
                    refine till_pure 9 (some 149) (v := ?v609) (by decide) rfl (by kernel_rfl) (by kernel_rfl) (by kernel_rfl) (by kernel_rfl) (by decide) (fun _ _ _ h => h) (Or.inl ⟨by rfl, ?y609⟩) (by assumption) ?r609
                    case y609 => (intro w hSw; clear hSw; go_simp; (try with_reducible rfl))
                    simp only [Act.put, List.setIfInBounds_toArray, List.set_cons_zero, List.set_cons_succ]
                    refine till_pure 10 (some 150) (v := ?v610) (by decide) rfl (by kernel_rfl) (by kernel_rfl) (by kernel_rfl) (by kernel_rfl) (by decide) (fun _ _ _ h => h) (Or.inl ⟨by rfl, ?y610⟩) (by assumption) ?r610
                    case y610 => (intro w hSw; clear hSw; go_simp; (try with_reducible rfl))
                    simp only [Act.put, List.setIfInBounds_toArray, List.set_cons_zero, List.set_cons_succ]
                    refine till_pure 11 (some 151) (v := ?v611) (by decide) rfl (by kernel_rfl) (by kernel_rfl) (by kernel_rfl) (by kernel_rfl) (by decide) (fun _ _ _ h => h) (Or.inl ⟨by rfl, ?y611⟩) (by assumption) ?r611
                    case y611 => (intro w hSw; clear hSw; go_simp; (try with_reducible rfl))
                    simp only [Act.put, List.setIfInBounds_toArray, List.set_cons_zero, List.set_cons_succ]
                    refine till_pure 12 (some 152) (v := ?v612) (by decide) rfl (by kernel_rfl) (by kernel_rfl) (by kernel_rfl) (by kernel_rfl) (by decide) (fun _ _ _ h => h) (Or.inl ⟨by rfl, ?y612⟩) (by assumption) ?r612
                    case y612 => (intro w hSw; clear hSw; go_simp; (try with_reducible rfl))
                    simp only [Act.put, List.setIfInBounds_toArray, List.set_cons_zero, List.set_cons_succ]
                    refine till_pure 13 (some 153) (v := ?v613) (by decide) rfl (by kernel_rfl) (by kernel_rfl) (by kernel_rfl) (by kernel_rfl) (by decide) (fun _ _ _ h => h) (Or.inl ⟨by rfl, ?y613⟩) (by assumption) ?r613
                    case y613 => (intro w hSw; clear hSw; go_simp; (try with_reducible rfl))
                    simp only [Act.put, List.setIfInBounds_toArray, List.set_cons_zero, List.set_cons_succ]
                    refine till_pure 14 (some 154) (v := ?v614) (by decide) rfl (by kernel_rfl) (by kernel_rfl) (by kernel_rfl) (by kernel_rfl) (by decide) (fun _ _ _ h => h) (Or.inl ⟨by rfl, ?y614⟩) (by assumption) ?r614
                    case y614 => (intro w hSw; clear hSw; go_simp; (try with_reducible rfl))
                    simp only [Act.put, List.setIfInBounds_toArray, List.set_cons_zero, List.set_cons_succ]
                    refine till_list [16, 17] (by kernel_rfl) (by kernel_rfl) (by decide) (by decide) ?_
                    simp only [pickOps, List.getElem?_toArray, List.getElem?_cons_zero, List.getElem?_cons_succ]
                    clear hHeld
                    go_wp2_with fail
                    refine (same_bytes (by exact HKa.out.kept (Kept.refl (fun _ => False) wq).drew (fun _ _ h => h)) (by exact HBp.out.kept (Kept.refl (fun _ => False) wq).drew (fun _ _ h => h))).mono ?_
                    rintro e z2 ⟨rfl, hz2⟩
                    have Z2 := hid (KQ.out.trans (Kept.of_drew hz2)); clear hz2
                    rw [show decide (half 32 (C.page (k : Int)) = half 32 p) = fnd (C.page (k : Int)) (S.page (k : Int)) (wrote T.since k) 32 (m + 1) from by rw [HF.out]; simp]
                    go_wp2
                    go_roundw
                    case rel => exact ⟨m + 1, by omega, by go_num, rfl, Z2.out⟩
                    case measure => simp [intOf]; omega
                  · rw [hfd] at HF
                    clear hfd
                    have HF2 := hid (show fnd (C.page (k : Int)) (S.page (k : Int)) (wrote T.since k) 32 (m + 1) = true from by rw [HF.out]; simp)
                    go_wp2_with fail
                    refine wp_region_till (fun _ => True) 100 (by kernel_rfl) trivial (fun hHeld => ?_)
                    refine till_pure 0 (some 140) (v := ?v700) (by decide) rfl (by kernel_rfl) (by kernel_rfl) (by kernel_rfl) (by kernel_rfl) (by decide) (fun _ _ _ h => h) (Or.inl ⟨by rfl, ?y700⟩) (by assumption) ?r700
                    case y700 => (intro w hSw; clear hSw; go_simp; (try with_reducible rfl))
                    simp only [Act.put, List.setIfInBounds_toArray, List.set_cons_zero, List.set_cons_succ]
                    refine till_pure 1 (some 141) (v := ?v701) (by decide) rfl (by kernel_rfl) (by kernel_rfl) (by kernel_rfl) (by kernel_rfl) (by decide) (fun _ _ _ h => h) (Or.inl ⟨by rfl, ?y701⟩) (by assumption) ?r701
                    case y701 => (intro w hSw; clear hSw; go_simp; (try with_reducible rfl))
                    simp only [Act.put, List.setIfInBounds_toArray, List.set_cons_zero, List.set_cons_succ]
                    refine till_pure 2 (some 142) (v := undef) (by decide) rfl (by kernel_rfl) (by kernel_rfl) (by kernel_rfl) (by kernel_rfl) (by decide) (fun _ _ _ h => h) (Or.inr ⟨by rfl, rfl⟩) (by assumption) ?_
                    simp only [Act.put, List.setIfInBounds_toArray, List.set_cons_zero, List.set_cons_succ]
                    refine till_pure 3 (some 143) (v := undef) (by decide) rfl (by kernel_rfl) (by kernel_rfl) (by kernel_rfl) (by kernel_rfl) (by decide) (fun _ _ _ h => h) (Or.inr ⟨by rfl, rfl⟩) (by assumption) ?_
                    simp only [Act.put, List.setIfInBounds_toArray, List.set_cons_zero, List.set_cons_succ]
                    refine till_pure 4 (some 144) (v := undef) (by decide) rfl (by kernel_rfl) (by kernel_rfl) (by kernel_rfl) (by kernel_rfl) (by decide) (fun _ _ _ h => h) (Or.inr ⟨by rfl, rfl⟩) (by assumption) ?_
                    simp only [Act.put, List.setIfInBounds_toArray, List.set_cons_zero, List.set_cons_succ]
                    refine till_pure 5 (some 145) (v := undef) (by decide) rfl (by kernel_rfl) (by kernel_rfl) (by kernel_rfl) (by kernel_rfl) (by decide) (fun _ _ _ h => h) (Or.inr ⟨by rfl, rfl⟩) (by assumption) ?_
                    simp only [Act.put, List.setIfInBounds_toArray, List.set_cons_zero, List.set_cons_succ]
                    refine till_pure 6 (some 146) (v := undef) (by decide) rfl (by kernel_rfl) (by kernel_rfl) (by kernel_rfl) (by kernel_rfl) (by decide) (fun _ _ _ h => h) (Or.inr ⟨by rfl, rfl⟩) (by assumption) ?_
                    simp only [Act.put, List.setIfInBounds_toArray, List.set_cons_zero, List.set_cons_succ]
                    refine till_pure 7 (some 147) (v := undef) (by decide) rfl (by kernel_rfl) (by kernel_rfl) (by kernel_rfl) (by kernel_rfl) (by decide) (fun _ _ _ h => h) (Or.inr ⟨by rfl, rfl⟩) (by assumption) ?_
                    simp only [Act.put, List.setIfInBounds_toArray, List.set_cons_zero, List.set_cons_succ]
                    refine till_pure 8 (some 148) (v := undef) (by decide) rfl (by kernel_rfl) (by kernel_rfl) (by kernel_rfl) (by kernel_rfl) (by decide) (fun _ _ _ h => h) (Or.inr ⟨by rfl, rfl⟩) (by assumption) ?_
                    simp only [Act.put, List.setIfInBounds_toArray, List.set_cons_zero, List.set_cons_succ]
                    refine till_pure 9 (some 149) (v := undef) (by decide) rfl (by kernel_rfl) (by kernel_rfl) (by kernel_rfl) (by kernel_rfl) (by decide) (fun _ _ _ h => h) (Or.inr ⟨by rfl, rfl⟩) (by assumption) ?_
                    simp only [Act.put, List.setIfInBounds_toArray, List.set_cons_zero, List.set_cons_succ]
                    refine till_pure 10 (some 150) (v := undef) (by decide) rfl (by kernel_rfl) (by kernel_rfl) (by kernel_rfl) (by kernel_rfl) (by decide) (fun _ _ _ h => h) (Or.inr ⟨by rfl, rfl⟩) (by assumption) ?_
                    simp only [Act.put, List.setIfInBounds_toArray, List.set_cons_zero, List.set_cons_succ]
                    refine till_pure 11 (some 151) (v := undef) (by decide) rfl (by kernel_rfl) (by kernel_rfl) (by kernel_rfl) (by kernel_rfl) (by decide) (fun _ _ _ h => h) (Or.inr ⟨by rfl, rfl⟩) (by assumption) ?_
                    simp only [Act.put, List.setIfInBounds_toArray, List.set_cons_zero, List.set_cons_succ]
                    refine till_pure 12 (some 152) (v := undef) (by decide) rfl (by kernel_rfl) (by kernel_rfl) (by kernel_rfl) (by kernel_rfl) (by decide) (fun _ _ _ h => h) (Or.inr ⟨by rfl, rfl⟩) (by assumption) ?_
                    simp only [Act.put, List.setIfInBounds_toArray, List.set_cons_zero, List.set_cons_succ]
                    refine till_pure 13 (some 153) (v := undef) (by decide) rfl (by kernel_rfl) (by kernel_rfl) (by kernel_rfl) (by kernel_rfl) (by decide) (fun _ _ _ h => h) (Or.inr ⟨by rfl, rfl⟩) (by assumption) ?_
                    simp only [Act.put, List.setIfInBounds_toArray, List.set_cons_zero, List.set_cons_succ]
                    refine till_pure 14 (some 154) (v := undef) (by decide) rfl (by kernel_rfl) (by kernel_rfl) (by kernel_rfl) (by kernel_rfl) (by decide) (fun _ _ _ h => h) (Or.inr ⟨by rfl, rfl⟩) (by assumption) ?_
                    simp only [Act.put, List.setIfInBounds_toArray, List.set_cons_zero, List.set_cons_succ]
                    refine till_pure 15 (some 155) (v := undef) (by decide) rfl (by kernel_rfl) (by kernel_rfl) (by kernel_rfl) (by kernel_rfl) (by decide) (fun _ _ _ h => h) (Or.inr ⟨by rfl, rfl⟩) (by assumption) ?_
                    simp only [Act.put, List.setIfInBounds_toArray, List.set_cons_zero, List.set_cons_succ]
                    refine till_pure 16 (some 156) (v := ?v716) (by decide) rfl (by kernel_rfl) (by kernel_rfl) (by kernel_rfl) (by kernel_rfl) (by decide) (fun _ _ _ h => h) (Or.inl ⟨by rfl, ?y716⟩) (by assumption) ?r716
                    case y716 => (intro w hSw; clear hSw; go_simp; (try with_reducible rfl))
                    simp only [Act.put, List.setIfInBounds_toArray, List.set_cons_zero, List.set_cons_succ]
                    refine till_pure 17 (some 19) (v := ?v717) (by decide) rfl (by kernel_rfl) (by kernel_rfl) (by kernel_rfl) (by kernel_rfl) (by decide) (fun _ _ _ h => h) (Or.inl ⟨by rfl, ?y717⟩) (by assumption) ?r717
                    case y717 => (intro w hSw; clear hSw; go_simp; (try with_reducible rfl))
                    simp only [Act.put, List.setIfInBounds_toArray, List.set_cons_zero, List.set_cons_succ]
                    refine till_done (by kernel_rfl) ?_ _
                    clear hHeld
                    go_wp2
                    go_roundw
                    case rel => exact ⟨m + 1, by omega, by go_num, by rw [HF2.out], KQ.out.drew⟩
                    case measure => simp [intOf]; omega
                · obtain rfl : m = (wrote T.since k).length := by omega
                  have hfa := fnd_all (HHF.out k 32 (by decide))
                  rw [hfa]
                  clear hfa
                  go_wp2
                  go_roundw
                  case rel => first | exact ⟨2, by decide, by rfl, (HKx.out.trans Zq.out).trans KQ.out⟩ | exact ⟨_, _, _, _, _, _, _, _, _, _, _, _, _, _, _, _, _, _, _, _, _, _, _, _, _, _, _, _, _, _, _, _, _, _, _, _, _, _, _, _, _, _, _, _, _, _, _, _, _, _, _, _, _, _, ⟨2, by decide, by rfl, (HKx.out.trans Zq.out).trans KQ.out⟩, rfl⟩
                  case measure => simp [intOf]
          · obtain rfl : q = 2 := by omega
            go_wp2
            go_roundw
            case rel => first | exact ⟨k + 1, by omega, by go_num, KR.out.trans HK2.out⟩ | ((repeat apply Exists.intro) <;> exact ⟨⟨k + 1, by omega, by go_num, KR.out.trans HK2.out⟩, rfl⟩)
            case measure => simp [intOf]; omega
      · obtain rfl : k = 8 := by omega
        go_wp2
        go_ret
        exact ⟨rfl, (HT5.out.k.trans KR.out).below (Nat.le_refl _) (fun _ h => h.elim)⟩
end Go.Proofs.Ytnfdkpjklenllaa
