/- some: a plate behind a script. -/
import Derived.Test.YtnfdkpjklenllaaI

namespace Go.Proofs.Ytnfdkpjklenllaa
open Go.RowKit

theorem PlIn.bound {F : Nat → Prop} {w : World} {b mb cap : Nat} {ao : Option Addr} {S : Plt} (h : PlIn F w b mb ao cap S) : PlIn (fun g => F g ∧ g < w.heap.size) w b mb ao cap S :=
  ⟨h.r, h.q, h.o, ⟨h.m, row_lt h.r⟩, ⟨h.f, by obtain ⟨L, q, _⟩ := h.q; exact q.lt⟩, fun g hg => ⟨h.g g hg, h.o.lt hg⟩, h.l, h.s⟩
theorem PlAt.bound {F : Nat → Prop} {w : World} {b : Nat} {S : Plt} (h : PlAt F w b S) : PlAt (fun g => F g ∧ g < w.heap.size) w b S := by
  obtain ⟨mb, ao, cap, h⟩ := h
  exact ⟨mb, ao, cap, h.bound⟩

theorem fold_take {ops : List OpD} {k : Nat} {x : OpD} (h : ops[k]? = some x) : (ops.take (k + 1)).foldl someStep (newP 8) = someStep ((ops.take k).foldl someStep (newP 8)) x := by
  rw [List.take_add_one, h]; simp
set_option maxRecDepth 100000 in
set_option maxHeartbeats 4000000 in
theorem some_ok {w : World} {v : Value} {ops : List OpD} (h : ScrAt w v ops) :
    Calls Try.prog 9 #[v] w fun e w' => ∃ b, e = .returned (.tuple #[.pointer (some ⟨b, 0, none⟩), .bool true]) ∧ PlAt (fun g => w.heap.size ≤ g) w' b (someS ops) ∧ Kept (fun _ => False) w w' := by
  have H := hid h
  obtain ⟨ao, c, rfl, hc, hcm, _⟩ := h
  unfold maxLen at hcm
  have hlen : ops.length ≤ 9223372036854775807 := by omega
  clear hc hcm
  go_enter Try.func9, Try.ntmps9
  go_wp2_with fail
  refine (new_ok w 8 (by decide) (by decide)).mono ?_
  rintro e w1 ⟨b, rfl, hp, hk, hb⟩
  have HP := hid hp; have HK := hid hk; clear hp hk hb
  go_wp2_with fail
  go_loopw [16] (fun i wr => ∃ k : Nat, k ≤ ops.length ∧ k ≤ 30 ∧ i = .int .i64 k ∧ PlAt (fun g => w.heap.size ≤ g) wr b ((ops.take k).foldl someStep (newP 8)) ∧ Kept (fun _ => False) w wr) (fun i _ => ops.length - (intOf i).toNat)
  case atStart => exact ⟨0, Nat.zero_le _, by decide, rfl, HP.out, HK.out⟩
  case round =>
    clear HP HK
    obtain ⟨k, hk, hk30, rfl, hp, hkp⟩ := hrel
    have HP := hid hp; have HK := hid hkp; clear hp hkp
    have HPB := hid HP.out.bound
    have HCA := hid (show Calm ((ops.take k).foldl someStep (newP 8)) (2 * k) from (calm_fold (ops.take k) calm_new).mono (by simp; omega))
    by_cases hlt : k < ops.length
    · obtain ⟨x, hx⟩ : ∃ x, ops[k]? = some x := ⟨ops[k], by simp [hlt]⟩
      obtain ⟨ao', c', e0, _, _, hat⟩ := H.out.same HK.out
      simp only [Value.slice.injEq] at e0
      obtain ⟨rfl, _, rfl⟩ := e0
      obtain ⟨ob, off, bo, bc, rfl, d0, d1, d2, hok⟩ := hat k x hx
      have HX := hid hx; have HOK := hid hok
      clear hat hx hok
      have HB := hid (row_new wr (.cells #[.int .u8 x.kd, .int .i64 x.i, .slice bo x.l.length bc] 29))
      obtain ⟨W2, hW2⟩ : ∃ W2, wr.alloc (.cells #[.int .u8 x.kd, .int .i64 x.i, .slice bo x.l.length bc] 29) = W2 := ⟨_, rfl⟩
      have HW2 := hid hW2
      have HB := hid (show W2.heap[wr.heap.size]? = some (.cells #[.int .u8 x.kd, .int .i64 x.i, .slice bo x.l.length bc] 29 (0, 0)) from by rw [← hW2]; exact row_new _ _)
      have HKW := hid (show Kept (fun _ => False) wr W2 from by rw [← hW2]; exact (Kept.refl _ _).alloc _)
      have e0 : W2.cell? ⟨wr.heap.size, 0, none⟩ = some (.int .u8 x.kd) := row_cell HB.out 0
      have e1 : W2.cell? ⟨wr.heap.size, 1, none⟩ = some (.int .i64 x.i) := row_cell HB.out 1
      have e2 : W2.cell? ⟨wr.heap.size, 2, none⟩ = some (.slice bo x.l.length bc) := row_cell HB.out 2
      by_cases h30 : (30 : Int) ≤ (k : Int)
      · have HE := hid (show ops.take k = ops.take 30 from by rw [show k = 30 by omega])
        clear e1 e2 e0
        obtain ⟨mb, ao, cap, hpl⟩ := HPB.out
        have HP3 := hid (hpl.kept HKW.out (fun _ _ _ h => h)); clear hpl
        go_wp2_with fail
        refine (flush_ok HP3.out (HCA.out.small (by omega)) HCA.out.off (by have := HCA.out.since; omega) HCA.out.tick.off).mono ?_
        rintro e w4 ⟨rfl, hp4, hk4⟩
        have HP4 := hid hp4; have HK4 := hid hk4; clear hp4 hk4
        go_wp2
        go_returns
        refine ⟨b, rfl, ?_, (HK.out.trans HKW.out).trans' HK4.out (fun g hg => .inr hg.1)⟩
        have := HP4.out.mono (G := fun g => w.heap.size ≤ g) (fun g hg => hg.1)
        rw [HE.out] at this
        exact this
      · obtain ⟨l', hl'⟩ : ∃ l', x.l.take 64 = l' := ⟨_, rfl⟩
        have hll : l'.length = min 64 x.l.length := by rw [← hl']; simp
        have hm1 : l'.length ≤ x.l.length := by omega
        have hm2 : l'.length ≤ bc := by obtain ⟨_, _, e, ⟨q, _⟩, _⟩ := HOK.out.b; simp only [Value.slice.injEq] at e; obtain ⟨_, _, rfl⟩ := e; omega
        have hmi : (if (64 : Int) < (x.l.length : Int) then 64 else (x.l.length : Int)) = (l'.length : Int) := by split <;> omega
        have hx64 : x.l.length ≤ 9223372036854775807 := by have := HOK.out.l; omega
        have hbc : bc ≤ 9223372036854775807 := by obtain ⟨_, _, e, ⟨_, q⟩, _⟩ := HOK.out.b; simp only [Value.slice.injEq] at e; obtain ⟨_, _, rfl⟩ := e; unfold maxLen at q; omega
        have HLL := hid hll
        have HBL := hid (show Byt wr (.slice bo l'.length bc) l' from by have := HOK.out.b.take l'.length hm1; rw [show x.l.take l'.length = l' from by rw [← hl']; simp] at this; exact this)
        have HL := hid hl'
        clear hl' hll
        obtain ⟨j, hj⟩ : ∃ j, j = x.i % 8 := ⟨_, rfl⟩
        have hj0 : 0 ≤ j := by omega
        have hj8 : j < 8 := by omega
        have hu : (IntKind.u64.wrap x.i).tmod 8 = j := by
          rw [Int.tmod_eq_emod_of_nonneg (by simp [IntKind.wrap, IntKind.signed, IntKind.bits]; omega)]
          simp [IntKind.wrap, IntKind.signed, IntKind.bits]; omega
        have hju : IntKind.u64.wrap j = j := by simp [IntKind.wrap, IntKind.signed, IntKind.bits]; omega
        have hji : IntKind.i64.wrap j = j := IntWalk.i64_in _ (by omega)
        have HJ := hid hj; clear hj
        by_cases k0 : x.kd = 0
        · have k0' : (x.kd == 0) = true := by simp [k0]
          have k1' : (x.kd == 1) = false := by simp [k0]
          have HK0 := hid k0; clear k0
          go_wp2_with fail
          refine wp_region_till (fun w' => w'.cell? ⟨wr.heap.size, 1, none⟩ = some (.int .i64 x.i) ∧ w'.cell? ⟨wr.heap.size, 2, none⟩ = some (.slice bo x.l.length bc)) 14 (by kernel_rfl) (by exact ⟨e1, e2⟩) (fun hHeld => ?_)
          refine till_pure 0 (some 26) (v := ?v100) (by decide) rfl (by kernel_rfl) (by kernel_rfl) (by kernel_rfl) (by kernel_rfl) (by decide) (fun _ _ _ h => h) (Or.inl ⟨by rfl, ?y100⟩) (by assumption) ?r100
          case y100 => (intro w hSw; clear hSw; go_simp; (try with_reducible rfl))
          simp only [Act.put, List.setIfInBounds_toArray, List.set_cons_zero, List.set_cons_succ]
          refine till_pure 1 (some 27) (v := ?v101) (by decide) rfl (by kernel_rfl) (by kernel_rfl) (by kernel_rfl) (by kernel_rfl) (by decide) (fun _ _ _ h => h) (Or.inl ⟨by rfl, ?y101⟩) (by assumption) ?r101
          case y101 => (intro w hSw; clear hSw; go_simp; (try with_reducible rfl))
          simp only [Act.put, List.setIfInBounds_toArray, List.set_cons_zero, List.set_cons_succ]
          refine till_load 2 (some 28) [5, 4, 3] (v := ?v102) (by decide) rfl (by kernel_rfl) (by kernel_rfl) (by kernel_rfl) (by kernel_rfl) (by kernel_rfl) (by decide) (by decide) (fun _ _ _ h => h) (Or.inl ⟨by rfl, ?y102⟩) (by assumption) ?r102
          case y102 => (intro w hSw; (try dsimp only at hSw); go_simp; (try with_reducible rfl))
          simp only [Act.put, List.setIfInBounds_toArray, List.set_cons_zero, List.set_cons_succ]
          refine till_pure 3 (some 29) (v := ?v103) (by decide) rfl (by kernel_rfl) (by kernel_rfl) (by kernel_rfl) (by kernel_rfl) (by decide) (fun _ _ _ h => h) (Or.inl ⟨by rfl, ?y103⟩) (by assumption) ?r103
          case y103 => (intro w hSw; clear hSw; go_simp; (try with_reducible rfl))
          simp only [Act.put, List.setIfInBounds_toArray, List.set_cons_zero, List.set_cons_succ]
          refine till_pure 4 (some 30) (v := ?v104) (by decide) rfl (by kernel_rfl) (by kernel_rfl) (by kernel_rfl) (by kernel_rfl) (by decide) (fun _ _ _ h => h) (Or.inl ⟨by rfl, ?y104⟩) (by assumption) ?r104
          case y104 => (intro w hSw; clear hSw; go_simp; (try with_reducible rfl))
          simp only [Act.put, List.setIfInBounds_toArray, List.set_cons_zero, List.set_cons_succ]
          refine till_pure 5 (some 31) (v := ?v105) (by decide) rfl (by kernel_rfl) (by kernel_rfl) (by kernel_rfl) (by kernel_rfl) (by decide) (fun _ _ _ h => h) (Or.inl ⟨by rfl, ?y105⟩) (by assumption) ?r105
          case y105 => (intro w hSw; clear hSw; go_simp; (try with_reducible rfl))
          simp only [Act.put, List.setIfInBounds_toArray, List.set_cons_zero, List.set_cons_succ]
          refine till_pure 6 (some 32) (v := ?v106) (by decide) rfl (by kernel_rfl) (by kernel_rfl) (by kernel_rfl) (by kernel_rfl) (by decide) (fun _ _ _ h => h) (Or.inl ⟨by rfl, ?y106⟩) (by assumption) ?r106
          case y106 => (intro w hSw; clear hSw; go_simp; (try with_reducible rfl))
          simp only [Act.put, List.setIfInBounds_toArray, List.set_cons_zero, List.set_cons_succ]
          refine till_load 7 (some 33) [13, 12] (v := ?v107) (by decide) rfl (by kernel_rfl) (by kernel_rfl) (by kernel_rfl) (by kernel_rfl) (by kernel_rfl) (by decide) (by decide) (fun _ _ _ h => h) (Or.inl ⟨by rfl, ?y107⟩) (by assumption) ?r107
          case y107 => (intro w hSw; (try dsimp only at hSw); go_simp; (try with_reducible rfl))
          simp only [Act.put, List.setIfInBounds_toArray, List.set_cons_zero, List.set_cons_succ]
          refine till_pure 8 (some 34) (v := ?v108) (by decide) rfl (by kernel_rfl) (by kernel_rfl) (by kernel_rfl) (by kernel_rfl) (by decide) (fun _ _ _ h => h) (Or.inl ⟨by rfl, ?y108⟩) (by assumption) ?r108
          case y108 => (intro w hSw; clear hSw; go_simp; (try with_reducible rfl))
          simp only [Act.put, List.setIfInBounds_toArray, List.set_cons_zero, List.set_cons_succ]
          refine till_load 9 (some 35) [13, 12, 11, 10] (v := ?v109) (by decide) rfl (by kernel_rfl) (by kernel_rfl) (by kernel_rfl) (by kernel_rfl) (by kernel_rfl) (by decide) (by decide) (fun _ _ _ h => h) (Or.inl ⟨by rfl, ?y109⟩) (by assumption) ?r109
          case y109 => (intro w hSw; (try dsimp only at hSw); go_simp; (try with_reducible rfl))
          simp only [Act.put, List.setIfInBounds_toArray, List.set_cons_zero, List.set_cons_succ]
          refine till_pure 10 (some 36) (v := ?v110) (by decide) rfl (by kernel_rfl) (by kernel_rfl) (by kernel_rfl) (by kernel_rfl) (by decide) (fun _ _ _ h => h) (Or.inl ⟨by rfl, ?y110⟩) (by assumption) ?r110
          case y110 => (intro w hSw; clear hSw; go_simp; (try with_reducible rfl))
          simp only [Act.put, List.setIfInBounds_toArray, List.set_cons_zero, List.set_cons_succ]
          refine till_pure 11 (some 37) (v := ?v111) (by decide) rfl (by kernel_rfl) (by kernel_rfl) (by kernel_rfl) (by kernel_rfl) (by decide) (fun _ _ _ h => h) (Or.inl ⟨by rfl, ?y111⟩) (by assumption) ?r111
          case y111 => (intro w hSw; clear hSw; go_simp; (try with_reducible rfl))
          simp only [Act.put, List.setIfInBounds_toArray, List.set_cons_zero, List.set_cons_succ]
          refine till_pure 12 (some 38) (v := ?v112) (by decide) rfl (by kernel_rfl) (by kernel_rfl) (by kernel_rfl) (by kernel_rfl) (by decide) (fun _ _ _ h => h) (Or.inl ⟨by rfl, ?y112⟩) (by assumption) ?r112
          case y112 => (intro w hSw; clear hSw; go_simp; (try with_reducible rfl))
          simp only [Act.put, List.setIfInBounds_toArray, List.set_cons_zero, List.set_cons_succ]
          refine till_call 13 (by kernel_rfl) rfl (fun K hK => ?_)
          go_simp
          refine (twin_any (l := l') (by exact (HBL.out.kept HKW.out (fun _ _ h => h)).bts) (by have := HLL.out; omega)).mono ?_
          rintro e w3 ⟨pa, pc, rfl, ho3, hf3, hk3⟩
          have HO3 := hid ho3; have HK3 := hid (Kept.of_drew hk3); clear ho3 hf3
          try dsimp only []
          refine hK.out _ _ (by exact ⟨hk3.cell hHeld.1 (fun h => h), hk3.cell hHeld.2 (fun h => h)⟩) (fun hHeld => ?_)
          clear hK K
          try simp only [Act.put, List.setIfInBounds_toArray, List.set_cons_zero, List.set_cons_succ]
          have e0 := HK3.out.cell e0 (fun h => h)
          refine till_list [] (by kernel_rfl) (by kernel_rfl) (by decide) (by decide) ?_
          simp only [pickOps, List.getElem?_toArray, List.getElem?_cons_zero, List.getElem?_cons_succ]
          clear hHeld hk3 e1 e2
          go_wp2_with fail
          obtain ⟨mb, ao, cap, hpl⟩ := HPB.out
          have HP3 := hid (hpl.kept (HKW.out.trans HK3.out) (fun _ _ _ h => h)); clear hpl
          refine (write_ok HP3.out (HCA.out.small (by omega)) HCA.out.off (by have := HCA.out.since; omega) j hj0 (by rw [HCA.out.n]; exact hj8) (l := l') (by exact HO3.out.byt) (by have := HLL.out; omega)).mono ?_
          rintro e w4 ⟨rfl, ⟨F', hp4, hf4⟩, hk4⟩
          have e0 := hk4.cell e0 (fun h => by simp at h)
          have HP4 := hid hp4; have HF4 := hid hf4; have HK4 := hid hk4; clear hp4 hf4 hk4
          have HE := hid (show someStep ((ops.take k).foldl someStep (newP 8)) x = tick (((ops.take k).foldl someStep (newP 8)).add j l') from by rw [someStep, if_pos HK0.out, ← HJ.out, HL.out])
          have hle3 := HKW.out.size
          have hle4 := HK3.out.size
          go_wp2
          go_roundw
          case rel =>
            refine ⟨k + 1, by omega, by omega, by go_num, ?_, ?_⟩
            · rw [fold_take HX.out, HE.out]
              exact HP4.out.mono (fun g hg => by rcases HF4.out g hg with h | h; exact h.1; have := HK.out.size; omega)
            · exact ((HK.out.trans HKW.out).trans HK3.out).trans' HK4.out (fun g hg => .inr hg.1)
          case measure => simp [intOf]; omega
        · by_cases k1 : x.kd = 1
          · have k0' : (x.kd == 0) = false := by simp [k0]
            have k1' : (x.kd == 1) = true := by simp [k1]
            have HE := hid (show someStep ((ops.take k).foldl someStep (newP 8)) x = (tick ((ops.take k).foldl someStep (newP 8))).flushed from by rw [someStep, if_neg k0, if_pos k1])
            clear k0 k1 e1 e2 hm1 hm2 hmi hu hju hji
            obtain ⟨mb, ao, cap, hpl⟩ := HPB.out
            have HP3 := hid (hpl.kept HKW.out (fun _ _ _ h => h)); clear hpl
            go_wp2_with fail
            refine (flush_ok HP3.out (HCA.out.small (by omega)) HCA.out.off (by have := HCA.out.since; omega) HCA.out.tick.off).mono ?_
            rintro e w4 ⟨rfl, hp4, hk4⟩
            have HP4 := hid hp4; have HK4 := hid hk4; clear hp4 hk4
            go_wp2
            go_roundw
            case rel =>
              refine ⟨k + 1, by omega, by omega, by go_num, ?_, ?_⟩
              · rw [fold_take HX.out, HE.out]
                exact HP4.out.mono (fun g hg => hg.1)
              · exact (HK.out.trans HKW.out).trans' HK4.out (fun g hg => .inr hg.1)
            case measure => simp [intOf]; omega
          · have k0' : (x.kd == 0) = false := by simp [k0]
            have k1' : (x.kd == 1) = false := by simp [k1]
            have HE := hid (show someStep ((ops.take k).foldl someStep (newP 8)) x = ((ops.take k).foldl someStep (newP 8)) from by rw [someStep, if_neg k0, if_neg k1])
            clear k0 k1 e1 e2 hm1 hm2 hmi hu hju hji
            go_wp2
            go_roundw
            case rel =>
              refine ⟨k + 1, by omega, by omega, by go_num, ?_, ?_⟩
              · rw [fold_take HX.out, HE.out]
                exact HP.out.same HKW.out
              · exact HK.out.trans HKW.out
            case measure => simp [intOf]; omega
    · have HE := hid (show ops.take k = ops.take 30 from by rw [List.take_of_length_le (by omega), List.take_of_length_le (by omega)])
      have HKW := hid (Kept.refl (fun _ => False) wr)
      obtain ⟨mb, ao, cap, hpl⟩ := HPB.out
      have HP3 := hid (hpl.kept HKW.out (fun _ _ _ h => h)); clear hpl
      go_wp2_with fail
      refine (flush_ok HP3.out (HCA.out.small (by omega)) HCA.out.off (by have := HCA.out.since; omega) HCA.out.tick.off).mono ?_
      rintro e w4 ⟨rfl, hp4, hk4⟩
      have HP4 := hid hp4; have HK4 := hid hk4; clear hp4 hk4
      go_wp2
      go_returns
      refine ⟨b, rfl, ?_, (HK.out.trans HKW.out).trans' HK4.out (fun g hg => .inr hg.1)⟩
      have := HP4.out.mono (G := fun g => w.heap.size ≤ g) (fun g hg => hg.1)
      rw [HE.out] at this
      exact this
end Go.Proofs.Ytnfdkpjklenllaa
