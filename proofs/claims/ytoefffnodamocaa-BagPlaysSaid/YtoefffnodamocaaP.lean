/- The law BagPlays. -/
import Derived.Test.YtoefffnodamocaaN
namespace Go.Proofs.Ytoefffnodamocaa
open Go.RowKit


theorem cells3 {w : World} {b : Nat} {x y z : Value} {T : TypeId} (h : w.heap[b]? = some (.cells #[x, y, z] T (0, 0))) : w.cell? ⟨b, 0, none⟩ = some x ∧ w.cell? ⟨b, 1, none⟩ = some y ∧ w.cell? ⟨b, 2, none⟩ = some z := by
  have h0 := row_cell h 0
  have h1 := row_cell h 1
  have h2 := row_cell h 2
  simp at h0 h1 h2
  exact ⟨h0, h1, h2⟩
theorem bag_cell {T : TypeId} {w : World} {bb : Nat} {L : List (List Int)} {F : Nat → Prop} (h : BagAt T w bb L F) : ∃ ao c, w.cell? ⟨bb, 0, none⟩ = some (.slice ao L.length c) := by
  obtain ⟨ao, cap, ps, h1, _⟩ := h
  have c := row_cell h1 0
  simp at c
  exact ⟨ao, cap, c⟩

theorem cells38 : Try.prog.cellsOf 38 = 3 := by kernel_rfl
theorem cells5' : Try.prog.cellsOf 5 = 1 := by kernel_rfl
theorem cells3' : Try.prog.cellsOf 3 = 1 := by kernel_rfl
theorem cells22' : Try.prog.cellsOf 22 = 1 := by kernel_rfl
theorem op_read {w : World} {es : List Value} (h : Rd Try.prog w 38 es) (hl : es.length = 3) : ∃ kd iv po pc lp, es = [.int .u8 kd, .int .i64 iv, .slice po (List.length lp) pc] ∧ Byt w (.slice po lp.length pc) lp ∧ lp.length ≤ 140737488351232 := by
  match es, hl with
  | [x0, x1, x2], _ =>
    have h0 : Rd Try.prog w 5 [x0] := h.field Try.underlying38 0 5 0 1 rfl cells5'
    have h1 : Rd Try.prog w 3 [x1] := h.field Try.underlying38 1 3 1 1 rfl cells3'
    have h2 : Rd Try.prog w 22 [x2] := h.field Try.underlying38 2 22 2 1 rfl cells22'
    obtain ⟨f, e0, w0⟩ := h0.int Try.underlying5
    obtain ⟨t, e1, w1⟩ := h1.int Try.underlying3
    obtain ⟨a, l, c, e2⟩ := h2.isSlice Try.underlying22
    simp only [List.cons.injEq, and_true] at e0 e1 e2
    subst e0 e1 e2
    obtain ⟨lp, rfl, hb, _⟩ := Rd.byt h2
    obtain ⟨q1, q2, q3, _⟩ := h2.row1 Try.underlying22 cells5'
    refine ⟨f, t, a, c, lp, rfl, hb, ?_⟩
    have hb5 : Try.prog.bytesOf 5 = 1 := by kernel_rfl
    rw [hb5] at q3
    simp only [reachBytes] at q3
    omega

set_option maxRecDepth 100000 in
set_option maxHeartbeats 20000000 in
theorem plays_walk (W : World) (args : Array Value) (h : RdAll Try.prog W Try.f4.params.toList args.toList) :
    Calls Try.prog 4 args W fun e W' => e = .returned (.bool true) ∧ Below W.heap.size W W' := by
  rw [Try.params4] at h
  obtain ⟨v0, rfl⟩ : ∃ v0, args = #[v0] := by
    rcases args with ⟨_ | ⟨v0, _ | ⟨v2, l⟩⟩⟩ <;> simp [RdAll] at h
    exact ⟨v0, rfl⟩
  obtain ⟨r0, _⟩ := h
  obtain ⟨a0, len0, cap0, rfl, h0⟩ := r0.slice Try.underlying32
  obtain ⟨l0, m0, z0, _, c0⟩ := h0.row Try.underlying32 cells38 (by decide)
  unfold maxLen at m0
  have C0 := hid c0; clear c0 h0 r0 z0
  go_enter Try.func4, Try.ntmps4
  go_wp2_with fail
  refine (awake_any _).mono ?_; rintro e w1 ⟨rfl, hb1⟩
  have L1 := hid hb1; clear hb1
  go_wp2_with fail
  refine (new_any _).mono ?_; rintro e w2 ⟨rfl, hbb, hk2⟩
  have S0 : Tw W.heap.size (w2.alloc (.cells #[.slice none 0 0] 36)) w1.heap.size w2.heap.size [] [] (fun k => k = w1.heap.size) (fun k => k = w2.heap.size) := by
    have hlt : w1.heap.size < w2.heap.size := by obtain ⟨ao, cap, ps, q1, _⟩ := hbb; exact row_lt q1
    have := L1.out.size
    exact ⟨hbb.alloc _, ⟨none, 0, [], row_new _ _, Own.nil _ _ _, ⟨rfl, fun i p l hp => by simp at hp⟩, rfl, by simp [Value.ownBlock]⟩, fun k hk => by subst hk; simp; omega, fun k hk => by subst hk; simp; omega, fun k hk hk2 => by omega⟩
  have S0 := hid S0
  have L2 := hid ((L1.out.trans (hk2.fresh L1.out.size)).alloc (Nat.le_trans L1.out.size hk2.size) (.cells #[.slice none 0 0] 36))
  clear hbb hk2 L1
  go_wp2_with fail
  go_loopw [19] (fun i wr => ∃ (k : Nat) (L : List (List Int)) (F G : Nat → Prop), k ≤ len0 ∧ i = .int .i64 k ∧ L.length ≤ k ∧ L.length ≤ 150 ∧ Tw W.heap.size wr w1.heap.size w2.heap.size L L F G ∧ Below W.heap.size W wr)
    (fun i _ => len0 - (intOf i).toNat)
  case atStart => exact ⟨0, [], _, _, Nat.zero_le _, rfl, Nat.le_refl _, by decide, S0.out, L2.out⟩
  case round =>
    clear S0 L2
    obtain ⟨k, L, F, G, hk, rfl, hL, hL2, htw, hbl⟩ := hrel
    have TW := hid htw; clear htw
    have BL := hid hbl; clear hbl
    by_cases hlt : k < len0
    · obtain ⟨b, off, es, rfl, hbl, hes, hcv, hr⟩ := C0.out k (by omega)
      obtain ⟨kd, iv, po, pc, lp, rfl, hby, hlp⟩ := op_read hr hes
      have k0 := (BL.out.cell (p := ⟨b, off + k * 3 + 0, none⟩) hbl).trans (hcv 0 (by omega))
      have k1 := (BL.out.cell (p := ⟨b, off + k * 3 + 1, none⟩) hbl).trans (hcv 1 (by omega))
      have k2 := (BL.out.cell (p := ⟨b, off + k * 3 + 2, none⟩) hbl).trans (hcv 2 (by omega))
      simp only [List.getElem?_cons_zero, List.getElem?_cons_succ, Nat.add_zero] at k0 k1 k2
      clear hcv hr hes
      have HBY := hid hby; clear hby
      by_cases h150 : (150 : Int) ≤ (k : Int)
      · have hT := TW.out.kept (K := fun _ => False) ((Kept.refl _ _).alloc (.cells #[.int .u8 kd, .int .i64 iv, .slice po lp.length pc] 38)) (fun _ h => h.elim)
        have hB := BL.out.alloc BL.out.size (.cells #[.int .u8 kd, .int .i64 iv, .slice po lp.length pc] 38)
        clear TW BL
        have TW := hid hT; have BL := hid hB
        clear hT hB
        go_wp2_with fail
        generalize wr.alloc (.cells #[.int .u8 kd, .int .i64 iv, .slice po lp.length pc] 38) = wq at TW BL ⊢
        have hl20 : L.length ≤ 2000 := by omega
        refine (all_any TW.out.a hl20).mono ?_; rintro e w4 ⟨ao, ca, ps, rfl, hown, hfr, hpay, hk⟩
        have HS := hid (show Kept (fun g => w4.heap.size ≤ g) w4 w4 from Kept.refl _ _)
        have TW4 := hid (TW.out.kept hk (fun _ h => h.elim)); have BL4 := hid (BL.out.trans (hk.fresh BL.out.size))
        have hr4 : Rws w4 (.slice ao L.length ca) L ps := ⟨hown, fun i p l hp hl => ⟨l, (hpay.2 i p l hp hl).1⟩⟩
        have hfb : ∀ (i : Nat) (p : Value) (g : Nat), ps[i]? = some p → p.ownBlock = some g → wq.heap.size ≤ g := fun i p g hp hg => by
          have hi : i < L.length := by rw [← hpay.1]; exact (List.getElem?_eq_some_iff.1 hp).1
          exact (hpay.2 i p L[i] hp (by simp [hi])).2.1 g hg
        have FB := hid hfb
        have R4 := hid hr4
        have B4 := hid (Pays.bls hown hpay)
        have TWL := hid TW.out.tlt
        clear hown hfr hpay hk hr4 hfb HS
        obtain ⟨ax, cx, px, hx1, hx2, hx3, _⟩ := TW4.out.b
        have x4 := row_cell hx1 0
        simp at x4
        have BX := hid (Pays.bls hx2 hx3)
        clear hx1 hx2 hx3
        go_wp2_with fail
        refine (same_yes (by exact B4.out) (by exact BX.out)).mono ?_; rintro e w5 ⟨rfl, hk5⟩
        have TW5 := hid (TW4.out.kept hk5 (fun _ h => h.elim)); have BL5 := hid (BL4.out.trans (hk5.fresh BL4.out.size)); have R5 := hid (R4.out.kept hk5)
        clear hk5 x4 TW4 BL4 R4 B4 BX
        obtain ⟨wo, rfl⟩ : ∃ wo : World, wo = wq := ⟨_, rfl⟩
        go_wp2_with fail
        go_loopw [62] (fun i wr => ∃ j : Nat, j ≤ L.length ∧ i = .int .i64 j ∧ Rws wr (.slice ao L.length ca) L ps ∧ Kept (fun g => wo.heap.size ≤ g) w5 wr) (fun i _ => L.length - (intOf i).toNat)
        case atStart => exact ⟨0, Nat.zero_le _, rfl, R5.out, Kept.refl _ _⟩
        case round =>
          clear R5
          obtain ⟨j, hj, rfl, hR, hK⟩ := hrel
          have R := hid hR; have KK := hid hK; clear hR hK
          by_cases hjl : j < L.length
          · obtain ⟨ga, ca', ea, hn1, hn2⟩ := R.out.1.some_of_pos (by omega)
            simp only [Value.slice.injEq] at ea
            obtain ⟨rfl, _, rfl⟩ := ea
            have hpl : ps.length = L.length := by simpa using R.out.1.len
            obtain ⟨p, hp⟩ : ∃ p, ps[j]'(by omega) = p := ⟨_, rfl⟩
            have hp' : ps[j]? = some p := by simp [hp, hpl, hjl]
            obtain ⟨l, hl⟩ : ∃ l, L[j] = l := ⟨_, rfl⟩
            have hl' : L[j]? = some l := by simp [hl, hjl]
            have c0 := R.out.1.cells (g := ga) rfl j (by omega)
            rw [hp] at c0
            obtain ⟨ys0, ho0⟩ := R.out.2 j p l hp' hl'
            obtain ⟨pa, pc, rfl⟩ := ho0.isSlice
            have HP := hid hp'; have HL := hid hl'; have HPL := hid hpl
            clear hp hp' hl hl' hpl ho0
            unfold maxLen at hn2
            go_wp2_with fail
            obtain ⟨wi, rfl⟩ : ∃ wi : World, wi = wr := ⟨_, rfl⟩
            go_loopw [70] (fun i wr => ∃ q : Nat, q ≤ l.length ∧ i = .int .i64 q ∧ Rws wr (.slice (some ⟨ga, 0, none⟩) L.length ca) L ps ∧ Kept (fun g => wo.heap.size ≤ g) w5 wr) (fun i _ => l.length - (intOf i).toNat)
            case atStart => exact ⟨0, Nat.zero_le _, rfl, R.out, KK.out⟩
            case round =>
              clear R KK
              obtain ⟨q, hq, rfl, hR, hK⟩ := hrel
              have R := hid hR; have KK := hid hK; clear hR hK
              by_cases hql : q < l.length
              · obtain ⟨ys, ho⟩ := R.out.2 j _ l HP.out HL.out
                obtain ⟨gp, pc', ep, hm1, hm2⟩ := ho.some_of_pos (by omega)
                simp only [Value.slice.injEq] at ep
                obtain ⟨rfl, _, rfl⟩ := ep
                unfold maxLen at hm2
                have hyl : ys.length = l.length := by simpa [u8s] using ho.len
                have c1 := R.out.1.cells (g := ga) rfl j (by have := HPL.out; omega)
                rw [(List.getElem?_eq_some_iff.1 HP.out).2] at c1
                have hcell := ho.cells (g := gp) rfl q (by simp [u8s]; omega)
                have hfrz := ho.free (g := gp) rfl q
                obtain ⟨z, hcv⟩ : ∃ z, (u8s ys)[q]'(by simp [u8s]; omega) = .int .u8 z := ⟨ys[q]'(by omega), by simp [u8s]⟩
                rw [hcv] at hcell
                obtain ⟨cur, hcur⟩ := ho.block (g := gp) rfl
                have HCUR := hid hcur
                clear ho hcv hyl hcur c0
                go_wp2
                go_roundw
                case rel => exact ⟨q + 1, by omega, by go_num, R.out.set HCUR.out q _, KK.out.setCell (p := ⟨gp, q, none⟩) (.inl (FB.out j _ gp HP.out rfl)) _⟩
                case measure => simp [intOf]; omega
              · go_wp2
                go_roundw
                case rel => exact ⟨j + 1, by omega, by go_num, R.out, KK.out⟩
                case measure => simp [intOf]; omega
          · clear R
            have TW6 := hid (TW5.out.kept KK.out (fun g hg => ⟨fun h => TWL.out.1 g hg h, fun h => TWL.out.2 g hg h⟩))
            have BL6 := hid (BL5.out.trans (KK.out.below BL5.out.size (fun g hg => Nat.le_trans BL.out.size hg)))
            clear KK TW5 BL5
            obtain ⟨ax, cx, px, hx1, hx2, hx3, _⟩ := TW6.out.b
            have x4 : wr.drew.cell? ⟨w2.heap.size, 0, none⟩ = some (.slice ax L.length cx) := by have := row_cell hx1 0; simpa using this
            have BX := hid (Pays.bls hx2 hx3)
            clear hx1 hx2 hx3
            go_wp2_with fail
            go_region_held3 (fun w' => w'.cell? ⟨w2.heap.size, 0, none⟩ = some (.slice ax L.length cx)) (first | exact x4 | exact x7 | exact x8)
              (first
                | (go_at_call 14; (with_reducible refine (all_any (TW6.out.kept (K := fun _ => False) (Kept.refl _ _).drew (fun _ h => h.elim)).a hl20).mono ?_); rintro e w7 ⟨a7, c7, p7, rfl, hown, _, hpay, hk⟩; have x7 := hk.cell x4 id; have B7 := hid (Pays.bls hown hpay); have BX7 := hid (show Bls w7 (.slice ax L.length cx) L from bls_kept (bls_kept BX.out (Kept.refl _ _).drew) hk); have BL7 := hid ((BL6.out.drew).trans (hk.fresh BL6.out.size)); clear hown hpay hk)
                | (go_at_call 15; (with_reducible refine (same_yes (by exact B7.out) (by exact BX7.out)).mono ?_); rintro e w8 ⟨rfl, hk8⟩; have x8 := hk8.cell x7 id; have BL8 := hid (BL7.out.trans (hk8.fresh BL7.out.size)); clear hk8)
                | (go_at_call 12; (with_reducible refine (len_nil _).mono ?_); rintro e w9 ⟨rfl, rfl⟩)
                | (go_at_call 14; (with_reducible refine (all_nil _).mono ?_); rintro e w9 ⟨rfl, rfl⟩))
            all_goals
              go_wp2
              go_ret
              exact ⟨rfl, BL8.out⟩
      · have t0 := trivial
        have hTD : Tw W.heap.size (wr.alloc (.cells #[.int .u8 kd, .int .i64 iv, .slice po lp.length pc] 38)).drew w1.heap.size w2.heap.size L L F G := TW.out.kept (K := fun _ => False) ((Kept.refl _ _).alloc _).drew (fun _ h => h.elim)
        have hbo : (wr.alloc (.cells #[.int .u8 kd, .int .i64 iv, .slice po lp.length pc] 38)).drew.heap[wr.heap.size]? = some (.cells #[.int .u8 kd, .int .i64 iv, .slice po lp.length pc] 38 (0, 0)) := row_new _ _
        have hno : wr.heap.size < (wr.alloc (.cells #[.int .u8 kd, .int .i64 iv, .slice po lp.length pc] 38)).drew.heap.size ∧ ¬ F wr.heap.size ∧ ¬ G wr.heap.size := ⟨row_lt hbo, fun h => by have := (TW.out.fl _ h).2; omega, fun h => by have := (TW.out.gl _ h).2; omega⟩
        have hBD : Below W.heap.size W (wr.alloc (.cells #[.int .u8 kd, .int .i64 iv, .slice po lp.length pc] 38)).drew := (BL.out.alloc BL.out.size _).drew
        obtain ⟨c0, c1, c2⟩ := cells3 hbo
        have TD := hid hTD; clear hTD
        have BO := hid hbo; clear hbo
        have NO := hid hno; clear hno
        have BD := hid hBD; clear hBD
        by_cases h6 : (k : Int) < 6
        · have hd6 : decide ((k : Int) < 6) = true := by simpa using h6
          go_wp2_with fail
          refine wp_region_held_drew (S := fun w' => w'.cell? ⟨wr.heap.size, 0, none⟩ = some (.int .u8 kd) ∧ w'.cell? ⟨wr.heap.size, 1, none⟩ = some (.int .i64 iv) ∧ w'.cell? ⟨wr.heap.size, 2, none⟩ = some (.slice po lp.length pc)) (by kernel_rfl) (by exact ⟨c0, c1, c2⟩) (fun hHeld => ?_)
          refine wpAnyH_at 0 (some 26) (v := ?v10) (by decide) rfl (by kernel_rfl) (by kernel_rfl) (by kernel_rfl) (fun _ _ _ h => h) (Or.inl ⟨by rfl, ?y10⟩) (by assumption) ?r10
          case y10 => (intro w hSw; (try dsimp only at hSw); go_simp; (try with_reducible rfl))
          simp only [Act.put, List.setIfInBounds_toArray, List.set_cons_zero, List.set_cons_succ]
          refine wpAnyH_at 1 (some 27) (v := ?v11) (by decide) rfl (by kernel_rfl) (by kernel_rfl) (by kernel_rfl) (fun _ _ _ h => h) (Or.inl ⟨by rfl, ?y11⟩) (by assumption) ?r11
          case y11 => (intro w hSw; (try dsimp only at hSw); go_simp; (try with_reducible rfl))
          simp only [Act.put, List.setIfInBounds_toArray, List.set_cons_zero, List.set_cons_succ]
          refine wpAnyH_at 2 (some 28) (v := ?v12) (by decide) rfl (by kernel_rfl) (by kernel_rfl) (by kernel_rfl) (fun _ _ _ h => h) (Or.inl ⟨by rfl, ?y12⟩) (by assumption) ?r12
          case y12 => (intro w hSw; (try dsimp only at hSw); go_simp; (try with_reducible rfl))
          simp only [Act.put, List.setIfInBounds_toArray, List.set_cons_zero, List.set_cons_succ]
          refine wpAnyH_ready (rs := [3]) (by kernel_rfl) (by simp) ?_
          refine AllReadyH.cons rfl (fun K hK => ?_) AllReadyH.nil
          go_simp
          refine (play_two TD.out BD.out (by omega) kd iv po pc lp HBY.out hlp).mono ?_
          rintro e w3 ⟨rfl, hb3, L', F', G', htw3, hl3, hot3⟩
          have TW3 := hid htw3; have BL3 := hid hb3; have hl4 : L'.length ≤ L.length + 1 := hl3; have BO3 := hid ((hot3 _ NO.out).2.2.2.trans BO.out)
          obtain ⟨d0, d1, d2⟩ := cells3 BO3.out
          obtain ⟨xo, xc, x3⟩ := bag_cell TW3.out.b
          clear htw3 hb3 hot3 hl3 hHeld c0 c1 c2
          dsimp only []
          refine hK.out _ _ (by exact ⟨d0, d1, d2⟩) (fun hHeld => ?_)
          clear hK K
          try simp only [Act.put, List.setIfInBounds_toArray, List.set_cons_zero, List.set_cons_succ]
          refine wpAnyH_mono (S1 := fun w' => (w'.cell? ⟨wr.heap.size, 0, none⟩ = some (.int .u8 kd) ∧ w'.cell? ⟨wr.heap.size, 1, none⟩ = some (.int .i64 iv) ∧ w'.cell? ⟨wr.heap.size, 2, none⟩ = some (.slice po lp.length pc)) ∧ w'.cell? ⟨w2.heap.size, 0, none⟩ = some (.slice xo L'.length xc)) (fun w h => h.1) _ _ _ _ ?_
          clear hHeld
          have hHeld : (fun w' : World => (w'.cell? ⟨wr.heap.size, 0, none⟩ = some (.int .u8 kd) ∧ w'.cell? ⟨wr.heap.size, 1, none⟩ = some (.int .i64 iv) ∧ w'.cell? ⟨wr.heap.size, 2, none⟩ = some (.slice po lp.length pc)) ∧ w'.cell? ⟨w2.heap.size, 0, none⟩ = some (.slice xo L'.length xc)) w3 := ⟨⟨d0, d1, d2⟩, x3⟩
          refine wpAnyH_at 4 (some 30) (v := ?v104) (by decide) rfl (by kernel_rfl) (by kernel_rfl) (by kernel_rfl) (fun _ _ _ h => h) (Or.inl ⟨by rfl, ?y104⟩) (by assumption) ?r104
          case y104 => (intro w hSw; (try dsimp only at hSw); go_simp; (try with_reducible rfl))
          simp only [Act.put, List.setIfInBounds_toArray, List.set_cons_zero, List.set_cons_succ]
          refine wpAnyH_at 5 (some 31) (v := ?v105) (by decide) rfl (by kernel_rfl) (by kernel_rfl) (by kernel_rfl) (fun _ _ _ h => h) (Or.inl ⟨by rfl, ?y105⟩) (by assumption) ?r105
          case y105 => (intro w hSw; (try dsimp only at hSw); go_simp; (try with_reducible rfl))
          simp only [Act.put, List.setIfInBounds_toArray, List.set_cons_zero, List.set_cons_succ]
          refine wpAnyH_at 6 (some 32) (v := ?v106) (by decide) rfl (by kernel_rfl) (by kernel_rfl) (by kernel_rfl) (fun _ _ _ h => h) (Or.inl ⟨by rfl, ?y106⟩) (by assumption) ?r106
          case y106 => (intro w hSw; (try dsimp only at hSw); go_simp; (try with_reducible rfl))
          simp only [Act.put, List.setIfInBounds_toArray, List.set_cons_zero, List.set_cons_succ]
          refine wpAnyH_at 7 (some 33) (v := ?v107) (by decide) rfl (by kernel_rfl) (by kernel_rfl) (by kernel_rfl) (fun _ _ _ h => h) (Or.inl ⟨by rfl, ?y107⟩) (by assumption) ?r107
          case y107 => (intro w hSw; (try dsimp only at hSw); go_simp; (try with_reducible rfl))
          simp only [Act.put, List.setIfInBounds_toArray, List.set_cons_zero, List.set_cons_succ]
          refine wpAnyH_at 8 (some 34) (v := ?v108) (by decide) rfl (by kernel_rfl) (by kernel_rfl) (by kernel_rfl) (fun _ _ _ h => h) (Or.inl ⟨by rfl, ?y108⟩) (by assumption) ?r108
          case y108 => (intro w hSw; (try dsimp only at hSw); go_simp; (try with_reducible rfl))
          simp only [Act.put, List.setIfInBounds_toArray, List.set_cons_zero, List.set_cons_succ]
          refine wpAnyH_at 9 (some 35) (v := ?v1109) (by decide) rfl (by kernel_rfl) (by kernel_rfl) (by kernel_rfl) (fun _ _ _ h => h) (Or.inl ⟨by rfl, ?y1109⟩) (by assumption) ?r1109
          case y1109 => (intro w hSw; (try dsimp only at hSw); go_simp; (try with_reducible rfl))
          simp only [Act.put, List.setIfInBounds_toArray, List.set_cons_zero, List.set_cons_succ]
          refine wpAnyH_at 10 (some 36) (v := ?v1110) (by decide) rfl (by kernel_rfl) (by kernel_rfl) (by kernel_rfl) (fun _ _ _ h => h) (Or.inl ⟨by rfl, ?y1110⟩) (by assumption) ?r1110
          case y1110 => (intro w hSw; (try dsimp only at hSw); go_simp; (try with_reducible rfl))
          simp only [Act.put, List.setIfInBounds_toArray, List.set_cons_zero, List.set_cons_succ]
          refine wpAnyH_ready (rs := [11]) (by kernel_rfl) (by simp) ?_
          refine AllReadyH.cons rfl (fun K hK => ?_) AllReadyH.nil
          go_simp
          refine (play_nil kd iv po pc lp (by exact HBY.out.below BL3.out (Nat.le_refl _)) hlp).mono ?_
          rintro e w4 ⟨rfl, hk4⟩
          have TW4 := hid (TW3.out.kept hk4 (fun _ h => h.elim)); have BL4 := hid (BL3.out.trans (hk4.fresh BL3.out.size)); have f0 := hk4.cell d0 id; have f1 := hk4.cell d1 id; have f2 := hk4.cell d2 id; have x4 := hk4.cell x3 id
          clear hk4
          dsimp only []
          refine hK.out _ _ (by exact ⟨⟨f0, f1, f2⟩, x4⟩) (fun hHeld => ?_)
          clear hK K
          try simp only [Act.put, List.setIfInBounds_toArray, List.set_cons_zero, List.set_cons_succ]
          refine wpAnyH_at 12 (some 38) (v := ?v1112) (by decide) rfl (by kernel_rfl) (by kernel_rfl) (by kernel_rfl) (fun _ _ _ h => h) (Or.inl ⟨by rfl, ?y1112⟩) (by assumption) ?r1112
          case y1112 => (intro w hSw; (try dsimp only at hSw); go_simp; (try with_reducible rfl))
          simp only [Act.put, List.setIfInBounds_toArray, List.set_cons_zero, List.set_cons_succ]
          refine wpAnyH_at 13 (some 39) (v := ?v113) (by decide) rfl (by kernel_rfl) (by kernel_rfl) (by kernel_rfl) (fun _ _ _ h => h) (Or.inl ⟨by rfl, ?y113⟩) (by assumption) ?r113
          case y113 => (intro w hSw; (try dsimp only at hSw); go_simp; (try with_reducible rfl))
          simp only [Act.put, List.setIfInBounds_toArray, List.set_cons_zero, List.set_cons_succ]
          refine wpAnyH_at 14 (some 40) (v := ?v114) (by decide) rfl (by kernel_rfl) (by kernel_rfl) (by kernel_rfl) (fun _ _ _ h => h) (Or.inl ⟨by rfl, ?y114⟩) (by assumption) ?r114
          case y114 => (intro w hSw; (try dsimp only at hSw); go_simp; (try with_reducible rfl))
          simp only [Act.put, List.setIfInBounds_toArray, List.set_cons_zero, List.set_cons_succ]
          refine wpAnyH_at 15 (some 41) (v := ?v115) (by decide) rfl (by kernel_rfl) (by kernel_rfl) (by kernel_rfl) (fun _ _ _ h => h) (Or.inl ⟨by rfl, ?y115⟩) (by assumption) ?r115
          case y115 => (intro w hSw; (try dsimp only at hSw); go_simp; (try with_reducible rfl))
          simp only [Act.put, List.setIfInBounds_toArray, List.set_cons_zero, List.set_cons_succ]
          refine wpAnyH_at 16 (some 42) (v := ?v116) (by decide) rfl (by kernel_rfl) (by kernel_rfl) (by kernel_rfl) (fun _ _ _ h => h) (Or.inl ⟨by rfl, ?y116⟩) (by assumption) ?r116
          case y116 => (intro w hSw; (try dsimp only at hSw); go_simp; (try with_reducible rfl))
          simp only [Act.put, List.setIfInBounds_toArray, List.set_cons_zero, List.set_cons_succ]
          refine wpAnyH_at 18 (some 44) (v := ?v118) (by decide) rfl (by kernel_rfl) (by kernel_rfl) (by kernel_rfl) (fun _ _ _ h => h) (Or.inl ⟨by rfl, ?y118⟩) (by assumption) ?r118
          case y118 => (intro w hSw; (try dsimp only at hSw); go_simp; (try with_reducible rfl))
          simp only [Act.put, List.setIfInBounds_toArray, List.set_cons_zero, List.set_cons_succ]
          refine wpAnyH_at 19 (some 45) (v := ?v119) (by decide) rfl (by kernel_rfl) (by kernel_rfl) (by kernel_rfl) (fun _ _ _ h => h) (Or.inl ⟨by rfl, ?y119⟩) (by assumption) ?r119
          case y119 => (intro w hSw; (try dsimp only at hSw); go_simp; (try with_reducible rfl))
          simp only [Act.put, List.setIfInBounds_toArray, List.set_cons_zero, List.set_cons_succ]
          refine wpAnyH_at 20 (some 46) (v := ?v120) (by decide) rfl (by kernel_rfl) (by kernel_rfl) (by kernel_rfl) (fun _ _ _ h => h) (Or.inl ⟨by rfl, ?y120⟩) (by assumption) ?r120
          case y120 => (intro w hSw; (try dsimp only at hSw); go_simp; (try with_reducible rfl))
          simp only [Act.put, List.setIfInBounds_toArray, List.set_cons_zero, List.set_cons_succ]
          refine wpAnyH_at 21 (some 47) (v := ?v121) (by decide) rfl (by kernel_rfl) (by kernel_rfl) (by kernel_rfl) (fun _ _ _ h => h) (Or.inl ⟨by rfl, ?y121⟩) (by assumption) ?r121
          case y121 => (intro w hSw; (try dsimp only at hSw); go_simp; (try with_reducible rfl))
          simp only [Act.put, List.setIfInBounds_toArray, List.set_cons_zero, List.set_cons_succ]
          refine wpAnyH_at 22 (some 48) (v := ?v122) (by decide) rfl (by kernel_rfl) (by kernel_rfl) (by kernel_rfl) (fun _ _ _ h => h) (Or.inl ⟨by rfl, ?y122⟩) (by assumption) ?r122
          case y122 => (intro w hSw; (try dsimp only at hSw); go_simp; (try with_reducible rfl))
          simp only [Act.put, List.setIfInBounds_toArray, List.set_cons_zero, List.set_cons_succ]
          refine wpAnyH_ready (rs := [17]) (by kernel_rfl) (by simp) ?_
          refine AllReadyH.cons rfl (fun K hK => ?_) AllReadyH.nil
          go_simp
          refine (len_any TW4.out.a).mono ?_
          rintro e w5 ⟨rfl, rfl⟩
          dsimp only []
          refine hK.out _ _ (by exact ⟨⟨f0, f1, f2⟩, x4⟩) (fun hHeld => ?_)
          clear hK K
          try simp only [Act.put, List.setIfInBounds_toArray, List.set_cons_zero, List.set_cons_succ]
          refine wpAnyH_at 23 (some 49) (v := ?v123) (by decide) rfl (by kernel_rfl) (by kernel_rfl) (by kernel_rfl) (fun _ _ _ h => h) (Or.inl ⟨by rfl, ?y123⟩) (by assumption) ?r123
          case y123 => (intro w hSw; (try dsimp only at hSw); go_simp; (try with_reducible rfl))
          simp only [Act.put, List.setIfInBounds_toArray, List.set_cons_zero, List.set_cons_succ]
          refine wpAnyH_at 24 (some 50) (v := ?v124) (by decide) rfl (by kernel_rfl) (by kernel_rfl) (by kernel_rfl) (fun _ _ _ h => h) (Or.inl ⟨by rfl, ?y124⟩) (by assumption) ?r124
          case y124 => (intro w hSw; (try dsimp only at hSw); go_simp; (try with_reducible rfl))
          simp only [Act.put, List.setIfInBounds_toArray, List.set_cons_zero, List.set_cons_succ]
          refine wpAnyH_done (by kernel_rfl) ?_ _
          have hkk : (k : Int) < 150 := by omega
          have hll : L'.length ≤ k + 1 := by omega
          have hl5 : L'.length ≤ 150 := by omega
          have hlq : ((L'.length : Int) != (L'.length : Int)) = false := by simp
          clear hHeld f0 f1 f2 x4 d0 d1 d2 x3
          go_wp2
          go_roundw
          case rel => exact ⟨k + 1, L', F', G', by omega, by go_num, hll, hl5, TW4.out, BL4.out⟩
          case measure => simp [intOf]; omega
        · have hd6 : decide ((k : Int) < 6) = false := by simpa using h6
          go_wp2_with fail
          refine wp_region_held_drew (S := fun w' => w'.cell? ⟨wr.heap.size, 0, none⟩ = some (.int .u8 kd) ∧ w'.cell? ⟨wr.heap.size, 1, none⟩ = some (.int .i64 iv) ∧ w'.cell? ⟨wr.heap.size, 2, none⟩ = some (.slice po lp.length pc)) (by kernel_rfl) (by exact ⟨c0, c1, c2⟩) (fun hHeld => ?_)
          refine wpAnyH_at 0 (some 26) (v := ?v20) (by decide) rfl (by kernel_rfl) (by kernel_rfl) (by kernel_rfl) (fun _ _ _ h => h) (Or.inl ⟨by rfl, ?y20⟩) (by assumption) ?r20
          case y20 => (intro w hSw; (try dsimp only at hSw); go_simp; (try with_reducible rfl))
          simp only [Act.put, List.setIfInBounds_toArray, List.set_cons_zero, List.set_cons_succ]
          refine wpAnyH_at 1 (some 27) (v := ?v21) (by decide) rfl (by kernel_rfl) (by kernel_rfl) (by kernel_rfl) (fun _ _ _ h => h) (Or.inl ⟨by rfl, ?y21⟩) (by assumption) ?r21
          case y21 => (intro w hSw; (try dsimp only at hSw); go_simp; (try with_reducible rfl))
          simp only [Act.put, List.setIfInBounds_toArray, List.set_cons_zero, List.set_cons_succ]
          refine wpAnyH_at 2 (some 28) (v := ?v22) (by decide) rfl (by kernel_rfl) (by kernel_rfl) (by kernel_rfl) (fun _ _ _ h => h) (Or.inl ⟨by rfl, ?y22⟩) (by assumption) ?r22
          case y22 => (intro w hSw; (try dsimp only at hSw); go_simp; (try with_reducible rfl))
          simp only [Act.put, List.setIfInBounds_toArray, List.set_cons_zero, List.set_cons_succ]
          refine wpAnyH_ready (rs := [3]) (by kernel_rfl) (by simp) ?_
          refine AllReadyH.cons rfl (fun K hK => ?_) AllReadyH.nil
          go_simp
          refine (play_two TD.out BD.out (by omega) kd iv po pc lp HBY.out hlp).mono ?_
          rintro e w3 ⟨rfl, hb3, L', F', G', htw3, hl3, hot3⟩
          have TW3 := hid htw3; have BL3 := hid hb3; have hl4 : L'.length ≤ L.length + 1 := hl3; have BO3 := hid ((hot3 _ NO.out).2.2.2.trans BO.out)
          obtain ⟨d0, d1, d2⟩ := cells3 BO3.out
          obtain ⟨xo, xc, x3⟩ := bag_cell TW3.out.b
          clear htw3 hb3 hot3 hl3 hHeld c0 c1 c2
          dsimp only []
          refine hK.out _ _ (by exact ⟨d0, d1, d2⟩) (fun hHeld => ?_)
          clear hK K
          try simp only [Act.put, List.setIfInBounds_toArray, List.set_cons_zero, List.set_cons_succ]
          refine wpAnyH_mono (S1 := fun w' => (w'.cell? ⟨wr.heap.size, 0, none⟩ = some (.int .u8 kd) ∧ w'.cell? ⟨wr.heap.size, 1, none⟩ = some (.int .i64 iv) ∧ w'.cell? ⟨wr.heap.size, 2, none⟩ = some (.slice po lp.length pc)) ∧ w'.cell? ⟨w2.heap.size, 0, none⟩ = some (.slice xo L'.length xc)) (fun w h => h.1) _ _ _ _ ?_
          clear hHeld
          have hHeld : (fun w' : World => (w'.cell? ⟨wr.heap.size, 0, none⟩ = some (.int .u8 kd) ∧ w'.cell? ⟨wr.heap.size, 1, none⟩ = some (.int .i64 iv) ∧ w'.cell? ⟨wr.heap.size, 2, none⟩ = some (.slice po lp.length pc)) ∧ w'.cell? ⟨w2.heap.size, 0, none⟩ = some (.slice xo L'.length xc)) w3 := ⟨⟨d0, d1, d2⟩, x3⟩
          refine wpAnyH_at 4 (some 30) (v := ?v204) (by decide) rfl (by kernel_rfl) (by kernel_rfl) (by kernel_rfl) (fun _ _ _ h => h) (Or.inl ⟨by rfl, ?y204⟩) (by assumption) ?r204
          case y204 => (intro w hSw; (try dsimp only at hSw); go_simp; (try with_reducible rfl))
          simp only [Act.put, List.setIfInBounds_toArray, List.set_cons_zero, List.set_cons_succ]
          refine wpAnyH_at 5 (some 31) (v := ?v205) (by decide) rfl (by kernel_rfl) (by kernel_rfl) (by kernel_rfl) (fun _ _ _ h => h) (Or.inl ⟨by rfl, ?y205⟩) (by assumption) ?r205
          case y205 => (intro w hSw; (try dsimp only at hSw); go_simp; (try with_reducible rfl))
          simp only [Act.put, List.setIfInBounds_toArray, List.set_cons_zero, List.set_cons_succ]
          refine wpAnyH_at 6 (some 32) (v := ?v206) (by decide) rfl (by kernel_rfl) (by kernel_rfl) (by kernel_rfl) (fun _ _ _ h => h) (Or.inl ⟨by rfl, ?y206⟩) (by assumption) ?r206
          case y206 => (intro w hSw; (try dsimp only at hSw); go_simp; (try with_reducible rfl))
          simp only [Act.put, List.setIfInBounds_toArray, List.set_cons_zero, List.set_cons_succ]
          refine wpAnyH_at 7 (some 33) (v := ?v207) (by decide) rfl (by kernel_rfl) (by kernel_rfl) (by kernel_rfl) (fun _ _ _ h => h) (Or.inl ⟨by rfl, ?y207⟩) (by assumption) ?r207
          case y207 => (intro w hSw; (try dsimp only at hSw); go_simp; (try with_reducible rfl))
          simp only [Act.put, List.setIfInBounds_toArray, List.set_cons_zero, List.set_cons_succ]
          refine wpAnyH_at 8 (some 34) (v := ?v208) (by decide) rfl (by kernel_rfl) (by kernel_rfl) (by kernel_rfl) (fun _ _ _ h => h) (Or.inl ⟨by rfl, ?y208⟩) (by assumption) ?r208
          case y208 => (intro w hSw; (try dsimp only at hSw); go_simp; (try with_reducible rfl))
          simp only [Act.put, List.setIfInBounds_toArray, List.set_cons_zero, List.set_cons_succ]
          refine wpAnyH_at 9 (some 35) (v := undef) (by decide) rfl (by kernel_rfl) (by kernel_rfl) (by kernel_rfl) (fun _ _ _ h => h) (Or.inr ⟨by rfl, rfl⟩) (by assumption) ?_
          simp only [Act.put, List.setIfInBounds_toArray, List.set_cons_zero, List.set_cons_succ]
          refine wpAnyH_at 10 (some 36) (v := undef) (by decide) rfl (by kernel_rfl) (by kernel_rfl) (by kernel_rfl) (fun _ _ _ h => h) (Or.inr ⟨by rfl, rfl⟩) (by assumption) ?_
          simp only [Act.put, List.setIfInBounds_toArray, List.set_cons_zero, List.set_cons_succ]
          refine wpAnyH_at 11 (some 37) (v := undef) (by decide) rfl (by kernel_rfl) (by kernel_rfl) (by kernel_rfl) (fun _ _ _ h => h) (Or.inr ⟨by rfl, rfl⟩) (by assumption) ?_
          simp only [Act.put, List.setIfInBounds_toArray, List.set_cons_zero, List.set_cons_succ]
          refine wpAnyH_at 12 (some 38) (v := undef) (by decide) rfl (by kernel_rfl) (by kernel_rfl) (by kernel_rfl) (fun _ _ _ h => h) (Or.inr ⟨by rfl, rfl⟩) (by assumption) ?_
          simp only [Act.put, List.setIfInBounds_toArray, List.set_cons_zero, List.set_cons_succ]
          have TW4 := TW3; have BL4 := BL3; have f0 := d0; have f1 := d1; have f2 := d2; have x4 := x3
          refine wpAnyH_at 13 (some 39) (v := ?v213) (by decide) rfl (by kernel_rfl) (by kernel_rfl) (by kernel_rfl) (fun _ _ _ h => h) (Or.inl ⟨by rfl, ?y213⟩) (by assumption) ?r213
          case y213 => (intro w hSw; (try dsimp only at hSw); go_simp; (try with_reducible rfl))
          simp only [Act.put, List.setIfInBounds_toArray, List.set_cons_zero, List.set_cons_succ]
          refine wpAnyH_at 14 (some 40) (v := ?v214) (by decide) rfl (by kernel_rfl) (by kernel_rfl) (by kernel_rfl) (fun _ _ _ h => h) (Or.inl ⟨by rfl, ?y214⟩) (by assumption) ?r214
          case y214 => (intro w hSw; (try dsimp only at hSw); go_simp; (try with_reducible rfl))
          simp only [Act.put, List.setIfInBounds_toArray, List.set_cons_zero, List.set_cons_succ]
          refine wpAnyH_at 15 (some 41) (v := ?v215) (by decide) rfl (by kernel_rfl) (by kernel_rfl) (by kernel_rfl) (fun _ _ _ h => h) (Or.inl ⟨by rfl, ?y215⟩) (by assumption) ?r215
          case y215 => (intro w hSw; (try dsimp only at hSw); go_simp; (try with_reducible rfl))
          simp only [Act.put, List.setIfInBounds_toArray, List.set_cons_zero, List.set_cons_succ]
          refine wpAnyH_at 16 (some 42) (v := ?v216) (by decide) rfl (by kernel_rfl) (by kernel_rfl) (by kernel_rfl) (fun _ _ _ h => h) (Or.inl ⟨by rfl, ?y216⟩) (by assumption) ?r216
          case y216 => (intro w hSw; (try dsimp only at hSw); go_simp; (try with_reducible rfl))
          simp only [Act.put, List.setIfInBounds_toArray, List.set_cons_zero, List.set_cons_succ]
          refine wpAnyH_at 18 (some 44) (v := ?v218) (by decide) rfl (by kernel_rfl) (by kernel_rfl) (by kernel_rfl) (fun _ _ _ h => h) (Or.inl ⟨by rfl, ?y218⟩) (by assumption) ?r218
          case y218 => (intro w hSw; (try dsimp only at hSw); go_simp; (try with_reducible rfl))
          simp only [Act.put, List.setIfInBounds_toArray, List.set_cons_zero, List.set_cons_succ]
          refine wpAnyH_at 19 (some 45) (v := ?v219) (by decide) rfl (by kernel_rfl) (by kernel_rfl) (by kernel_rfl) (fun _ _ _ h => h) (Or.inl ⟨by rfl, ?y219⟩) (by assumption) ?r219
          case y219 => (intro w hSw; (try dsimp only at hSw); go_simp; (try with_reducible rfl))
          simp only [Act.put, List.setIfInBounds_toArray, List.set_cons_zero, List.set_cons_succ]
          refine wpAnyH_at 20 (some 46) (v := ?v220) (by decide) rfl (by kernel_rfl) (by kernel_rfl) (by kernel_rfl) (fun _ _ _ h => h) (Or.inl ⟨by rfl, ?y220⟩) (by assumption) ?r220
          case y220 => (intro w hSw; (try dsimp only at hSw); go_simp; (try with_reducible rfl))
          simp only [Act.put, List.setIfInBounds_toArray, List.set_cons_zero, List.set_cons_succ]
          refine wpAnyH_at 21 (some 47) (v := ?v221) (by decide) rfl (by kernel_rfl) (by kernel_rfl) (by kernel_rfl) (fun _ _ _ h => h) (Or.inl ⟨by rfl, ?y221⟩) (by assumption) ?r221
          case y221 => (intro w hSw; (try dsimp only at hSw); go_simp; (try with_reducible rfl))
          simp only [Act.put, List.setIfInBounds_toArray, List.set_cons_zero, List.set_cons_succ]
          refine wpAnyH_at 22 (some 48) (v := ?v222) (by decide) rfl (by kernel_rfl) (by kernel_rfl) (by kernel_rfl) (fun _ _ _ h => h) (Or.inl ⟨by rfl, ?y222⟩) (by assumption) ?r222
          case y222 => (intro w hSw; (try dsimp only at hSw); go_simp; (try with_reducible rfl))
          simp only [Act.put, List.setIfInBounds_toArray, List.set_cons_zero, List.set_cons_succ]
          refine wpAnyH_ready (rs := [17]) (by kernel_rfl) (by simp) ?_
          refine AllReadyH.cons rfl (fun K hK => ?_) AllReadyH.nil
          go_simp
          refine (len_any TW4.out.a).mono ?_
          rintro e w5 ⟨rfl, rfl⟩
          dsimp only []
          refine hK.out _ _ (by exact ⟨⟨f0, f1, f2⟩, x4⟩) (fun hHeld => ?_)
          clear hK K
          try simp only [Act.put, List.setIfInBounds_toArray, List.set_cons_zero, List.set_cons_succ]
          refine wpAnyH_at 23 (some 49) (v := ?v223) (by decide) rfl (by kernel_rfl) (by kernel_rfl) (by kernel_rfl) (fun _ _ _ h => h) (Or.inl ⟨by rfl, ?y223⟩) (by assumption) ?r223
          case y223 => (intro w hSw; (try dsimp only at hSw); go_simp; (try with_reducible rfl))
          simp only [Act.put, List.setIfInBounds_toArray, List.set_cons_zero, List.set_cons_succ]
          refine wpAnyH_at 24 (some 50) (v := ?v224) (by decide) rfl (by kernel_rfl) (by kernel_rfl) (by kernel_rfl) (fun _ _ _ h => h) (Or.inl ⟨by rfl, ?y224⟩) (by assumption) ?r224
          case y224 => (intro w hSw; (try dsimp only at hSw); go_simp; (try with_reducible rfl))
          simp only [Act.put, List.setIfInBounds_toArray, List.set_cons_zero, List.set_cons_succ]
          refine wpAnyH_done (by kernel_rfl) ?_ _
          have hkk : (k : Int) < 150 := by omega
          have hll : L'.length ≤ k + 1 := by omega
          have hl5 : L'.length ≤ 150 := by omega
          have hlq : ((L'.length : Int) != (L'.length : Int)) = false := by simp
          clear hHeld f0 f1 f2 x4 d0 d1 d2 x3
          go_wp2
          go_roundw
          case rel => exact ⟨k + 1, L', F', G', by omega, by go_num, hll, hl5, TW4.out, BL4.out⟩
          case measure => simp [intOf]; omega
    · go_wp2_with fail
      have hl20 : L.length ≤ 2000 := by omega
      refine (all_any TW.out.a hl20).mono ?_; rintro e w4 ⟨ao, ca, ps, rfl, hown, hfr, hpay, hk⟩
      have HS := hid (show Kept (fun g => w4.heap.size ≤ g) w4 w4 from Kept.refl _ _)
      have TW4 := hid (TW.out.kept hk (fun _ h => h.elim)); have BL4 := hid (BL.out.trans (hk.fresh BL.out.size))
      have hr4 : Rws w4 (.slice ao L.length ca) L ps := ⟨hown, fun i p l hp hl => ⟨l, (hpay.2 i p l hp hl).1⟩⟩
      have hfb : ∀ (i : Nat) (p : Value) (g : Nat), ps[i]? = some p → p.ownBlock = some g → wr.heap.size ≤ g := fun i p g hp hg => by
        have hi : i < L.length := by rw [← hpay.1]; exact (List.getElem?_eq_some_iff.1 hp).1
        exact (hpay.2 i p L[i] hp (by simp [hi])).2.1 g hg
      have FB := hid hfb
      have R4 := hid hr4
      have B4 := hid (Pays.bls hown hpay)
      have TWL := hid TW.out.tlt
      clear hown hfr hpay hk hr4 hfb HS
      obtain ⟨ax, cx, px, hx1, hx2, hx3, _⟩ := TW4.out.b
      have x4 := row_cell hx1 0
      simp at x4
      have BX := hid (Pays.bls hx2 hx3)
      clear hx1 hx2 hx3
      go_wp2_with fail
      refine (same_yes (by exact B4.out) (by exact BX.out)).mono ?_; rintro e w5 ⟨rfl, hk5⟩
      have TW5 := hid (TW4.out.kept hk5 (fun _ h => h.elim)); have BL5 := hid (BL4.out.trans (hk5.fresh BL4.out.size)); have R5 := hid (R4.out.kept hk5)
      clear hk5 x4 TW4 BL4 R4 B4 BX
      obtain ⟨wo, rfl⟩ : ∃ wo : World, wo = wr := ⟨_, rfl⟩
      go_wp2_with fail
      go_loopw [62] (fun i wr => ∃ j : Nat, j ≤ L.length ∧ i = .int .i64 j ∧ Rws wr (.slice ao L.length ca) L ps ∧ Kept (fun g => wo.heap.size ≤ g) w5 wr) (fun i _ => L.length - (intOf i).toNat)
      case atStart => exact ⟨0, Nat.zero_le _, rfl, R5.out, Kept.refl _ _⟩
      case round =>
        clear R5
        obtain ⟨j, hj, rfl, hR, hK⟩ := hrel
        have R := hid hR; have KK := hid hK; clear hR hK
        by_cases hjl : j < L.length
        · obtain ⟨ga, ca', ea, hn1, hn2⟩ := R.out.1.some_of_pos (by omega)
          simp only [Value.slice.injEq] at ea
          obtain ⟨rfl, _, rfl⟩ := ea
          have hpl : ps.length = L.length := by simpa using R.out.1.len
          obtain ⟨p, hp⟩ : ∃ p, ps[j]'(by omega) = p := ⟨_, rfl⟩
          have hp' : ps[j]? = some p := by simp [hp, hpl, hjl]
          obtain ⟨l, hl⟩ : ∃ l, L[j] = l := ⟨_, rfl⟩
          have hl' : L[j]? = some l := by simp [hl, hjl]
          have c0 := R.out.1.cells (g := ga) rfl j (by omega)
          rw [hp] at c0
          obtain ⟨ys0, ho0⟩ := R.out.2 j p l hp' hl'
          obtain ⟨pa, pc, rfl⟩ := ho0.isSlice
          have HP := hid hp'; have HL := hid hl'; have HPL := hid hpl
          clear hp hp' hl hl' hpl ho0
          unfold maxLen at hn2
          go_wp2_with fail
          obtain ⟨wi, rfl⟩ : ∃ wi : World, wi = wr := ⟨_, rfl⟩
          go_loopw [70] (fun i wr => ∃ q : Nat, q ≤ l.length ∧ i = .int .i64 q ∧ Rws wr (.slice (some ⟨ga, 0, none⟩) L.length ca) L ps ∧ Kept (fun g => wo.heap.size ≤ g) w5 wr) (fun i _ => l.length - (intOf i).toNat)
          case atStart => exact ⟨0, Nat.zero_le _, rfl, R.out, KK.out⟩
          case round =>
            clear R KK
            obtain ⟨q, hq, rfl, hR, hK⟩ := hrel
            have R := hid hR; have KK := hid hK; clear hR hK
            by_cases hql : q < l.length
            · obtain ⟨ys, ho⟩ := R.out.2 j _ l HP.out HL.out
              obtain ⟨gp, pc', ep, hm1, hm2⟩ := ho.some_of_pos (by omega)
              simp only [Value.slice.injEq] at ep
              obtain ⟨rfl, _, rfl⟩ := ep
              unfold maxLen at hm2
              have hyl : ys.length = l.length := by simpa [u8s] using ho.len
              have c1 := R.out.1.cells (g := ga) rfl j (by have := HPL.out; omega)
              rw [(List.getElem?_eq_some_iff.1 HP.out).2] at c1
              have hcell := ho.cells (g := gp) rfl q (by simp [u8s]; omega)
              have hfrz := ho.free (g := gp) rfl q
              obtain ⟨z, hcv⟩ : ∃ z, (u8s ys)[q]'(by simp [u8s]; omega) = .int .u8 z := ⟨ys[q]'(by omega), by simp [u8s]⟩
              rw [hcv] at hcell
              obtain ⟨cur, hcur⟩ := ho.block (g := gp) rfl
              have HCUR := hid hcur
              clear ho hcv hyl hcur c0
              go_wp2
              go_roundw
              case rel => exact ⟨q + 1, by omega, by go_num, R.out.set HCUR.out q _, KK.out.setCell (p := ⟨gp, q, none⟩) (.inl (FB.out j _ gp HP.out rfl)) _⟩
              case measure => simp [intOf]; omega
            · go_wp2
              go_roundw
              case rel => exact ⟨j + 1, by omega, by go_num, R.out, KK.out⟩
              case measure => simp [intOf]; omega
        · clear R
          have TW6 := hid (TW5.out.kept KK.out (fun g hg => ⟨fun h => TWL.out.1 g hg h, fun h => TWL.out.2 g hg h⟩))
          have BL6 := hid (BL5.out.trans (KK.out.below BL5.out.size (fun g hg => Nat.le_trans BL.out.size hg)))
          clear KK TW5 BL5
          obtain ⟨ax, cx, px, hx1, hx2, hx3, _⟩ := TW6.out.b
          have x4 : wr.drew.cell? ⟨w2.heap.size, 0, none⟩ = some (.slice ax L.length cx) := by have := row_cell hx1 0; simpa using this
          have BX := hid (Pays.bls hx2 hx3)
          clear hx1 hx2 hx3
          go_wp2_with fail
          go_region_held3 (fun w' => w'.cell? ⟨w2.heap.size, 0, none⟩ = some (.slice ax L.length cx)) (first | exact x4 | exact x7 | exact x8)
            (first
              | (go_at_call 14; (with_reducible refine (all_any (TW6.out.kept (K := fun _ => False) (Kept.refl _ _).drew (fun _ h => h.elim)).a hl20).mono ?_); rintro e w7 ⟨a7, c7, p7, rfl, hown, _, hpay, hk⟩; have x7 := hk.cell x4 id; have B7 := hid (Pays.bls hown hpay); have BX7 := hid (show Bls w7 (.slice ax L.length cx) L from bls_kept (bls_kept BX.out (Kept.refl _ _).drew) hk); have BL7 := hid ((BL6.out.drew).trans (hk.fresh BL6.out.size)); clear hown hpay hk)
              | (go_at_call 15; (with_reducible refine (same_yes (by exact B7.out) (by exact BX7.out)).mono ?_); rintro e w8 ⟨rfl, hk8⟩; have x8 := hk8.cell x7 id; have BL8 := hid (BL7.out.trans (hk8.fresh BL7.out.size)); clear hk8)
              | (go_at_call 12; (with_reducible refine (len_nil _).mono ?_); rintro e w9 ⟨rfl, rfl⟩)
              | (go_at_call 14; (with_reducible refine (all_nil _).mono ?_); rintro e w9 ⟨rfl, rfl⟩))
          all_goals
            go_wp2
            go_ret
            exact ⟨rfl, BL8.out⟩
end Go.Proofs.Ytoefffnodamocaa
