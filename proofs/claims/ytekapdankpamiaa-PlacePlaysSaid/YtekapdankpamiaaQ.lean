/- PlacePlays' walk. -/
import Derived.Test.YtekapdankpamiaaP
namespace Go.Proofs.Ytekapdankpamiaa
open Go.RowKit
set_option maxRecDepth 100000 in
set_option maxHeartbeats 2000000 in
theorem plays_walk (W : World) (args : Array Value) (h : RdAll Try.prog W Try.f4.params.toList args.toList) :
    Calls Try.prog 4 args W fun e W' => e = .returned (.bool true) ∧ Below W.heap.size W W' := by
  rw [Try.params4] at h
  obtain ⟨v0, v1, rfl⟩ : ∃ v0 v1, args = #[v0, v1] := by
    rcases args with ⟨_ | ⟨v0, _ | ⟨v1, _ | ⟨v2, l⟩⟩⟩⟩ <;> simp [RdAll] at h
    exact ⟨v0, v1, rfl⟩
  obtain ⟨r0, r1, _⟩ := h
  obtain ⟨n, rfl, wf0⟩ := r0.int Try.underlying3
  obtain ⟨ao, cap, L, rfl, hL, hll, bL⟩ := script_read r1
  have HL := hid hL; have BL := hid bL
  obtain ⟨N, hN⟩ : ∃ N, L.length = N := ⟨_, rfl⟩
  have HN := hid hN
  have hcap : L.length ≤ cap ∧ cap ≤ maxLen := by
    obtain ⟨_, _, e, h1, h2, _⟩ := HL.out
    simp only [Value.slice.injEq] at e
    obtain ⟨_, _, rfl⟩ := e
    exact ⟨h1, h2⟩
  unfold maxLen at hcap
  rw [hN] at hll hcap ⊢
  clear r0 r1 wf0 hL bL hN
  by_cases hn : 0 < n ∧ n ≤ 4
  · have HNN := hid hn
    clear hn
    go_enter Try.func4, Try.ntmps4
    go_wp2_with fail
    refine (awake_any _).mono ?_; rintro e w1 ⟨rfl, hb1⟩
    have K1 := hid (Kept.of_below hb1 (fun _ => False))
    have z1 := hb1.size
    clear hb1
    go_wp2_with fail
    refine (new_ok n _ HNN.out).mono ?_; rintro e w2 ⟨rfl, hd, hk⟩
    have DA2 := hid hd; have K2 := hid (K1.out.trans hk); have z2 := row_lt hd.obj
    obtain ⟨ma, hma⟩ : ∃ ma, w1.heap.size = ma := ⟨_, rfl⟩
    rw [hma] at z1 z2 DA2 ⊢
    clear hd hk hma K1
    go_wp2_with fail
    refine (docnew_ok n _ HNN.out).mono ?_; rintro e w3 ⟨yb, rfl, hd, hk, hyb⟩
    have PA := hid (PS.lt (T := w3.heap.size) (.inr ⟨ma + 1, ma, yb, rfl, rfl, DA2.out.kept hk id id, hd, HNN.out, fun v h => by simp at h, fun v h => by simp at h, by have := hk.size; omega, by obtain ⟨_, hy, _⟩ := hd; have := row_lt hy; omega⟩ : PS W.heap.size w3.heap.size w3 (some ⟨ma + 1, 0, none⟩) (some ⟨yb, 0, none⟩) n (fun _ => none) (fun _ => none)))
    have KA := hid (K2.out.trans hk)
    obtain ⟨db, hdb⟩ : ∃ db, ma + 1 = db := ⟨_, rfl⟩
    rw [hdb] at PA ⊢
    clear hd hk hdb z2 DA2 K2
    go_wp2_with fail
    go_loopw [38] (fun i wr => ∃ (k : Nat) (g : Gm), k ≤ N ∧ i = .int .i64 k ∧ PS W.heap.size wr.heap.size wr (some ⟨db, 0, none⟩) (some ⟨yb, 0, none⟩) n g g ∧ Kept (fun _ => False) W wr) (fun i _ => N - (RowKit.intOf i).toNat)
    case atStart => exact ⟨0, fun _ => none, Nat.zero_le _, rfl, PA.out, KA.out⟩
    case round =>
      rename World => wr
      obtain ⟨k, g, hk, rfl, hps, hkp⟩ := hrel
      have PR := hid hps; have KR := hid hkp
      clear hps hkp PA KA
      by_cases hlt : k < N
      · have hltI : (k : Int) < (N : Int) := by omega
        obtain ⟨m, hm⟩ : ∃ m, L[k]? = some m := ⟨_, List.getElem?_eq_getElem (by rw [HN.out]; exact hlt)⟩
        obtain ⟨gs, os, rfl, c0, c1, c2, c3, c4, c5⟩ := op_cells HL.out KR.out hm
        have hmb := hid (BL.out m (List.mem_of_getElem? hm))
        obtain ⟨v, u, tt, nd, ep, si⟩ := m
        simp only at c0 c1 c2 c3 c4 c5
        clear hm
        by_cases h150 : (k : Int) < 150
        · go_wp2_with fail
          refine (play_any (B := W.heap.size) (n := n) (g := g) (by exact (PR.out.same ((Kept.refl _ _).alloc _)).lt) v u tt nd ep si hmb.out).mono ?_
          rintro e w' ⟨rfl, hp, hk'⟩
          have PN := hid hp.lt; have KN := hid ((KR.out.alloc _).trans' hk' (fun i h => .inr h.1))
          clear hp hk'
          go_wp2
          go_roundw
          case rel => exact ⟨k + 1, _, by omega, by go_num, PN.out, KN.out⟩
          case measure => (simp only [RowKit.intOf]; omega)
        · go_wp2
          go_roundw
          case rel => exact ⟨k + 1, g, by omega, by go_num, (PR.out.same ((Kept.refl _ _).alloc _)).lt, KR.out.alloc _⟩
          case measure => (simp only [RowKit.intOf]; omega)
      · obtain rfl : k = N := by omega
        rcases PR.out with ⟨h, _⟩ | ⟨db', mb', yb', e1, e2, h1, h2, h3, h4, h5, h6, h7⟩
        · cases h
        simp only [Option.some.injEq, Addr.mk.injEq] at e1 e2
        obtain ⟨rfl, _⟩ := e1
        obtain ⟨rfl, _⟩ := e2
        have D1 := hid h1; have X1 := hid h2; have HD := hid h4
        clear h1 h2 h3 h4 h5 h6 h7
        go_wp2_with fail
        refine (list_any D1.out HD.out).mono ?_
        rintro e w4 ⟨la, lc, rfl, ho, hf, hk4⟩
        have X4 := hid (X1.out.same hk4); have D4 := hid (D1.out.kept hk4 id id); have HO := hid ho; have HF := hid hf; have K4 := hid hk4
        have hx4 := X1.out.same hk4
        obtain ⟨xv, hxy, hxo⟩ := hx4
        obtain ⟨xa, xc, rfl⟩ := hxo.isSlice
        have LA := hid (ho.lies (ecells_one g (doms g)) (F := fun _ => False) (fun _ _ => id))
        have LB := hid (hxo.lies (ecells_one g (doms g)) (F := fun _ => False) (fun _ _ => id))
        have hdl := doms_len g
        have c1 := row_cell hxy 1
        simp only [List.getElem?_toArray, List.getElem?_cons_zero, List.getElem?_cons_succ] at c1
        clear ho hf hk4 hxy hxo
        go_wp2_with fail
        refine (same_yes LA.out LB.out (by omega)).mono ?_
        rintro e w5 ⟨rfl, hk5⟩
        have K5 := hid (K4.out.trans hk5)
        have HO5 := hid (HO.out.kept hk5 (fun _ _ => id))
        have hxs : ∀ j, j < (doms g).length → ∃ x, (ecells g (doms g))[j * 3]? = some (.int .u32 x) := fun j hj => ⟨_, (ent_cells (g := g) (doms g) j _ (List.getElem?_eq_getElem hj)).1⟩
        have HXS := hid hxs
        obtain ⟨M, hM⟩ : ∃ M, (doms g).length = M := ⟨_, rfl⟩
        obtain ⟨xs0, hx0⟩ : ∃ xs, ecells g (doms g) = xs := ⟨_, rfl⟩
        rw [hM, hx0] at HO5 HXS
        rw [hM] at HF ⊢
        rw [hM] at hdl
        clear hk5 hxs hM hx0 LA LB c1 X4 D4 HO K4
        go_wp2_with fail
        go_loopw [68] (fun i wz => ∃ (j : Nat) (xs : List Value), j ≤ M ∧ i = .int .i64 j ∧ Own wz 33 3 (.slice la M lc) M xs ∧ (∀ j, j < M → ∃ x, xs[j * 3]? = some (.int .u32 x)) ∧ Kept (fun i => wr.heap.size ≤ i) wr wz) (fun i _ => M - (RowKit.intOf i).toNat)
        case atStart => exact ⟨0, xs0, Nat.zero_le _, rfl, HO5.out, HXS.out, K5.out.mono (fun _ _ h => h.elim)⟩
        case round =>
          rename World => wz
          obtain ⟨j, xs, hj, rfl, ho, hx, hkp⟩ := hrel
          have HZ := hid ho; have HXZ := hid hx; have KZ := hid hkp
          clear ho hx hkp HO5 HXS K5
          by_cases hjlt : j < M
          · have hjltI : (j : Int) < (M : Int) := by omega
            obtain ⟨gs, sc', hse, hs1, hs2⟩ := HZ.out.some_of_pos (by omega)
            simp only [Value.slice.injEq] at hse
            obtain ⟨rfl, _, rfl⟩ := hse
            obtain ⟨x, hx⟩ := HXZ.out j hjlt
            obtain ⟨hi, he⟩ := List.getElem?_eq_some_iff.1 hx
            have cz := (HZ.out.cells rfl (j * 3) hi).trans (by rw [he])
            have fz := HZ.out.free (g := gs) rfl (j * 3)
            have hset := fun z => HZ.out.set (g := gs) rfl (j * 3) (.int .u32 z)
            have hgs := HF.out gs rfl
            have HST := hid hset; have HGS := hid hgs
            unfold maxLen at hs2
            clear hx he hset hgs
            go_wp2
            go_roundw
            case rel =>
              refine ⟨j + 1, xs.set (j * 3) (.int .u32 _), by omega, by go_num, HST.out _, fun q hq => ?_, KZ.out.setCell (p := ⟨gs, j * 3, none⟩) (.inl HGS.out) _⟩
              obtain ⟨x', hx'⟩ := HXZ.out q hq
              by_cases hqj : q = j
              · exact ⟨_, by rw [hqj, List.getElem?_set_self hi]⟩
              · exact ⟨x', by rw [List.getElem?_set_ne (by omega)]; exact hx'⟩
            case measure => (simp only [RowKit.intOf]; omega)
          · obtain rfl : j = M := by omega
            have hDZ := hid (D1.out.kept KZ.out (by have := row_lt D1.out.obj; omega) (by obtain ⟨_, h, _⟩ := D1.out.map; have := h.lt; omega))
            have hXZ := hid (X1.out.kept KZ.out (by obtain ⟨_, h, _⟩ := X1.out; have := row_lt h; omega) (fun b cur h => Nat.not_le_of_lt (row_lt h)))
            have KW := hid (KR.out.trans' KZ.out (fun i h => .inr (by have := KR.out.size; omega)))
            clear D1 X1 HZ HXZ PR KR KZ HF
            have hDr := hid (hDZ.out.kept (Kept.refl (fun _ => False) wz).drew id id)
            obtain ⟨xv, hxy, hxo⟩ := hXZ.out.same (Kept.refl (fun _ => False) wz).drew
            obtain ⟨ya, yc, rfl⟩ := hxo.isSlice
            have hs0 := row_cell hxy 1
            simp only [List.getElem?_toArray, List.getElem?_cons_zero, List.getElem?_cons_succ] at hs0
            have LB := hid (hxo.lies (ecells_one g (doms g)) (F := fun _ => False) (fun _ _ => id))
            have HGL := hid (doms_len g)
            clear hxy hxo hXZ hDZ
            go_wp2_with fail
            go_region_held3 (fun w' => w'.cell? ⟨yb, 1, none⟩ = some (.slice ya (doms g).length yc)) (first | exact hs0 | exact hs1 | exact hs2)
              (first
                | (go_at_call 14; refine (list_any hDr.out HD.out).mono ?_; rintro e w6 ⟨lb, ld, rfl, ho, _, hk⟩; have LA6 := hid (ho.lies (ecells_one g (doms g)) (F := fun _ => False) (fun _ _ => id)); have LB6 := hid (LB.out.same hk); have K6 := hid hk; have hs1 := hk.cell hs0 id; clear ho hk hs0)
                | (go_at_call 15; refine (same_yes LA6.out LB6.out (by have := HGL.out; omega)).mono ?_; rintro e w7 ⟨rfl, hk⟩; have K7 := hid hk; have hs2 := hk.cell hs1 id; clear hk hs1))
            go_wp2
            go_ret
            exact ⟨rfl, (((KW.out.trans (Kept.refl (fun _ => False) wz).drew).trans K6.out).trans K7.out).below (Nat.le_refl _) (fun _ h => h.elim)⟩
  · have HNN := hid hn
    clear hn
    go_enter Try.func4, Try.ntmps4
    go_wp2_with fail
    refine (awake_any _).mono ?_; rintro e w1 ⟨rfl, hb1⟩
    have K1 := hid (Kept.of_below hb1 (fun _ => False))
    clear hb1
    go_wp2_with fail
    refine (new_bad n _ HNN.out).mono ?_; rintro e w2 ⟨rfl, rfl⟩
    go_wp2_with fail
    refine (docnew_bad n _ HNN.out).mono ?_; rintro e w3 ⟨rfl, rfl⟩
    have PA : Hid (PS W.heap.size w1.heap.size w1 none none n (fun _ => none) (fun _ => none)) := hid (.inl ⟨rfl, rfl⟩)
    have KA := hid K1.out
    clear K1
    go_wp2_with fail
    go_loopw [38] (fun i wr => ∃ (k : Nat) (g : Gm), k ≤ N ∧ i = .int .i64 k ∧ PS W.heap.size wr.heap.size wr (none) (none) n g g ∧ Kept (fun _ => False) W wr) (fun i _ => N - (RowKit.intOf i).toNat)
    case atStart => exact ⟨0, fun _ => none, Nat.zero_le _, rfl, PA.out, KA.out⟩
    case round =>
      rename World => wr
      obtain ⟨k, g, hk, rfl, hps, hkp⟩ := hrel
      have PR := hid hps; have KR := hid hkp
      clear hps hkp PA KA
      by_cases hlt : k < N
      · have hltI : (k : Int) < (N : Int) := by omega
        obtain ⟨m, hm⟩ : ∃ m, L[k]? = some m := ⟨_, List.getElem?_eq_getElem (by rw [HN.out]; exact hlt)⟩
        obtain ⟨gs, os, rfl, c0, c1, c2, c3, c4, c5⟩ := op_cells HL.out KR.out hm
        have hmb := hid (BL.out m (List.mem_of_getElem? hm))
        obtain ⟨v, u, tt, nd, ep, si⟩ := m
        simp only at c0 c1 c2 c3 c4 c5
        clear hm
        by_cases h150 : (k : Int) < 150
        · go_wp2_with fail
          refine (play_any (B := W.heap.size) (n := n) (g := g) (by exact (PR.out.same ((Kept.refl _ _).alloc _)).lt) v u tt nd ep si hmb.out).mono ?_
          rintro e w' ⟨rfl, hp, hk'⟩
          have PN := hid hp.lt; have KN := hid ((KR.out.alloc _).trans' hk' (fun i h => .inr h.1))
          clear hp hk'
          go_wp2
          go_roundw
          case rel => exact ⟨k + 1, _, by omega, by go_num, PN.out, KN.out⟩
          case measure => (simp only [RowKit.intOf]; omega)
        · go_wp2
          go_roundw
          case rel => exact ⟨k + 1, g, by omega, by go_num, (PR.out.same ((Kept.refl _ _).alloc _)).lt, KR.out.alloc _⟩
          case measure => (simp only [RowKit.intOf]; omega)
      · obtain rfl : k = N := by omega
        go_wp2_with fail
        refine (list_nil _).mono ?_; rintro e w2 ⟨rfl, rfl⟩
        go_wp2
        go_ret
        exact ⟨rfl, KR.out.below (Nat.le_refl _) (fun _ h => h.elim)⟩
end Go.Proofs.Ytekapdankpamiaa
