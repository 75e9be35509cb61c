/- The walk of SpanCounts. -/
import Derived.Test.YtglcpiokmieppaaS
namespace Go.Proofs.Ytglcpiokmieppaa
open Go.RowKit

theorem counts_law {X Y A B : List Sp} (hA : ∀ x ∈ A, B32 x) (hB : ∀ x ∈ B, B32 x) (hX : X = addAll [] A) (hY : Y = addAll [] B) :
    cntS (meet X Y) + cntS (addAll X B) = cntS X + cntS Y ∧ (∀ n, hasB (meet X Y) n = (hasB X n && hasB Y n)) ∧ ∀ n, hasB (addAll X B) n = (hasB X n || hasB Y n) := by
  have a := addAll_law A [] Good.nil hA
  have b := addAll_law B [] Good.nil hB
  rw [← hX] at a; rw [← hY] at b
  have e := addAll_law B X a.1 hB
  have m := meet_law a.1 b.1
  have he : ∀ n, Has (addAll X B) n ↔ Has X n ∨ Has Y n := fun n => by
    rw [e.2, b.2 n]
    have : ¬ Has [] n := by simp [Has]
    simp [this]
  refine ⟨?_, fun n => ?_, fun n => ?_⟩
  · rw [m.1.cntIs, e.1.cntIs, a.1.cntIs, b.1.cntIs]
    have h1 : cN (hasS (meet X Y)) 4294967296 = cN (fun n => hasS X n && hasS Y n) 4294967296 := cN_congr (fun n => by rw [Bool.eq_iff_iff, Bool.and_eq_true, hasS_iff, hasS_iff, hasS_iff]; exact m.2 n) _
    have h2 : cN (hasS (addAll X B)) 4294967296 = cN (fun n => hasS X n || hasS Y n) 4294967296 := cN_congr (fun n => by rw [Bool.eq_iff_iff, Bool.or_eq_true, hasS_iff, hasS_iff, hasS_iff]; exact he n) _
    rw [h1, h2]
    have := cN_or (hasS X) (hasS Y) 4294967296
    omega
  · rw [Bool.eq_iff_iff, Bool.and_eq_true, has_iff m.1, has_iff a.1, has_iff b.1]; exact m.2 n
  · rw [Bool.eq_iff_iff, Bool.or_eq_true, has_iff e.1, has_iff a.1, has_iff b.1]; exact he n
set_option maxRecDepth 100000 in
set_option maxHeartbeats 8000000 in
theorem counts_walk (W : World) (args : Array Value) (h : RdAll Try.prog W Try.f5.params.toList args.toList) :
    Calls Try.prog 5 args W fun e W' => e = .returned (.bool true) ∧ Below W.heap.size W W' := by
  rw [Try.params5] at h
  obtain ⟨v0, v1, v2, rfl⟩ : ∃ v0 v1 v2, args = #[v0, v1, v2] := by
    rcases args with ⟨_ | ⟨v0, _ | ⟨v1, _ | ⟨v2, _ | ⟨v3, l⟩⟩⟩⟩⟩ <;> simp [RdAll] at h
    exact ⟨v0, v1, v2, rfl⟩
  obtain ⟨r0, r1, r2, _⟩ := h
  obtain ⟨ao, ac, A, rfl, hA, nA, bA⟩ := list_read r0
  obtain ⟨bo, bc, B, rfl, hB, nB, bB⟩ := list_read r1
  obtain ⟨n, rfl, _⟩ := r2.int Try.underlying23
  have LA := hid hA; have LB := hid hB; have BA := hid bA; have BB := hid bB
  clear hA hB bA bB r0 r1 r2
  go_enter Try.func5, Try.ntmps5
  go_wp2_with fail
  refine (awake_any _).mono ?_; rintro e w1 ⟨rfl, hk1⟩
  have K1 := hid hk1; clear hk1
  go_wp2_with fail
  refine (new_any _).mono ?_
  rintro e w2 ⟨rfl, hs2, hk2⟩
  have X2 := hid (st_new hs2); have K2 := hid hk2; clear hs2 hk2
  go_wp2_with fail
  refine (new_any _).mono ?_
  rintro e w3 ⟨rfl, hs3, hk3⟩
  have h12 := (X2.out.r _ rfl).2
  have X3 := hid (X2.out.same hk3); have Y3 := hid (st_new hs3); have K3 := hid hk3; clear hs3 hk3 X2
  go_wp2_with fail
  refine (new_any _).mono ?_
  rintro e w4 ⟨rfl, hs4, hk4⟩
  have h23 := (Y3.out.r _ rfl).2
  have X4 := hid (X3.out.same hk4); have Y4 := hid (Y3.out.same hk4); have E4 := hid (st_new hs4); have K4 := hid hk4
  clear hs4 hk4 X3 Y3
  have hW1 := K1.out.size
  have B4 := hid ((((K1.out.trans K2.out).trans K3.out).trans K4.out).below (B := W.heap.size) (Nat.le_refl _) (fun _ h => h.elim))
  have T5 := hid ((three_new (X4.out.weak hW1) (Y4.out.weak (Nat.le_trans hW1 K2.out.size)) (E4.out.weak (Nat.le_trans hW1 (Nat.le_trans K2.out.size K3.out.size))) h12 h23).push (.cells #[.slice ao A.length ac, .slice bo B.length bc] 39))
  obtain ⟨sx, hsx⟩ : ∃ sx, sx = w1.heap.size := ⟨_, rfl⟩
  obtain ⟨sy, hsy⟩ : ∃ sy, sy = w2.heap.size := ⟨_, rfl⟩
  obtain ⟨se, hse⟩ : ∃ se, se = w3.heap.size := ⟨_, rfl⟩
  rw [← hsx, ← hsy, ← hse] at T5
  go_wp2_with fail
  rw [← hsx, ← hsy, ← hse]
  clear X4 Y4 E4 K1 K2 K3 K4 hsx hsy hse h12 h23 hW1
  obtain ⟨lb, hlb⟩ : ∃ lb, lb = w4.heap.size := ⟨_, rfl⟩
  rw [← hlb] at T5 ⊢
  go_loopw [26] (fun i wr => ∃ (k : Nat) (X Y E : List Sp), k ≤ 2 ∧ i = .int .i64 k ∧ Below W.heap.size W wr ∧ Three W.heap.size wr sx sy se [(lb, .cells #[.slice ao A.length ac, .slice bo B.length bc] 39)] X Y E ∧
    (k = 0 → X = [] ∧ Y = [] ∧ E = []) ∧ (k = 1 → X = addAll [] (A.take 25) ∧ Y = [] ∧ E = addAll [] (A.take 25)) ∧ (k = 2 → X = addAll [] (A.take 25) ∧ Y = addAll [] (B.take 25) ∧ E = addAll (addAll [] (A.take 25)) (B.take 25))) (fun i _ => 2 - (intOf i).toNat)
  case atStart => exact ⟨0, [], [], [], by omega, rfl, B4.out.alloc B4.out.size _, T5.out, fun _ => ⟨rfl, rfl, rfl⟩, fun h => by omega, fun h => by omega⟩
  case round =>
    clear B4 T5 hlb
    obtain ⟨k, X, Y, E, hk, rfl, hb, ht, c0, c1, c2⟩ := hrel
    have HB := hid hb; have HT := hid ht
    obtain ⟨d0, d1, _⟩ := cell2 (ht.c _ (List.mem_singleton.2 rfl))
    clear hb ht
    by_cases h0 : k = 0
    · obtain ⟨rfl, rfl, rfl⟩ := c0 h0
      subst h0
      clear c0 c1 c2 hk
      go_wp2_with fail
      obtain ⟨wo, rfl⟩ : ∃ wo : World, wo = wr := ⟨_, rfl⟩
      go_loopw [33] (fun i wr => ∃ j : Nat, j ≤ A.length ∧ i = .int .i64 j ∧ Below W.heap.size W wr ∧ Three W.heap.size wr sx sy se [(lb, .cells #[.slice ao A.length ac, .slice bo B.length bc] 39)] (addAll [] (A.take (min j 25))) ([]) (addAll [] (A.take (min j 25)))) (fun i _ => A.length - (intOf i).toNat)
      case atStart => exact ⟨0, Nat.zero_le _, rfl, HB.out, HT.out⟩
      case round =>
        clear HB HT d0 d1
        obtain ⟨j, hj, rfl, hb, ht⟩ := hrel
        have HB := hid hb; have HT := hid ht; clear hb ht
        by_cases hlt : j < A.length
        · obtain ⟨g1, o1, q1, e1, m1, m2, _, _, z1⟩ := LA.out.cell (by omega)
          simp only [Value.slice.injEq] at e1
          obtain ⟨rfl, _, rfl⟩ := e1
          unfold maxLen at m2
          obtain ⟨x0, x1⟩ := scells_at A j A[j] (by simp [hlt])
          have hnF : ¬ W.heap.size ≤ g1 := by assumption
          have y0 := (below_kept HB.out).cell (z1 _ _ x0) hnF
          have y1 := (below_kept HB.out).cell (z1 _ _ x1) hnF
          have hb32 := BA.out _ (List.getElem_mem hlt)
          have s25 := fun S => step25 S A j hlt
          obtain ⟨⟨p, q⟩, hpq⟩ : ∃ s, A[j] = s := ⟨_, rfl⟩
          rw [hpq] at y0 y1 hb32
          simp only [hpq] at s25
          simp only [← Nat.add_assoc] at y0 y1
          obtain ⟨b1, b2, b3, b4⟩ := hb32
          simp only at b1 b2 b3 b4
          have S25 := hid s25
          clear x0 x1 z1 m1 hpq s25 hnF
          by_cases h25 : j < 25
          · have i25 : ¬ (25 : Int) ≤ (j : Int) := by omega
            by_cases hpq : q < p
            · have ht := HT.out.same ((Kept.refl (fun _ => False) wr).alloc (.cells #[.int .u32 p, .int .u32 q] 31))
              go_wp2
              go_roundw
              case rel => exact ⟨j + 1, hlt, by go_num, HB.out.alloc HB.out.size _, by rw [S25.out, if_pos h25, addS_none _ _ _ hpq]; exact ht⟩
              case measure => simp [intOf]; omega
            · have hc : chk p q = 0 := by simp [chk, hpq]
              have HT2 := hid (HT.out.push (.cells #[.int .u32 p, .int .u32 q] 31))
              have HB2 := hid (HB.out.alloc HB.out.size (.cells #[.int .u32 p, .int .u32 q] 31))
              clear HT HB
              go_wp2_with fail
              refine (HT2.out.add p q b1 b4).mono ?_
              rintro e w6 ⟨rfl, ht6, hb6⟩
              rw [hc]
              obtain ⟨k0, k1, _⟩ := cell2 (ht6.c _ List.mem_cons_self)
              have HT6 := hid (ht6.rot.rot); have HB6 := hid (HB2.out.trans hb6)
              clear ht6 hb6 HT2 HB2
              go_wp2_with fail
              refine (HT6.out.add p q b1 b4).mono ?_
              rintro e w7 ⟨rfl, ht7, hb7⟩
              rw [hc]
              have HT7 := hid (ht7.rot.pop); have HB7 := hid (HB6.out.trans hb7)
              clear ht7 hb7 HT6 HB6 k0 k1
              go_wp2
              go_roundw
              case rel => exact ⟨j + 1, hlt, by go_num, HB7.out, by rw [S25.out, if_pos h25]; exact HT7.out⟩
              case measure => simp [intOf]; omega
          · have i25 : (25 : Int) ≤ (j : Int) := by omega
            have ht := HT.out.same ((Kept.refl (fun _ => False) wr).alloc (.cells #[.int .u32 p, .int .u32 q] 31))
            go_wp2
            go_roundw
            case rel => exact ⟨j + 1, hlt, by go_num, HB.out.alloc HB.out.size _, by rw [S25.out, if_neg h25]; exact ht⟩
            case measure => simp [intOf]; omega
        · obtain rfl : j = A.length := by omega
          have ht := HT.out
          rw [end25] at ht
          have HT9 := hid ht; clear ht HT
          go_wp2
          go_roundw
          case rel => exact ⟨1, _, _, _, by omega, by go_num, HB.out, HT9.out, fun h => by omega, fun _ => ⟨rfl, rfl, rfl⟩, fun h => by omega⟩
          case measure => simp [intOf]
    · by_cases h1 : k = 1
      · obtain ⟨rfl, rfl, rfl⟩ := c1 h1
        subst h1
        clear c0 c1 c2 hk h0
        go_wp2_with fail
        obtain ⟨wo, rfl⟩ : ∃ wo : World, wo = wr := ⟨_, rfl⟩
        go_loopw [33] (fun i wr => ∃ j : Nat, j ≤ B.length ∧ i = .int .i64 j ∧ Below W.heap.size W wr ∧ Three W.heap.size wr sx sy se [(lb, .cells #[.slice ao A.length ac, .slice bo B.length bc] 39)] (addAll [] (A.take 25)) (addAll [] (B.take (min j 25))) (addAll (addAll [] (A.take 25)) (B.take (min j 25)))) (fun i _ => B.length - (intOf i).toNat)
        case atStart => exact ⟨0, Nat.zero_le _, rfl, HB.out, HT.out⟩
        case round =>
          clear HB HT d0 d1
          obtain ⟨j, hj, rfl, hb, ht⟩ := hrel
          have HB := hid hb; have HT := hid ht; clear hb ht
          by_cases hlt : j < B.length
          · obtain ⟨g1, o1, q1, e1, m1, m2, _, _, z1⟩ := LB.out.cell (by omega)
            simp only [Value.slice.injEq] at e1
            obtain ⟨rfl, _, rfl⟩ := e1
            unfold maxLen at m2
            obtain ⟨x0, x1⟩ := scells_at B j B[j] (by simp [hlt])
            have hnF : ¬ W.heap.size ≤ g1 := by assumption
            have y0 := (below_kept HB.out).cell (z1 _ _ x0) hnF
            have y1 := (below_kept HB.out).cell (z1 _ _ x1) hnF
            have hb32 := BB.out _ (List.getElem_mem hlt)
            have s25 := fun S => step25 S B j hlt
            obtain ⟨⟨p, q⟩, hpq⟩ : ∃ s, B[j] = s := ⟨_, rfl⟩
            rw [hpq] at y0 y1 hb32
            simp only [hpq] at s25
            simp only [← Nat.add_assoc] at y0 y1
            obtain ⟨b1, b2, b3, b4⟩ := hb32
            simp only at b1 b2 b3 b4
            have S25 := hid s25
            clear x0 x1 z1 m1 hpq s25 hnF
            by_cases h25 : j < 25
            · have i25 : ¬ (25 : Int) ≤ (j : Int) := by omega
              by_cases hpq : q < p
              · have ht := HT.out.same ((Kept.refl (fun _ => False) wr).alloc (.cells #[.int .u32 p, .int .u32 q] 31))
                go_wp2
                go_roundw
                case rel => exact ⟨j + 1, hlt, by go_num, HB.out.alloc HB.out.size _, by rw [S25.out, if_pos h25, addS_none _ _ _ hpq, S25.out, if_pos h25, addS_none _ _ _ hpq]; exact ht⟩
                case measure => simp [intOf]; omega
              · have hc : chk p q = 0 := by simp [chk, hpq]
                have HT2 := hid (HT.out.push (.cells #[.int .u32 p, .int .u32 q] 31))
                have HB2 := hid (HB.out.alloc HB.out.size (.cells #[.int .u32 p, .int .u32 q] 31))
                clear HT HB
                go_wp2_with fail
                refine (HT2.out.rot.add p q b1 b4).mono ?_
                rintro e w6 ⟨rfl, ht6, hb6⟩
                rw [hc]
                obtain ⟨k0, k1, _⟩ := cell2 (ht6.c _ List.mem_cons_self)
                have HT6 := hid (ht6.rot); have HB6 := hid (HB2.out.trans hb6)
                clear ht6 hb6 HT2 HB2
                go_wp2_with fail
                refine (HT6.out.add p q b1 b4).mono ?_
                rintro e w7 ⟨rfl, ht7, hb7⟩
                rw [hc]
                have HT7 := hid (ht7.rot.pop); have HB7 := hid (HB6.out.trans hb7)
                clear ht7 hb7 HT6 HB6 k0 k1
                go_wp2
                go_roundw
                case rel => exact ⟨j + 1, hlt, by go_num, HB7.out, by rw [S25.out, if_pos h25, S25.out, if_pos h25]; exact HT7.out⟩
                case measure => simp [intOf]; omega
            · have i25 : (25 : Int) ≤ (j : Int) := by omega
              have ht := HT.out.same ((Kept.refl (fun _ => False) wr).alloc (.cells #[.int .u32 p, .int .u32 q] 31))
              go_wp2
              go_roundw
              case rel => exact ⟨j + 1, hlt, by go_num, HB.out.alloc HB.out.size _, by rw [S25.out, if_neg h25, S25.out, if_neg h25]; exact ht⟩
              case measure => simp [intOf]; omega
          · obtain rfl : j = B.length := by omega
            have ht := HT.out
            rw [end25] at ht
            have HT9 := hid ht; clear ht HT
            go_wp2
            go_roundw
            case rel => exact ⟨2, _, _, _, by omega, by go_num, HB.out, HT9.out, fun h => by omega, fun h => by omega, fun _ => ⟨rfl, rfl, rfl⟩⟩
            case measure => simp [intOf]
      · have h2 : k = 2 := by omega
        obtain ⟨rfl, rfl, rfl⟩ := c2 h2
        subst h2
        clear c0 c1 c2 hk h0 h1 d0 d1
        obtain ⟨X, hX⟩ : ∃ X, X = addAll [] (A.take 25) := ⟨_, rfl⟩
        obtain ⟨Y, hY⟩ : ∃ Y, Y = addAll [] (B.take 25) := ⟨_, rfl⟩
        obtain ⟨E, hE⟩ : ∃ E, E = addAll X (B.take 25) := ⟨_, rfl⟩
        rw [← hX, ← hY, ← hE] at HT
        obtain ⟨k1, k2, k3⟩ := counts_law (fun x hx => BA.out x (List.mem_of_mem_take hx)) (fun x hx => BB.out x (List.mem_of_mem_take hx)) hX hY
        rw [← hE] at k1 k3
        have gX := HT.out.one.g.cnt; have gY := HT.out.rot.one.g.cnt; have gE := HT.out.rot.rot.one.g.cnt
        have gM := (meet_law HT.out.one.g HT.out.rot.one.g).1.cnt
        have w1' : IntKind.u64.wrap (cntS (meet X Y) + cntS E) = cntS (meet X Y) + cntS E := by simp [IntKind.wrap, IntKind.bits, IntKind.signed]; omega
        have w2' : IntKind.u64.wrap (cntS X + cntS Y) = cntS X + cntS Y := by simp [IntKind.wrap, IntKind.bits, IntKind.signed]; omega
        have heq : (cntS (meet X Y) + cntS E == cntS X + cntS Y) = true := by simpa using k1
        have H2 := hid k2; have H3 := hid k3; have HX0 := hid hX; have HY0 := hid hY
        clear hX hY hE k1 k2 k3 gX gY gE gM
        go_wp2_with fail
        refine (HT.out.one.meet HT.out.rot.one).mono ?_
        rintro e w8 ⟨rfl, hm, hk⟩
        have M8 := hid hm; have T8 := hid (HT.out.same hk); have B8 := hid (HB.out.trans (hk.below (B := W.heap.size) HB.out.size (fun _ h => h.elim)))
        obtain ⟨ms, hms⟩ : ∃ ms, ms = wr.heap.size := ⟨_, rfl⟩
        rw [← hms] at M8 ⊢
        clear hm hk HT HB hms
        by_cases hbx : hasB X n = true
        · by_cases hby : hasB Y n = true
          · have hx : hasB X n = true := by simpa using hbx
            have hy : hasB Y n = true := by simpa using hby
            have hmn : hasB (meet X Y) n = true := by rw [H2.out n, hx, hy]; rfl
            have hen : hasB E n = true := by rw [H3.out n, hx, hy]; rfl
            have HX := hid hx; have HY := hid hy; have HMN := hid hmn; have HEN := hid hen
            clear hx hy hmn hen hbx hby
            go_wp2_with fail
            refine (M8.out.count).mono ?_
            rintro e w9 ⟨rfl, hk⟩
            have M9 := hid (M8.out.same hk); have T9 := hid (T8.out.same hk); have B9 := hid (B8.out.trans (hk.below (B := W.heap.size) B8.out.size (fun _ h => h.elim)))
            clear hk M8 T8 B8
            go_wp2_with fail
            refine (T9.out.rot.rot.one.count).mono ?_
            rintro e w10 ⟨rfl, hk⟩
            have M10 := hid (M9.out.same hk); have T10 := hid (T9.out.same hk); have B10 := hid (B9.out.trans (hk.below (B := W.heap.size) B9.out.size (fun _ h => h.elim)))
            clear hk M9 T9 B9
            go_wp2_with fail
            refine (T10.out.one.count).mono ?_
            rintro e w11 ⟨rfl, hk⟩
            have M11 := hid (M10.out.same hk); have T11 := hid (T10.out.same hk); have B11 := hid (B10.out.trans (hk.below (B := W.heap.size) B10.out.size (fun _ h => h.elim)))
            clear hk M10 T10 B10
            go_wp2_with fail
            refine (T11.out.rot.one.count).mono ?_
            rintro e w12 ⟨rfl, hk⟩
            have M12 := hid (M11.out.same hk); have T12 := hid (T11.out.same hk); have B12 := hid (B11.out.trans (hk.below (B := W.heap.size) B11.out.size (fun _ h => h.elim)))
            clear hk M11 T11 B11
            go_wp2_with fail
            refine (M12.out.has n).mono ?_
            rintro e w13 ⟨rfl, hk⟩
            have M13 := hid (M12.out.same hk); have T13 := hid (T12.out.same hk); have B13 := hid (B12.out.trans (hk.below (B := W.heap.size) B12.out.size (fun _ h => h.elim)))
            clear hk M12 T12 B12
            rw [HMN.out]
            go_wp2_with fail
            refine (T13.out.one.has n).mono ?_
            rintro e w14 ⟨rfl, hk⟩
            have M14 := hid (M13.out.same hk); have T14 := hid (T13.out.same hk); have B14 := hid (B13.out.trans (hk.below (B := W.heap.size) B13.out.size (fun _ h => h.elim)))
            clear hk M13 T13 B13
            rw [HX.out]
            go_wp2_with fail
            refine (T14.out.rot.one.has n).mono ?_
            rintro e w15 ⟨rfl, hk⟩
            have M15 := hid (M14.out.same hk); have T15 := hid (T14.out.same hk); have B15 := hid (B14.out.trans (hk.below (B := W.heap.size) B14.out.size (fun _ h => h.elim)))
            clear hk M14 T14 B14
            rw [HY.out]
            go_wp2_with fail
            refine (T15.out.rot.rot.one.has n).mono ?_
            rintro e w16 ⟨rfl, hk⟩
            have M16 := hid (M15.out.same hk); have T16 := hid (T15.out.same hk); have B16 := hid (B15.out.trans (hk.below (B := W.heap.size) B15.out.size (fun _ h => h.elim)))
            clear hk M15 T15 B15
            rw [HEN.out]
            go_wp2_with fail
            refine (T16.out.one.has n).mono ?_
            rintro e w17 ⟨rfl, hk⟩
            have M17 := hid (M16.out.same hk); have T17 := hid (T16.out.same hk); have B17 := hid (B16.out.trans (hk.below (B := W.heap.size) B16.out.size (fun _ h => h.elim)))
            clear hk M16 T16 B16
            rw [HX.out]
            go_wp2
            go_ret
            exact ⟨rfl, B17.out⟩
          · have hx : hasB X n = true := by simpa using hbx
            have hy : hasB Y n = false := by simpa using hby
            have hmn : hasB (meet X Y) n = false := by rw [H2.out n, hx, hy]; rfl
            have hen : hasB E n = true := by rw [H3.out n, hx, hy]; rfl
            have HX := hid hx; have HY := hid hy; have HMN := hid hmn; have HEN := hid hen
            clear hx hy hmn hen hbx hby
            go_wp2_with fail
            refine (M8.out.count).mono ?_
            rintro e w9 ⟨rfl, hk⟩
            have M9 := hid (M8.out.same hk); have T9 := hid (T8.out.same hk); have B9 := hid (B8.out.trans (hk.below (B := W.heap.size) B8.out.size (fun _ h => h.elim)))
            clear hk M8 T8 B8
            go_wp2_with fail
            refine (T9.out.rot.rot.one.count).mono ?_
            rintro e w10 ⟨rfl, hk⟩
            have M10 := hid (M9.out.same hk); have T10 := hid (T9.out.same hk); have B10 := hid (B9.out.trans (hk.below (B := W.heap.size) B9.out.size (fun _ h => h.elim)))
            clear hk M9 T9 B9
            go_wp2_with fail
            refine (T10.out.one.count).mono ?_
            rintro e w11 ⟨rfl, hk⟩
            have M11 := hid (M10.out.same hk); have T11 := hid (T10.out.same hk); have B11 := hid (B10.out.trans (hk.below (B := W.heap.size) B10.out.size (fun _ h => h.elim)))
            clear hk M10 T10 B10
            go_wp2_with fail
            refine (T11.out.rot.one.count).mono ?_
            rintro e w12 ⟨rfl, hk⟩
            have M12 := hid (M11.out.same hk); have T12 := hid (T11.out.same hk); have B12 := hid (B11.out.trans (hk.below (B := W.heap.size) B11.out.size (fun _ h => h.elim)))
            clear hk M11 T11 B11
            go_wp2_with fail
            refine (M12.out.has n).mono ?_
            rintro e w13 ⟨rfl, hk⟩
            have M13 := hid (M12.out.same hk); have T13 := hid (T12.out.same hk); have B13 := hid (B12.out.trans (hk.below (B := W.heap.size) B12.out.size (fun _ h => h.elim)))
            clear hk M12 T12 B12
            rw [HMN.out]
            go_wp2_with fail
            refine (T13.out.one.has n).mono ?_
            rintro e w14 ⟨rfl, hk⟩
            have M14 := hid (M13.out.same hk); have T14 := hid (T13.out.same hk); have B14 := hid (B13.out.trans (hk.below (B := W.heap.size) B13.out.size (fun _ h => h.elim)))
            clear hk M13 T13 B13
            rw [HX.out]
            go_wp2_with fail
            refine (T14.out.rot.one.has n).mono ?_
            rintro e w15 ⟨rfl, hk⟩
            have M15 := hid (M14.out.same hk); have T15 := hid (T14.out.same hk); have B15 := hid (B14.out.trans (hk.below (B := W.heap.size) B14.out.size (fun _ h => h.elim)))
            clear hk M14 T14 B14
            rw [HY.out]
            go_wp2_with fail
            refine (T15.out.rot.rot.one.has n).mono ?_
            rintro e w16 ⟨rfl, hk⟩
            have M16 := hid (M15.out.same hk); have T16 := hid (T15.out.same hk); have B16 := hid (B15.out.trans (hk.below (B := W.heap.size) B15.out.size (fun _ h => h.elim)))
            clear hk M15 T15 B15
            rw [HEN.out]
            go_wp2_with fail
            refine (T16.out.one.has n).mono ?_
            rintro e w17 ⟨rfl, hk⟩
            have M17 := hid (M16.out.same hk); have T17 := hid (T16.out.same hk); have B17 := hid (B16.out.trans (hk.below (B := W.heap.size) B16.out.size (fun _ h => h.elim)))
            clear hk M16 T16 B16
            rw [HX.out]
            go_wp2
            go_ret
            exact ⟨rfl, B17.out⟩
        · by_cases hby : hasB Y n = true
          · have hx : hasB X n = false := by simpa using hbx
            have hy : hasB Y n = true := by simpa using hby
            have hmn : hasB (meet X Y) n = false := by rw [H2.out n, hx, hy]; rfl
            have hen : hasB E n = true := by rw [H3.out n, hx, hy]; rfl
            have HX := hid hx; have HY := hid hy; have HMN := hid hmn; have HEN := hid hen
            clear hx hy hmn hen hbx hby
            go_wp2_with fail
            refine (M8.out.count).mono ?_
            rintro e w9 ⟨rfl, hk⟩
            have M9 := hid (M8.out.same hk); have T9 := hid (T8.out.same hk); have B9 := hid (B8.out.trans (hk.below (B := W.heap.size) B8.out.size (fun _ h => h.elim)))
            clear hk M8 T8 B8
            go_wp2_with fail
            refine (T9.out.rot.rot.one.count).mono ?_
            rintro e w10 ⟨rfl, hk⟩
            have M10 := hid (M9.out.same hk); have T10 := hid (T9.out.same hk); have B10 := hid (B9.out.trans (hk.below (B := W.heap.size) B9.out.size (fun _ h => h.elim)))
            clear hk M9 T9 B9
            go_wp2_with fail
            refine (T10.out.one.count).mono ?_
            rintro e w11 ⟨rfl, hk⟩
            have M11 := hid (M10.out.same hk); have T11 := hid (T10.out.same hk); have B11 := hid (B10.out.trans (hk.below (B := W.heap.size) B10.out.size (fun _ h => h.elim)))
            clear hk M10 T10 B10
            go_wp2_with fail
            refine (T11.out.rot.one.count).mono ?_
            rintro e w12 ⟨rfl, hk⟩
            have M12 := hid (M11.out.same hk); have T12 := hid (T11.out.same hk); have B12 := hid (B11.out.trans (hk.below (B := W.heap.size) B11.out.size (fun _ h => h.elim)))
            clear hk M11 T11 B11
            go_wp2_with fail
            refine (M12.out.has n).mono ?_
            rintro e w13 ⟨rfl, hk⟩
            have M13 := hid (M12.out.same hk); have T13 := hid (T12.out.same hk); have B13 := hid (B12.out.trans (hk.below (B := W.heap.size) B12.out.size (fun _ h => h.elim)))
            clear hk M12 T12 B12
            rw [HMN.out]
            go_wp2_with fail
            refine (T13.out.one.has n).mono ?_
            rintro e w14 ⟨rfl, hk⟩
            have M14 := hid (M13.out.same hk); have T14 := hid (T13.out.same hk); have B14 := hid (B13.out.trans (hk.below (B := W.heap.size) B13.out.size (fun _ h => h.elim)))
            clear hk M13 T13 B13
            rw [HX.out]
            go_wp2_with fail
            refine (T14.out.rot.rot.one.has n).mono ?_
            rintro e w15 ⟨rfl, hk⟩
            have M15 := hid (M14.out.same hk); have T15 := hid (T14.out.same hk); have B15 := hid (B14.out.trans (hk.below (B := W.heap.size) B14.out.size (fun _ h => h.elim)))
            clear hk M14 T14 B14
            rw [HEN.out]
            go_wp2_with fail
            refine (T15.out.one.has n).mono ?_
            rintro e w16 ⟨rfl, hk⟩
            have M16 := hid (M15.out.same hk); have T16 := hid (T15.out.same hk); have B16 := hid (B15.out.trans (hk.below (B := W.heap.size) B15.out.size (fun _ h => h.elim)))
            clear hk M15 T15 B15
            rw [HX.out]
            go_wp2_with fail
            refine (T16.out.rot.one.has n).mono ?_
            rintro e w17 ⟨rfl, hk⟩
            have M17 := hid (M16.out.same hk); have T17 := hid (T16.out.same hk); have B17 := hid (B16.out.trans (hk.below (B := W.heap.size) B16.out.size (fun _ h => h.elim)))
            clear hk M16 T16 B16
            rw [HY.out]
            go_wp2
            go_ret
            exact ⟨rfl, B17.out⟩
          · have hx : hasB X n = false := by simpa using hbx
            have hy : hasB Y n = false := by simpa using hby
            have hmn : hasB (meet X Y) n = false := by rw [H2.out n, hx, hy]; rfl
            have hen : hasB E n = false := by rw [H3.out n, hx, hy]; rfl
            have HX := hid hx; have HY := hid hy; have HMN := hid hmn; have HEN := hid hen
            clear hx hy hmn hen hbx hby
            go_wp2_with fail
            refine (M8.out.count).mono ?_
            rintro e w9 ⟨rfl, hk⟩
            have M9 := hid (M8.out.same hk); have T9 := hid (T8.out.same hk); have B9 := hid (B8.out.trans (hk.below (B := W.heap.size) B8.out.size (fun _ h => h.elim)))
            clear hk M8 T8 B8
            go_wp2_with fail
            refine (T9.out.rot.rot.one.count).mono ?_
            rintro e w10 ⟨rfl, hk⟩
            have M10 := hid (M9.out.same hk); have T10 := hid (T9.out.same hk); have B10 := hid (B9.out.trans (hk.below (B := W.heap.size) B9.out.size (fun _ h => h.elim)))
            clear hk M9 T9 B9
            go_wp2_with fail
            refine (T10.out.one.count).mono ?_
            rintro e w11 ⟨rfl, hk⟩
            have M11 := hid (M10.out.same hk); have T11 := hid (T10.out.same hk); have B11 := hid (B10.out.trans (hk.below (B := W.heap.size) B10.out.size (fun _ h => h.elim)))
            clear hk M10 T10 B10
            go_wp2_with fail
            refine (T11.out.rot.one.count).mono ?_
            rintro e w12 ⟨rfl, hk⟩
            have M12 := hid (M11.out.same hk); have T12 := hid (T11.out.same hk); have B12 := hid (B11.out.trans (hk.below (B := W.heap.size) B11.out.size (fun _ h => h.elim)))
            clear hk M11 T11 B11
            go_wp2_with fail
            refine (M12.out.has n).mono ?_
            rintro e w13 ⟨rfl, hk⟩
            have M13 := hid (M12.out.same hk); have T13 := hid (T12.out.same hk); have B13 := hid (B12.out.trans (hk.below (B := W.heap.size) B12.out.size (fun _ h => h.elim)))
            clear hk M12 T12 B12
            rw [HMN.out]
            go_wp2_with fail
            refine (T13.out.one.has n).mono ?_
            rintro e w14 ⟨rfl, hk⟩
            have M14 := hid (M13.out.same hk); have T14 := hid (T13.out.same hk); have B14 := hid (B13.out.trans (hk.below (B := W.heap.size) B13.out.size (fun _ h => h.elim)))
            clear hk M13 T13 B13
            rw [HX.out]
            go_wp2_with fail
            refine (T14.out.rot.rot.one.has n).mono ?_
            rintro e w15 ⟨rfl, hk⟩
            have M15 := hid (M14.out.same hk); have T15 := hid (T14.out.same hk); have B15 := hid (B14.out.trans (hk.below (B := W.heap.size) B14.out.size (fun _ h => h.elim)))
            clear hk M14 T14 B14
            rw [HEN.out]
            go_wp2_with fail
            refine (T15.out.one.has n).mono ?_
            rintro e w16 ⟨rfl, hk⟩
            have M16 := hid (M15.out.same hk); have T16 := hid (T15.out.same hk); have B16 := hid (B15.out.trans (hk.below (B := W.heap.size) B15.out.size (fun _ h => h.elim)))
            clear hk M15 T15 B15
            rw [HX.out]
            go_wp2_with fail
            refine (T16.out.rot.one.has n).mono ?_
            rintro e w17 ⟨rfl, hk⟩
            have M17 := hid (M16.out.same hk); have T17 := hid (T16.out.same hk); have B17 := hid (B16.out.trans (hk.below (B := W.heap.size) B16.out.size (fun _ h => h.elim)))
            clear hk M16 T16 B16
            rw [HY.out]
            go_wp2
            go_ret
            exact ⟨rfl, B17.out⟩
end Go.Proofs.Ytglcpiokmieppaa
