/- The walk of SpanBack. -/
import Derived.Test.YtglcpiokmieppaaV
namespace Go.Proofs.Ytglcpiokmieppaa
open Go.RowKit

theorem SP.grow {B : Nat} {w w' : World} {sb : Nat} {N : Nat → Prop} {S : List Sp} (h : SP B w sb N S) (k : Kept (fun _ => False) w w') : ∃ M, SP B w' sb M S ∧ (∀ g, N g → M g) ∧ (∀ g, w.heap.size ≤ g → g < w'.heap.size → M g) :=
  ⟨_, h.same k, fun _ hg => .inl hg, fun _ h1 h2 => .inr ⟨h1, h2⟩⟩
theorem FreshR.liesN {n0 : Nat} {w : World} {v : Value} {L : List Sp} (h : FreshR n0 w v L) {N : Nat → Prop} (hN : ∀ g, n0 ≤ g → g < w.heap.size → N g) : Lies (fun g => ¬ N g) w 2 v L.length (scells L) :=
  h.lies.mono (fun g h1 h2 => Nat.lt_of_not_le (fun h3 => h2 (hN g h3 h1)))
theorem Fresh.liesN {n0 : Nat} {w : World} {v : Value} {L : List Sp} (h : Fresh n0 w v L) {N : Nat → Prop} (hN : ∀ g, n0 ≤ g → g < w.heap.size → N g) : Lies (fun g => ¬ N g) w 2 v L.length (scells L) :=
  h.lies.mono (fun g h1 h2 => Nat.lt_of_not_le (fun h3 => h2 (hN g h3 h1)))
theorem SetN.count {N : Nat → Prop} {w : World} {sb : Nat} {S : List Sp} (h : SetN N w sb S) :
    Calls Try.prog 17 #[.pointer (some ⟨sb, 0, none⟩)] w fun e w' => e = .returned (.int .u64 (cntS S)) ∧ Kept (fun _ => False) w w' := by
  obtain ⟨F, h, _⟩ := h
  exact count_any h
theorem SetN.spans {N : Nat → Prop} {w : World} {sb : Nat} {S : List Sp} (h : SetN N w sb S) :
    Calls Try.prog 13 #[.pointer (some ⟨sb, 0, none⟩)] w fun e w' => ∃ ao c, e = .returned (.slice ao S.length c) ∧ Fresh w.heap.size w' (.slice ao S.length c) S ∧ Kept (fun _ => False) w w' := by
  obtain ⟨F, h, _⟩ := h
  refine (spans_any h).mono ?_
  rintro e w' ⟨v, rfl, ⟨ao, c, rfl, h1, h2⟩, hk⟩
  exact ⟨ao, c, rfl, ⟨ao, c, rfl, h1, h2⟩, hk⟩
theorem meetN {B : Nat} {w : World} {sa sb : Nat} {N : Nat → Prop} {S T : List Sp} (h : S1 B w sa S) (k : SetN N w sb T) :
    Calls Try.prog 23 #[.pointer (some ⟨sa, 0, none⟩), .pointer (some ⟨sb, 0, none⟩)] w fun e w' => e = .returned (.tuple #[.pointer (some ⟨w.heap.size, 0, none⟩), .int .i64 0]) ∧ S1 w.heap.size w' w.heap.size (meet S T) ∧ Kept (fun _ => False) w w' := by
  obtain ⟨F, h⟩ := h
  obtain ⟨G, k, _⟩ := k
  refine (meet_any h.s k).mono ?_
  rintro e w' ⟨h1, h2, h3⟩
  exact ⟨h1, ⟨_, h2.lt, fun g hg => hg⟩, h3⟩
set_option maxRecDepth 100000 in
set_option maxHeartbeats 8000000 in
theorem back_walk (W : World) (args : Array Value) (h : RdAll Try.prog W Try.f7.params.toList args.toList) :
    Calls Try.prog 7 args W fun e W' => e = .returned (.bool true) ∧ Below W.heap.size W W' := by
  rw [Try.params7] at h
  obtain ⟨v0, v1, rfl⟩ : ∃ v0 v1, args = #[v0, v1] := by
    rcases args with ⟨_ | ⟨v0, _ | ⟨v1, _ | ⟨v2, l⟩⟩⟩⟩ <;> simp [RdAll] at h
    exact ⟨v0, v1, rfl⟩
  obtain ⟨r0, r1, _⟩ := h
  obtain ⟨ao, ac, L, rfl, hL, nL, bL⟩ := list_read r0
  obtain ⟨cs, rfl, h1⟩ := r1.struct Try.underlying31
  obtain ⟨⟨a, b⟩, e1, hx⟩ := span_read (by rw [(h1.struct Try.underlying31).1]; exact cellsR2) h1
  obtain rfl : cs = #[.int .u32 a, .int .u32 b] := by
    apply Array.ext'
    rw [e1]; rfl
  obtain ⟨xa0, xa1, xb0, xb1⟩ := hx
  simp only at xa0 xa1 xb0 xb1
  have LA := hid hL; have BA := hid bL
  clear hL bL r0 r1 h1 e1
  obtain ⟨N0, hN0⟩ : ∃ N0 : Nat → Prop, N0 = fun g => g = W.heap.size := ⟨_, rfl⟩
  go_enter Try.func7, Try.ntmps7
  go_wp2_with fail
  refine (awake_any _).mono ?_; rintro e w1 ⟨rfl, hk1⟩
  have X1 := hid ((hk1.block W.heap.size (by simp) id).trans (row_new W (.cells #[.int .u32 a, .int .u32 b] 31)))
  have B1 := hid (((Below.refl W.heap.size W).alloc (Nat.le_refl _) (.cells #[.int .u32 a, .int .u32 b] 31)).trans (hk1.below (B := W.heap.size) (by simp) (fun _ h => h.elim)))
  clear hk1
  go_wp2_with fail
  refine (new_any _).mono ?_
  rintro e w2 ⟨rfl, hs2, hk2⟩
  have X2 := hid ((hk2.block W.heap.size (row_lt X1.out) id).trans X1.out)
  have B2 := hid (B1.out.trans (hk2.below (B := W.heap.size) B1.out.size (fun _ h => h.elim)))
  have T2 := hid (show SP W.heap.size w2 w1.heap.size N0 [] from ⟨_, (st_new hs2).weak B1.out.size, fun g hg => by rw [hN0] at hg; subst hg; have := row_lt X1.out; exact ⟨by omega, row_lt X2.out⟩⟩)
  have HN0 := hid (show N0 W.heap.size by rw [hN0])
  clear hs2 hk2 X1 B1 hN0
  go_wp2_with fail
  obtain ⟨sb, hsb⟩ : ∃ sb, sb = w1.heap.size := ⟨_, rfl⟩
  rw [← hsb] at T2 ⊢
  clear hsb
  go_loopw [21] (fun i wr => ∃ k : Nat, k ≤ L.length ∧ i = .int .i64 k ∧ Below W.heap.size W wr ∧ SP W.heap.size wr sb N0 (addAll [] (L.take (min k 25))) ∧ wr.heap[W.heap.size]? = some (.cells #[.int .u32 a, .int .u32 b] 31 (0, 0))) (fun i _ => L.length - (intOf i).toNat)
  case atStart => exact ⟨0, Nat.zero_le _, rfl, B2.out, T2.out, X2.out⟩
  case round =>
    clear B2 T2 X2
    obtain ⟨k, hk, rfl, hb, ht, hx⟩ := hrel
    have HB := hid hb; have HT := hid ht; have HX := hid hx; clear hb ht hx
    by_cases hlt : k < L.length
    · obtain ⟨g1, o1, q1, e1, m1, m2, hnF, _, z1⟩ := LA.out.cell (by omega)
      simp only [Value.slice.injEq] at e1
      obtain ⟨rfl, _, rfl⟩ := e1
      unfold maxLen at m2
      obtain ⟨x0, x1⟩ := scells_at L k L[k] (by simp [hlt])
      have y0 := (below_kept HB.out).cell (z1 _ _ x0) hnF
      have y1 := (below_kept HB.out).cell (z1 _ _ x1) hnF
      have hb32 := BA.out _ (List.getElem_mem hlt)
      have s25 := step25 [] L k hlt
      obtain ⟨⟨p, q⟩, hpq⟩ : ∃ s, L[k] = s := ⟨_, rfl⟩
      rw [hpq] at y0 y1 hb32 s25
      simp only [← Nat.add_assoc] at y0 y1 s25
      obtain ⟨b1, b2, b3, b4⟩ := hb32
      simp only at b1 b2 b3 b4
      have S25 := hid s25
      clear x0 x1 z1 m1 hpq s25 hnF
      by_cases h25 : k < 25
      · have i25 : (k : Int) < (25 : Int) := by omega
        by_cases hpq : q < p
        · have ht := HT.out.keep ((Kept.refl (fun _ => False) wr).alloc (.cells #[.int .u32 p, .int .u32 q] 31))
          go_wp2
          go_roundw
          case rel => exact ⟨k + 1, hlt, by go_num, HB.out.alloc HB.out.size _, by rw [S25.out, if_pos h25, addS_none _ _ _ hpq]; exact ht, row_old HX.out _⟩
          case measure => simp [intOf]; omega
        · have hc : chk p q = 0 := by simp [chk, hpq]
          have HT2 := hid (HT.out.keep ((Kept.refl (fun _ => False) wr).alloc (.cells #[.int .u32 p, .int .u32 q] 31)))
          have HB2 := hid (HB.out.alloc HB.out.size (.cells #[.int .u32 p, .int .u32 q] 31))
          have HX2 := hid (row_old HX.out (.cells #[.int .u32 p, .int .u32 q] 31))
          clear HT HB HX
          go_wp2_with fail
          refine (HT2.out.add p q b1 b4).mono ?_
          rintro e w6 ⟨rfl, ht6, hb6, hk6⟩
          rw [hc]
          have HT6 := hid ht6; have HB6 := hid (HB2.out.trans hb6); have HX6 := hid ((hk6.block W.heap.size (row_lt HX2.out) (fun h => h HN0.out)).trans HX2.out)
          clear ht6 hb6 hk6 HT2 HB2 HX2
          go_wp2
          go_roundw
          case rel => exact ⟨k + 1, hlt, by go_num, HB6.out, by rw [S25.out, if_pos h25]; exact HT6.out, HX6.out⟩
          case measure => simp [intOf]; omega
      · have i25 : ¬ (k : Int) < (25 : Int) := by omega
        have ht := HT.out.keep ((Kept.refl (fun _ => False) wr).alloc (.cells #[.int .u32 p, .int .u32 q] 31))
        go_wp2
        go_roundw
        case rel => exact ⟨k + 1, hlt, by go_num, HB.out.alloc HB.out.size _, by rw [S25.out, if_neg h25]; exact ht, row_old HX.out _⟩
        case measure => simp [intOf]; omega
    · obtain rfl : k = L.length := by omega
      have ht := HT.out
      rw [end25] at ht
      obtain ⟨S, hS⟩ : ∃ S, S = addAll [] (L.take 25) := ⟨_, rfl⟩
      rw [← hS] at ht
      have T0 := hid ht
      clear ht HT hS LA BA hlt hk
      obtain ⟨c0, c1, _⟩ := cell2 HX.out
      by_cases hba : b < a
      · have hc : chk a b = 1 := by simp [chk, hba]
        go_wp2_with fail
        refine (T0.out.add a b xa0 xb1).mono ?_
        rintro e w3 ⟨rfl, ht, hb, hk⟩
        rw [hc]
        have c0' := hk.cell c0 (fun h => h HN0.out); have c1' := hk.cell c1 (fun h => h HN0.out)
        have T3 := hid ht; have B3 := hid (HB.out.trans hb)
        clear ht hb hk c0 c1 T0 HB
        go_wp2_with fail
        refine (T3.out.drop a b xa0 xb1).mono ?_
        rintro e w4 ⟨rfl, ht, hb, hk⟩
        rw [hc]
        have B4 := hid (B3.out.trans hb)
        clear ht hb hk c0' c1' T3 B3
        go_wp2
        go_ret
        exact ⟨rfl, B4.out⟩
      · have hc : chk a b = 0 := by simp [chk, hba]
        obtain ⟨k1, k2, k3, k4, k5⟩ := back_law T0.out.s1.g a b xa0 (by omega) xb1
        have L1 := hid k1; have L2 := hid k2; have L3 := hid k3; have L4 := hid k4; have L5 := hid k5
        have gS := T0.out.s1.g
        have GS := hid gS
        have nS := gS.len
        clear k1 k2 k3 k4 k5 gS
        go_wp2_with fail
        refine (T0.out.s1.spans).mono ?_
        rintro e w3 ⟨sa, sc, rfl, hf, hk⟩
        obtain ⟨N1, t3, n01, _⟩ := T0.out.grow hk
        have HF := hid hf; have T3 := hid t3; have B3 := hid (HB.out.trans (hk.below (B := W.heap.size) HB.out.size (fun _ h => h.elim))); have X3 := hid ((hk.block W.heap.size (row_lt HX.out) id).trans HX.out)
        have HN1 := hid (n01 _ HN0.out)
        clear hf hk t3 n01 T0 HB HX HN0 c0 c1
        go_wp2_with fail
        refine (conv_any HF.out.lies (by omega)).mono ?_
        rintro e w4 ⟨bv, rfl, hf, hk⟩
        obtain ⟨N2, t4, n12, r12⟩ := T3.out.grow hk
        have BEF := hid (hf.liesN r12)
        obtain ⟨bo, bc, ebv, _⟩ := hf
        have T4 := hid t4; have B4 := hid (B3.out.trans (hk.below (B := W.heap.size) B3.out.size (fun _ h => h.elim))); have X4 := hid ((hk.block W.heap.size (row_lt X3.out) id).trans X3.out)
        have HN2 := hid (n12 _ HN1.out)
        obtain ⟨c0, c1, _⟩ := cell2 X4.out
        subst ebv
        clear hk t4 n12 r12 T3 B3 X3 HN1 HF
        go_wp2_with fail
        refine (of_any (L := [(a, b)]) (lies_lit (row_new w4 _) rfl (by simp) (by decide)) (by simp [B32]; omega)).mono ?_
        rintro e w5 ⟨ho, _, hk⟩
        obtain ⟨ob, rfl, hs⟩ := ho (by simp [okL]; omega)
        rw [L1.out] at hs
        have hk' := ((Kept.refl (fun _ => False) w4).alloc (.cells #[.int .u32 a, .int .u32 b] 46)).trans hk
        obtain ⟨N3, t5, n23, r23⟩ := T4.out.grow hk'
        have ONE := hid (hs.setN (N := N3) (fun g h1 h2 => r23 g (by simp at h1; omega) h2))
        have BEF5 := hid (BEF.out.wide hk' n23)
        have T5 := hid t5; have B5 := hid (B4.out.trans (hk'.below (B := W.heap.size) B4.out.size (fun _ h => h.elim))); have X5 := hid ((hk'.block W.heap.size (row_lt X4.out) id).trans X4.out)
        have HN3 := hid (n23 _ HN2.out)
        clear ho hs hk hk' t5 n23 r23 BEF T4 B4 X4 HN2 c0 c1
        go_wp2_with fail
        refine (meetN T5.out.s1 ONE.out).mono ?_
        rintro e w6 ⟨rfl, hm, hk⟩
        obtain ⟨tb, htb⟩ : ∃ tb, tb = w5.heap.size := ⟨_, rfl⟩
        obtain ⟨N4, t6, n34, r34⟩ := T5.out.grow hk
        have BOTH := hid (hm.setN (N := N4) r34)
        have ONE6 := hid (ONE.out.wide hk n34)
        have BEF6 := hid (BEF5.out.wide hk n34)
        have T6 := hid t6; have B6 := hid (B5.out.trans (hk.below (B := W.heap.size) B5.out.size (fun _ h => h.elim))); have X6 := hid ((hk.block W.heap.size (row_lt X5.out) id).trans X5.out)
        have HN4 := hid (n34 _ HN3.out)
        rw [← htb] at BOTH ⊢
        clear hm hk t6 n34 r34 BEF5 ONE T5 B5 X5 HN3 htb
        go_wp2_with fail
        refine (BOTH.out.count).mono ?_
        rintro e w7 ⟨rfl, hk⟩
        have BOTH7 := hid (BOTH.out.wide hk (fun _ h => h)); have ONE7 := hid (ONE6.out.wide hk (fun _ h => h)); have BEF7 := hid (BEF6.out.wide hk (fun _ h => h)); have T7 := hid (T6.out.keep hk)
        have B7 := hid (B6.out.trans (hk.below (B := W.heap.size) B6.out.size (fun _ h => h.elim))); have X7 := hid ((hk.block W.heap.size (row_lt X6.out) id).trans X6.out)
        obtain ⟨c0, c1, _⟩ := cell2 X7.out
        clear hk BOTH ONE6 BEF6 T6 B6 X6
        go_wp2_with fail
        refine (T7.out.add a b xa0 xb1).mono ?_
        rintro e w8 ⟨rfl, ht, hb, hk⟩
        rw [hc]
        have BOTH8 := hid (BOTH7.out.kept hk); have ONE8 := hid (ONE7.out.kept hk); have BEF8 := hid (BEF7.out.still hk); have T8 := hid ht
        have B8 := hid (B7.out.trans hb); have X8 := hid ((hk.block W.heap.size (row_lt X7.out) (fun h => h HN4.out)).trans X7.out)
        clear hk ht hb c0 c1 BOTH7 ONE7 BEF7 T7 B7 X7
        obtain ⟨c0, c1, _⟩ := cell2 X8.out
        go_wp2_with fail
        refine (T8.out.drop a b xa0 xb1).mono ?_
        rintro e w9 ⟨rfl, ht, hb, hk⟩
        rw [hc]
        have BOTH9 := hid (BOTH8.out.kept hk); have ONE9 := hid (ONE8.out.kept hk); have BEF9 := hid (BEF8.out.still hk); have T9 := hid ht
        have B9 := hid (B8.out.trans hb)
        clear hk ht hb c0 c1 BOTH8 ONE8 BEF8 T8 B8 X8
        go_wp2_with fail
        refine (BOTH9.out.spans).mono ?_
        rintro e w10 ⟨ya, yc, rfl, hf, hk⟩
        obtain ⟨N5, t10, n45, r45⟩ := T9.out.grow hk
        have YL := hid (hf.liesN r45)
        have ONE10 := hid (ONE9.out.wide hk n45); have BEF10 := hid (BEF9.out.wide hk n45); have T10 := hid t10
        have B10 := hid (B9.out.trans (hk.below (B := W.heap.size) B9.out.size (fun _ h => h.elim)))
        clear hk t10 n45 r45 hf BOTH9 ONE9 BEF9 T9 B9
        obtain ⟨Y, hY⟩ : ∃ Y, Y = meet S [(a, b)] := ⟨_, rfl⟩
        rw [← hY] at YL L2 L3 L5 ⊢
        have gY : cntS Y ≤ 4294967296 := by have := L3.out; simp only [cntS] at this; omega
        clear hY
        go_wp2_with fail
        obtain ⟨wo, rfl⟩ : ∃ wo : World, wo = wr := ⟨_, rfl⟩
        go_loopw [108] (fun i wr => ∃ k : Nat, k ≤ Y.length ∧ i = .int .i64 k ∧ Below W.heap.size W wr ∧ SP W.heap.size wr sb N5 (addAll (dropS (addS S a b) a b) (Y.take k)) ∧ Kept (fun g => ¬ N5 g) w10 wr) (fun i _ => Y.length - (intOf i).toNat)
        case atStart => exact ⟨0, Nat.zero_le _, rfl, B10.out, T10.out, Kept.refl _ _⟩
        case round =>
          clear B10 T10
          obtain ⟨k, hk, rfl, hb, ht, hkk⟩ := hrel
          have HB := hid hb; have HT := hid ht; have HK := hid hkk; clear hb ht hkk
          by_cases hlt : k < Y.length
          · obtain ⟨g1, o1, q1, e1, m1, m2, hnF, _, z1⟩ := YL.out.cell (by omega)
            simp only [Value.slice.injEq] at e1
            obtain ⟨rfl, _, rfl⟩ := e1
            unfold maxLen at m2
            obtain ⟨x0, x1⟩ := scells_at Y k Y[k] (by simp [hlt])
            have y0 := HK.out.cell (z1 _ _ x0) hnF
            have y1 := HK.out.cell (z1 _ _ x1) hnF
            have hb32 := L5.out _ (List.getElem_mem hlt)
            have htk : addAll (dropS (addS S a b) a b) (Y.take (k + 1)) = addS (addAll (dropS (addS S a b) a b) (Y.take k)) Y[k].1 Y[k].2 := by rw [List.take_succ_eq_append_getElem hlt, addAll_snoc]
            obtain ⟨⟨p, q⟩, hpq⟩ : ∃ s, Y[k] = s := ⟨_, rfl⟩
            rw [hpq] at y0 y1 hb32 htk
            simp only [← Nat.add_assoc] at y0 y1 htk
            obtain ⟨⟨b1, b2, b3, b4⟩, b5⟩ := hb32
            simp only at b1 b2 b3 b4 b5
            have HTK := hid htk
            clear x0 x1 z1 hpq htk hnF
            have hc2 : chk p q = 0 := by simp [chk]; omega
            go_wp2_with fail
            refine ((HT.out.keep ((Kept.refl (fun _ => False) wr).alloc (.cells #[.int .u32 p, .int .u32 q] 46))).add p q b1 b4).mono ?_
            rintro e w11 ⟨rfl, ht, hb, hk11⟩
            rw [hc2]
            have HT11 := hid ht; have HB11 := hid ((HB.out.alloc HB.out.size _).trans hb); have HK11 := hid ((HK.out.alloc _).trans hk11)
            clear ht hb hk11 HT HB HK
            go_wp2
            go_roundw
            case rel => exact ⟨k + 1, hlt, by go_num, HB11.out, by rw [HTK.out]; exact HT11.out, HK11.out⟩
            case measure => simp [intOf]; omega
          · obtain rfl : k = Y.length := by omega
            have ht := HT.out
            rw [List.take_length, L2.out] at ht
            have T12 := hid ht
            have ONE12 := hid (ONE10.out.kept HK.out); have BEF12 := hid (BEF10.out.still HK.out)
            clear ht HT HK YL ONE10 BEF10 hlt hk
            go_wp2_with fail
            refine (T12.out.s1.spans).mono ?_
            rintro e w13 ⟨ua, uc, rfl, hf, hk⟩
            have HF := hid hf; have T13 := hid (T12.out.keep hk); have ONE13 := hid (ONE12.out.wide hk (fun _ h => h)); have BEF13 := hid (BEF12.out.wide hk (fun _ h => h)); have B13 := hid (HB.out.trans (hk.below (B := W.heap.size) HB.out.size (fun _ h => h.elim)))
            clear hf hk T12 ONE12 BEF12 HB
            go_wp2_with fail
            refine (conv_any HF.out.lies (by omega)).mono ?_
            rintro e w14 ⟨cv, rfl, hf, hk⟩
            have CV := hid hf.lies; have T14 := hid (T13.out.keep hk); have ONE14 := hid (ONE13.out.wide hk (fun _ h => h)); have BEF14 := hid (BEF13.out.wide hk (fun _ h => h)); have B14 := hid (B13.out.trans (hk.below (B := W.heap.size) B13.out.size (fun _ h => h.elim)))
            clear hf hk T13 ONE13 BEF13 B13 HF
            go_wp2_with fail
            refine (same_any CV.out BEF14.out).mono ?_
            rintro e w15 ⟨rfl, hk⟩
            have T15 := hid (T14.out.keep hk); have ONE15 := hid (ONE14.out.wide hk (fun _ h => h)); have BEF15 := hid (BEF14.out.wide hk (fun _ h => h)); have B15 := hid (B14.out.trans (hk.below (B := W.heap.size) B14.out.size (fun _ h => h.elim)))
            clear hk T14 ONE14 BEF14 B14 CV
            go_wp2_with fail
            refine (ONE15.out.count).mono ?_
            rintro e w16 ⟨rfl, hk⟩
            have T16 := hid (T15.out.keep hk); have BEF16 := hid (BEF15.out.wide hk (fun _ h => h)); have B16 := hid (B15.out.trans (hk.below (B := W.heap.size) B15.out.size (fun _ h => h.elim)))
            clear hk T15 ONE15 BEF15 B15
            have hle := L3.out
            go_wp2_with fail
            refine (T16.out.s1.count).mono ?_
            rintro e w17 ⟨rfl, hk⟩
            have BEF17 := hid (BEF16.out.wide hk (fun _ h => h)); have B17 := hid (B16.out.trans (hk.below (B := W.heap.size) B16.out.size (fun _ h => h.elim)))
            clear hk T16 BEF16 B16
            go_wp2_with fail
            refine (cnt_any BEF17.out GS.out).mono ?_
            rintro e w18 ⟨rfl, hk⟩
            have B18 := hid (B17.out.trans (hk.below (B := W.heap.size) B17.out.size (fun _ h => h.elim)))
            clear hk B17 BEF17
            go_wp2
            go_ret
            exact ⟨rfl, B18.out⟩
end Go.Proofs.Ytglcpiokmieppaa
