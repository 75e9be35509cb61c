/- The document's Sort. -/
import Derived.Test.YtfkkfjmdpkgicaaV
namespace Go.Proofs.Ytfkkfjmdpkgicaa
open Go.RowKit Go.Shelf
theorem docS_len (l : List Sp) : (docS l).length = l.length := by
  have h := (docS_any l [] List.Pairwise.nil).2.length_eq
  rw [List.nil_append] at h
  exact h
set_option maxRecDepth 100000 in
set_option maxHeartbeats 2000000 in
theorem dsort_any {F : Nat → Prop} {w : World} {a : Option Addr} {N c : Nat} {L : List Sp} (h : Lies F w 4 (.slice a N c) N (L.flatMap encS)) (hLN : L.length = N) (hN : N ≤ 1000000) :
    Calls Try.prog 19 #[.slice a N c] w fun e w' => ∃ (a' : Option Addr) (c' : Nat), e = .returned (.slice a' N c') ∧ Lies (fun _ => False) w' 4 (.slice a' N c') N ((docS L).flatMap encS) ∧ Kept (fun _ => False) w w' := by
  obtain ⟨hc1, hc2⟩ := lies_cap h
  unfold maxLen at hc2
  have HL := hid h; have HN := hid hLN
  clear h hLN
  go_enter Try.func19, Try.ntmps19
  go_wp2_with fail
  go_loopw [3, 12] (fun o i wr => ∃ (k : Nat) (a' : Option Addr) (c' : Nat), i = .int .i64 k ∧ k ≤ N ∧ o = .slice a' k c' ∧ Lies (fun _ => False) wr 4 (.slice a' k c') k ((docS (L.take k)).flatMap encS) ∧ Kept (fun _ => False) w wr) (fun _ i _ => N - (RowKit.intOf i).toNat)
  case atStart => exact ⟨0, none, 0, rfl, Nat.zero_le _, rfl, Lies.nil _ _ _, Kept.refl _ _⟩
  case round =>
    rename World => wA
    obtain ⟨k, oa, oc, rfl, hk, rfl, ho, hkp⟩ := hrel
    have OA := hid ho; have KA := hid hkp
    clear ho hkp
    by_cases hlt : k < N
    · have hltI : (k : Int) < (N : Int) := by omega
      obtain ⟨x, hx⟩ : ∃ x, L[k]? = some x := ⟨_, List.getElem?_eq_getElem (by rw [HN.out]; exact hlt)⟩
      obtain ⟨g, o, rfl, q0, q1, q2, q3⟩ := st_cells HL.out HN.out KA.out hx
      have HT := hid (show docS (L.take (k + 1)) = insS x (docS (L.take k)) by rw [List.take_add_one, hx]; exact docS_snoc _ _)
      obtain ⟨O, hO⟩ : ∃ O, docS (L.take k) = O := ⟨_, rfl⟩
      have hOl : O.length = k := by rw [← hO, docS_len, List.length_take, HN.out]; omega
      rw [hO] at OA HT
      have HOL := hid hOl
      obtain ⟨x1, x2, x3, x4⟩ := x
      simp only at q0 q1 q2 q3
      obtain ⟨ho1, ho2⟩ := lies_cap OA.out
      unfold maxLen at ho2
      clear hx hO hOl
      go_wp2_with fail
      have hr := row_new wA (.cells #[.int .u64 x1, .int .u8 x2, .int .u32 x3, .int .u32 x4] 46)
      have hk1 := (Kept.refl (fun _ => False) wA).alloc (.cells #[.int .u64 x1, .int .u8 x2, .int .u32 x3, .int .u32 x4] 46)
      obtain ⟨wo, hwo⟩ : ∃ wo, wA.alloc (.cells #[.int .u64 x1, .int .u8 x2, .int .u32 x3, .int .u32 x4] 46) = wo := ⟨_, rfl⟩
      obtain ⟨sb, hsb⟩ : ∃ sb, wA.heap.size = sb := ⟨_, rfl⟩
      rw [hwo] at hr hk1 ⊢
      rw [hsb] at hr ⊢
      have SB := hid hr; have OB := hid (OA.out.same hk1); have KB := hid (KA.out.trans hk1)
      clear hr hk1 hwo hsb OA KA q0 q1 q2 q3
      go_loopw [6, 7, 18] (fun nx dn i wr => ∃ (j m : Nat) (nl : List Sp) (d : Bool) (na : Option Addr) (nc : Nat), i = .int .i64 j ∧ j ≤ k ∧ nx = .slice na m nc ∧ dn = .bool d ∧ nl.length = m ∧ insF (x1, x2, x3, x4) (O.take j) = (nl, d) ∧ Own wr 46 4 (.slice na m nc) m (nl.flatMap encS) ∧ (∀ b, (Value.slice na m nc).ownBlock = some b → wo.heap.size ≤ b) ∧ Kept (fun _ => False) wo wr) (fun _ _ i _ => k - (RowKit.intOf i).toNat)
      case atStart => exact ⟨0, 0, [], false, none, 0, rfl, Nat.zero_le _, rfl, rfl, rfl, rfl, Own.nil _ _ _, fun b hb => by simp [Value.ownBlock] at hb, Kept.refl _ _⟩
      case round =>
        rename World => wr
        obtain ⟨j, m, nl, d, na, nc, rfl, hj, rfl, rfl, hm, hins, hown, hfr, hkp⟩ := hrel
        have HM := hid hm; have HI := hid hins; have NO := hid hown; have NF := hid hfr; have KR := hid hkp
        have hm1 : m ≤ j + 1 := by
          have h := insF_len (x1, x2, x3, x4) (O.take j)
          rw [hins] at h
          have h2 : (O.take j).length = j := by rw [List.length_take, HOL.out]; omega
          rw [h2] at h
          simp only at h
          omega
        obtain ⟨s0, s1, s2, s3⟩ := cells4' ((hkp.block sb (row_lt SB.out) id).trans SB.out)
        clear hm hins hown hfr hkp
        by_cases hlt2 : j < k
        · have hltJ : (j : Int) < (k : Int) := by omega
          obtain ⟨y, hy⟩ : ∃ y, O[j]? = some y := ⟨_, List.getElem?_eq_getElem (by rw [HOL.out]; exact hlt2)⟩
          obtain ⟨g2, o2, rfl, r0, r1, r2, r3⟩ := st_cells OB.out HOL.out KR.out hy
          have HS := hid (show insF (x1, x2, x3, x4) (O.take (j + 1)) = stepS (x1, x2, x3, x4) (nl, d) y by rw [List.take_add_one, hy, ← HI.out]; exact insF_snoc _ _ _)
          obtain ⟨y1, y2, y3, y4⟩ := y
          simp only at r0 r1 r2 r3
          clear hy
          have hr := row_new wr (.cells #[.int .u64 y1, .int .u8 y2, .int .u32 y3, .int .u32 y4] 46)
          have hk2 := (Kept.refl (fun _ => False) wr).alloc (.cells #[.int .u64 y1, .int .u8 y2, .int .u32 y3, .int .u32 y4] 46)
          obtain ⟨wb, hwb⟩ : ∃ wb, wr.alloc (.cells #[.int .u64 y1, .int .u8 y2, .int .u32 y3, .int .u32 y4] 46) = wb := ⟨_, rfl⟩
          obtain ⟨yb, hyb⟩ : ∃ yb, wr.heap.size = yb := ⟨_, rfl⟩
          rw [hwb] at hr hk2
          rw [hyb] at hr
          have YB := hid hr; have SB2 := hid ((hk2.block sb (row_lt ((KR.out.block sb (row_lt SB.out) id).trans SB.out)) id).trans ((KR.out.block sb (row_lt SB.out) id).trans SB.out))
          have NO2 := hid (NO.out.kept hk2 (fun _ _ => id)); have KR2 := hid (KR.out.trans hk2)
          have NL := hid (fun (b : Nat) (hb : (Value.slice na m nc).ownBlock = some b) => show b < yb from by rw [← hyb]; exact NO.out.lt hb)
          have HYO := hid (show wo.heap.size ≤ yb by rw [← hyb]; exact KR.out.size)
          obtain ⟨t0, t1, t2, t3⟩ := cells4' SB2.out
          obtain ⟨u0, u1, u2, u3⟩ := cells4' YB.out
          clear hr hk2 NO KR
          cases d with
          | true =>
            go_wp2_with (at_builtin; refine wpList_app rfl _ _ 41 rfl 46 _ 4 24 Try.underlying41 infoR rfl (by decide) _ m (nl.flatMap encS) rfl (by exact NO2.out.alloc _) _ rfl 1 _ (stamp_src _ y1 y2 y3 y4 _ (by simp)) (by unfold maxLen; omega) (by omega) ?_; intro a3 c3 w3 ho3 hk3 hf3 hj; clear hj; have HA3 := hid ho3; have HK3 := hid hk3; have HF3 := hid hf3; clear ho3 hk3 hf3)
            go_roundw
            case rel =>
              have hfl : (nl ++ [(y1, y2, y3, y4)]).flatMap encS = nl.flatMap encS ++ encS (y1, y2, y3, y4) := by simp
              refine ⟨j + 1, m + 1, nl ++ [(y1, y2, y3, y4)], true, a3, c3, by go_num, by omega, rfl, rfl, by simp [HM.out], by rw [HS.out]; simp [stepS], by rw [hfl]; exact HA3.out, fun b hb => ?_, (KR2.out.alloc _).trans' HK3.out (fun i hi => .inr (NF.out i hi))⟩
              rcases HF3.out b hb with h | h
              · exact NF.out b h
              · simp at h; have := KR2.out.size; omega
            case measure => (simp only [RowKit.intOf]; omega)
          | false =>
            go_wp2_with fail
            refine (elder_any (x1, x2, x3, x4) (y1, y2, y3, y4) _).mono ?_
            rintro e w4 ⟨rfl, hk4⟩
            obtain ⟨be, hbe⟩ : ∃ be, decide (eldS (x1, x2, x3, x4) (y1, y2, y3, y4)) = be := ⟨_, rfl⟩
            rw [hbe]
            have HBE := hid hbe
            have SB4 := hid ((hk4.block sb (row_lt SB2.out) id).trans SB2.out); have YB4 := hid ((hk4.block yb (row_lt YB.out) id).trans YB.out); have NO4 := hid (NO2.out.kept hk4 (fun _ _ => id)); have KR4 := hid (KR2.out.trans hk4)
            have HYL := hid (row_lt YB.out); have HSL := hid (row_lt SB.out)
            clear hk4 hbe t0 t1 t2 t3 u0 u1 u2 u3 SB2 YB NO2 KR2 r0 r1 r2 r3 s0 s1 s2 s3 hwb hyb
            obtain ⟨t0, t1, t2, t3⟩ := cells4' SB4.out
            obtain ⟨u0, u1, u2, u3⟩ := cells4' YB4.out
            cases be with
            | true =>
              have hfx : (nl ++ [(x1, x2, x3, x4)]).flatMap encS = nl.flatMap encS ++ encS (x1, x2, x3, x4) := by simp
              have HFX := hid hfx
              clear hfx
              go_wp2_with (first
                | (at_builtin; go_loud (refine wpList_app rfl _ _ 41 rfl 46 _ 4 24 Try.underlying41 infoR rfl (by decide) _ m (nl.flatMap encS) rfl (by exact NO4.out.alloc _) _ rfl 1 _ (stamp_src _ x1 x2 x3 x4 _ (by simp)) (by unfold maxLen; omega) (by omega) ?_; intro a3 c3 w3 ho3 hk3 hf3 hj; clear hj; have HA3 := hid ho3; have HK3 := hid hk3; have HF3 := hid hf3; clear ho3 hk3 hf3; have HB3 := hid (show Own w3 46 4 (.slice a3 (m + 1) c3) (m + 1) ((nl ++ [(x1, x2, x3, x4)]).flatMap encS) by rw [HFX.out]; exact HA3.out); have YB3 := hid ((HK3.out.block yb (by simp; have := row_lt YB4.out; omega) (fun h => by have := NL.out _ h; omega)).trans (row_old YB4.out _)); obtain ⟨v0, v1, v2, v3⟩ := cells4' YB3.out))
                | (at_builtin; refine wpList_app rfl _ _ 41 rfl 46 _ 4 24 Try.underlying41 infoR rfl (by decide) _ (m + 1) ((nl ++ [(x1, x2, x3, x4)]).flatMap encS) rfl (by exact HB3.out.alloc _) _ rfl 1 _ (stamp_src _ y1 y2 y3 y4 _ (by simp)) (by unfold maxLen; omega) (by omega) ?_; intro a5 c5 w5 ho5 hk5 hf5 hj; clear hj; have HA5 := hid ho5; have HK5 := hid hk5; have HF5 := hid hf5; clear ho5 hk5 hf5))
              have hfr3 : ∀ b, (Value.slice a3 (m + 1) c3).ownBlock = some b → wo.heap.size ≤ b := fun b hb => by
                rcases HF3.out b hb with h | h
                · exact NF.out b h
                · simp at h; have := KR4.out.size; omega
              go_roundw
              case rel =>
                have hfl : (nl ++ [(x1, x2, x3, x4), (y1, y2, y3, y4)]).flatMap encS = (nl ++ [(x1, x2, x3, x4)]).flatMap encS ++ encS (y1, y2, y3, y4) := by simp
                have hK3 := (KR4.out.alloc (.cells #[.int .u64 x1, .int .u8 x2, .int .u32 x3, .int .u32 x4] 46)).trans' HK3.out (fun i hi => .inr (NF.out i hi))
                refine ⟨j + 1, m + 1 + 1, nl ++ [(x1, x2, x3, x4), (y1, y2, y3, y4)], true, a5, c5, by go_num, by omega, rfl, rfl, by simp [HM.out], by rw [HS.out]; have := HBE.out; simp at this; simp [stepS, this], by rw [hfl]; exact HA5.out, fun b hb => ?_, (hK3.alloc _).trans' HK5.out (fun i hi => .inr (hfr3 i hi))⟩
                rcases HF5.out b hb with h | h
                · exact hfr3 b h
                · simp at h; have := hK3.size; omega
              case measure => (simp only [RowKit.intOf]; omega)
            | false =>
              go_wp2_with (at_builtin; refine wpList_app rfl _ _ 41 rfl 46 _ 4 24 Try.underlying41 infoR rfl (by decide) _ m (nl.flatMap encS) rfl (by exact NO4.out.alloc _) _ rfl 1 _ (stamp_src _ y1 y2 y3 y4 _ (by simp)) (by unfold maxLen; omega) (by omega) ?_; intro a3 c3 w3 ho3 hk3 hf3 hj; clear hj; have HA3 := hid ho3; have HK3 := hid hk3; have HF3 := hid hf3; clear ho3 hk3 hf3)
              go_roundw
              case rel =>
                have hfl : (nl ++ [(y1, y2, y3, y4)]).flatMap encS = nl.flatMap encS ++ encS (y1, y2, y3, y4) := by simp
                refine ⟨j + 1, m + 1, nl ++ [(y1, y2, y3, y4)], false, a3, c3, by go_num, by omega, rfl, rfl, by simp [HM.out], by rw [HS.out]; have := HBE.out; simp at this; simp [stepS, this], by rw [hfl]; exact HA3.out, fun b hb => ?_, (KR4.out.alloc _).trans' HK3.out (fun i hi => .inr (NF.out i hi))⟩
                rcases HF3.out b hb with h | h
                · exact NF.out b h
                · simp at h; have := KR4.out.size; omega
              case measure => (simp only [RowKit.intOf]; omega)
        · obtain rfl : j = k := by omega
          have hto : O.take j = O := List.take_of_length_le (by rw [HOL.out]; exact Nat.le_refl _)
          have HE := hid (show (if d then nl else nl ++ [(x1, x2, x3, x4)]) = insS (x1, x2, x3, x4) O by
            have h := insF_ins (x1, x2, x3, x4) O
            have h2 := HI.out
            rw [hto] at h2
            rw [h2] at h
            exact h)
          have HE2 := hid (show nl.length + (if d then 0 else 1) = j + 1 by
            have h := insF_len (x1, x2, x3, x4) O
            have h2 := HI.out
            rw [hto] at h2
            rw [h2, HOL.out] at h
            exact h)
          clear hto
          cases d with
          | true =>
            have he : nl = insS (x1, x2, x3, x4) O := HE.out
            have hm2 : m = j + 1 := by have := HE2.out; simp at this; have := HM.out; omega
            subst hm2
            have HNL := hid he
            clear he
            go_wp2
            go_roundw
            case rel => exact ⟨j + 1, na, nc, by go_num, by omega, rfl, by rw [HT.out, ← HNL.out]; exact NO.out.lies (encS_one _) (fun _ _ => id), KB.out.trans KR.out⟩
            case measure => (simp only [RowKit.intOf]; omega)
          | false =>
            have he : nl ++ [(x1, x2, x3, x4)] = insS (x1, x2, x3, x4) O := HE.out
            have hm2 : m = j := by have := HE2.out; simp at this; have := HM.out; omega
            subst hm2
            have HNL := hid he
            clear he
            go_wp2_with (at_builtin; refine wpList_app rfl _ _ 41 rfl 46 _ 4 24 Try.underlying41 infoR rfl (by decide) _ m (nl.flatMap encS) rfl (by exact NO.out.alloc _) _ rfl 1 _ (stamp_src _ x1 x2 x3 x4 _ (by simp)) (by unfold maxLen; omega) (by omega) ?_; intro a3 c3 w3 ho3 hk3 hf3 hj; clear hj; have HA3 := hid ho3; have HK3 := hid hk3; have HF3 := hid hf3; clear ho3 hk3 hf3)
            go_roundw
            case rel =>
              have hfl : (nl ++ [(x1, x2, x3, x4)]).flatMap encS = nl.flatMap encS ++ encS (x1, x2, x3, x4) := by simp
              refine ⟨m + 1, a3, c3, by go_num, by omega, rfl, ?_, KB.out.trans ((KR.out.alloc _).trans' HK3.out (fun i hi => .inr (NF.out i hi)))⟩
              rw [HT.out, ← HNL.out]
              refine Own.lies (E := 46) ?_ (encS_one _) (fun _ _ => id)
              rw [hfl]
              exact HA3.out
            case measure => (simp only [RowKit.intOf]; omega)
    · obtain rfl : k = N := by omega
      go_wp2
      go_ret
      have hta : L.take k = L := by rw [List.take_of_length_le (by rw [HN.out]; exact Nat.le_refl _)]
      exact ⟨oa, oc, rfl, by rw [← hta]; exact OA.out, KA.out⟩
end Go.Proofs.Ytfkkfjmdpkgicaa
