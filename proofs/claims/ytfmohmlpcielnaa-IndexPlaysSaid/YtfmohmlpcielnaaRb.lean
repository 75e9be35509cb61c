/- The document's index: lay, its Put and Delete, Range, Next: the walks. -/
import Derived.Test.YtfmohmlpcielnaaRa
namespace Go.Proofs.Ytfmohmlpcielnaa
open Go.RowKit
set_option maxRecDepth 100000 in
set_option maxHeartbeats 4000000 in
theorem lay_any {F : Nat → Prop} {w : World} {yb : Nat} {v0 : Value} {M : List It} (h : RIn F w yb v0 M) (hM : M.length ≤ 1000000) (hu : Up M) (hF : ∀ g, w.heap.size ≤ g → F g) (k v : Int) (there : Bool) :
    Calls Try.prog 28 #[.pointer (some ⟨yb, 0, none⟩), .agg #[.int .u64 k, .int .u64 v], .bool there] w fun e w' => e = .returned (.tuple #[]) ∧ (∃ v', RIn F w' yb v' (if there then layL M k v else dropL M k)) ∧ Kept F w w' := by
  have hl0 : M.length ≤ 1000000 := hM
  obtain ⟨R, hR⟩ : ∃ R, (if there then layL M k v else dropL M k) = R := ⟨_, rfl⟩
  rw [hR]
  have HR := hid hR; clear hR
  obtain ⟨ao, cap, rfl⟩ := h.s.isSlice
  have hcap := h.s.caps
  unfold maxLen at hcap
  have hk1 : Kept (fun _ => False) w (w.alloc (.cells #[.int .u64 k, .int .u64 v] 55)) := (Kept.refl _ _).alloc _
  have hB : (w.alloc (.cells #[.int .u64 k, .int .u64 v] 55)).heap[w.heap.size]? = some (.cells #[.int .u64 k, .int .u64 v] 55 (0, 0)) := row_new _ _
  have c0 : (w.alloc (.cells #[.int .u64 k, .int .u64 v] 55)).cell? ⟨yb, 0, none⟩ = some (.slice ao M.length cap) := hk1.cell (row_cell h.r 0) (fun h => h)
  have H := hid h; have HB := hid hB; have HU := hid hu; have HFF := hid hF; have K1 := hid hk1
  have HYS := hid (h.same hk1)
  clear h hB hu hF hk1
  go_enter Try.func28, Try.ntmps28
  go_wp2_with fail
  clear c0
  go_loopw [6, 7, 9, 17] (fun o d _ i wr => ∃ (n : Nat) (acc : List It) (a : Option Addr) (c : Nat) (dd : Bool), n ≤ M.length ∧ o = .slice a acc.length c ∧ d = .bool dd ∧ i = .int .i64 n ∧ Seg wr 55 2 (.slice a acc.length c) acc.length (icells acc) ∧ (∀ g, (Value.slice a acc.length c).ownBlock = some g → w.heap.size + 1 ≤ g) ∧ Kept (fun _ => False) (w.alloc (.cells #[.int .u64 k, .int .u64 v] 55)) wr ∧ LayS there M k v n acc dd) (fun _ _ _ i _ => M.length - (intOf i).toNat)
  case atStart => exact ⟨0, [], none, 0, !there, Nat.zero_le _, rfl, rfl, rfl, Seg.nil _ _ _, by simp [Value.ownBlock], Kept.refl _ _, LayS.start there M k v⟩
  case round =>
    rename World => wr
    obtain ⟨n, acc, a, c, dd, hn, rfl, rfl, rfl, hs, hf, hk, hL⟩ := hrel
    have S := hid hs; have FR := hid (show ∀ g, (Value.slice a acc.length c).ownBlock = some g → (w.alloc (.cells #[.int .u64 k, .int .u64 v] 55)).heap.size ≤ g by simpa using hf); have K := hid hk; have HL := hid hL
    have hal := hL.len
    clear hs hf hk hL
    by_cases hlt : n < M.length
    · have hltI : (n : Int) < (M.length : Int) := by omega
      obtain ⟨⟨key, val⟩, hx⟩ : ∃ x, M[n]? = some x := ⟨_, List.getElem?_eq_getElem hlt⟩
      obtain ⟨g, cp, e, q1, q2⟩ := H.out.s.some_of_pos (by omega)
      simp only [Value.slice.injEq] at e
      obtain ⟨rfl, _, rfl⟩ := e
      obtain ⟨x0, x1⟩ := icells_at M _ _ hx
      obtain ⟨i0, j0⟩ := List.getElem?_eq_some_iff.1 x0
      obtain ⟨i1, j1⟩ := List.getElem?_eq_some_iff.1 x1
      have y0 := K.out.cell ((HYS.out.s.cells rfl _ i0).trans (by rw [j0])) (fun h => h)
      have y1 := K.out.cell ((HYS.out.s.cells rfl _ i1).trans (by rw [j1])) (fun h => h)
      have K2 := hid (K.out.alloc (.cells #[.int .u64 key, .int .u64 val] 55))
      have S2 := hid (S.out.alloc (.cells #[.int .u64 key, .int .u64 val] 55))
      have k0 := K2.out.cell (row_cell HB.out 0) (fun h => h)
      have k1 := K2.out.cell (row_cell HB.out 1) (fun h => h)
      have z0 := row_cell (row_new wr (.cells #[.int .u64 key, .int .u64 val] 55)) 0
      have z1 := row_cell (row_new wr (.cells #[.int .u64 key, .int .u64 val] 55)) 1
      simp only [List.getElem?_toArray, List.getElem?_cons_zero, List.getElem?_cons_succ] at z0 z1
      have NY := hid (row_new (wr.alloc (.cells #[.int .u64 key, .int .u64 val] 55)) (.cells #[.int .u64 key, .int .u64 val] 55))
      rw [show (wr.alloc (.cells #[.int .u64 key, .int .u64 val] 55)).heap.size = wr.heap.size + 1 by simp] at NY
      have HX := hid hx
      clear x0 x1 i0 i1 j0 j1 hx q2
      cases dd with
      | true =>
        have HL2 := hid (HL.out.done_step HU.out HX.out)
        by_cases hkk : key = k
        · subst hkk
          have hb : (key == key) = true := by simp
          go_wp2
          go_roundw
          case rel => exact ⟨n + 1, acc, a, c, true, by omega, rfl, rfl, by go_num, S2.out, by simpa using FR.out, K2.out, by simpa using HL2.out⟩
          case measure => simp [intOf]; omega
        · have hb : (key == k) = false := by simpa using hkk
          go_wp2_with (at_builtin; refine wpList_app_seg rfl (.tmp 39) (.tmp 41) 39 rfl 55 (.agg #[.int .u64 0, .int .u64 0]) 2 16 Try.underlying39 infoR rfl (by decide) (.slice a acc.length c) acc.length (icells acc) rfl (by exact (S2.out.alloc _)) (.slice (some ⟨wr.heap.size + 1, 0, none⟩) 1 1) rfl 1 [.int .u64 key, .int .u64 val] (by exact (Seg.mk (size := 2) (n := 1) (cap := 1) NY.out (Nat.le_refl _) (by unfold maxLen; omega) (by simp)).src (by intro u hu; simp at hu; rcases hu with rfl | rfl <;> rfl)) (by unfold maxLen; omega) (by omega) ?_; intro a3 c3 w3 hs3 hk3 hf3; have HS3 := hid hs3; have HK3 := hid hk3; have HF3 := hid hf3; clear hs3 hk3 hf3)
          have hl3 : (acc ++ [(key, val)]).length = acc.length + 1 := by simp
          have hs5 := HS3.out
          have hf5 := HF3.out
          have hz5 := K.out.size
          go_roundw
          case rel =>
            refine ⟨n + 1, acc ++ [(key, val)], a3, c3, true, by omega, by rw [hl3], rfl, by go_num, by rw [hl3, icells_append]; exact hs5, fun g hg => ?_, ((K2.out.alloc _).trans' HK3.out (fun g hg => .inr (FR.out g hg))), by simpa [hkk] using HL2.out⟩
            rw [hl3] at hg
            rcases hf5 g hg with e | e
            · simpa using FR.out g e
            · simp at e hz5 ⊢; omega
          case measure => simp [intOf]; omega
      | false =>
        by_cases hkl : k < key
        · have HL2 := hid (HL.out.lay_step HX.out hkl)
          have hd : decide (k < key) = true := by simpa using hkl
          have hb : (key == k) = false := by rw [beq_eq_false_iff_ne]; omega
          have NK := hid (row_new (wr.alloc (.cells #[.int .u64 key, .int .u64 val] 55)) (.cells #[.int .u64 k, .int .u64 v] 55))
          rw [show (wr.alloc (.cells #[.int .u64 key, .int .u64 val] 55)).heap.size = wr.heap.size + 1 by simp] at NK
          have hbx : ∀ p, (Value.slice a acc.length c).ownBlock = some p → p ≠ w.heap.size ∧ p ≠ wr.heap.size := fun p hp => by
            have h1 := FR.out p hp
            have h2 := S.out.lt hp
            simp at h1
            omega
          have HBX := hid hbx; clear hbx
          go_wp2_with (first
            | (at_builtin; refine wpList_app_seg rfl (.tmp 30) (.tmp 32) 39 rfl 55 (.agg #[.int .u64 0, .int .u64 0]) 2 16 Try.underlying39 infoR rfl (by decide) (.slice a acc.length c) acc.length (icells acc) rfl (by exact (S2.out.alloc _)) (.slice (some ⟨wr.heap.size + 1, 0, none⟩) 1 1) rfl 1 [.int .u64 k, .int .u64 v] (by exact (Seg.mk (size := 2) (n := 1) (cap := 1) NK.out (Nat.le_refl _) (by unfold maxLen; omega) (by simp)).src (by intro u hu; simp at hu; rcases hu with rfl | rfl <;> rfl)) (by unfold maxLen; omega) (by omega) ?_; intro a3 c3 w3 hs3 hk3 hf3; have HS3 := hid hs3; have HF3 := hid hf3; replace k0 := hk3.cell (((Kept.refl (fun _ => False) _).alloc (.cells #[.int .u64 k, .int .u64 v] 55)).cell k0 (fun h => h)) (fun e => (HBX.out _ e).1 rfl); replace k1 := hk3.cell (((Kept.refl (fun _ => False) _).alloc (.cells #[.int .u64 k, .int .u64 v] 55)).cell k1 (fun h => h)) (fun e => (HBX.out _ e).1 rfl); replace z0 := hk3.cell (((Kept.refl (fun _ => False) _).alloc (.cells #[.int .u64 k, .int .u64 v] 55)).cell z0 (fun h => h)) (fun e => (HBX.out _ e).2 rfl); replace z1 := hk3.cell (((Kept.refl (fun _ => False) _).alloc (.cells #[.int .u64 k, .int .u64 v] 55)).cell z1 (fun h => h)) (fun e => (HBX.out _ e).2 rfl); have HK3 := hid hk3; clear hs3 hk3 hf3)
            | (at_builtin; refine wpList_app_seg rfl (.tmp 39) (.tmp 41) 39 rfl 55 (.agg #[.int .u64 0, .int .u64 0]) 2 16 Try.underlying39 infoR rfl (by decide) (.slice a3 (acc.length + 1) c3) (acc.length + 1) (icells acc ++ [.int .u64 k, .int .u64 v]) rfl (by exact (HS3.out.alloc _)) (.slice (some ⟨w3.heap.size, 0, none⟩) 1 1) rfl 1 [.int .u64 key, .int .u64 val] (by exact (Seg.mk (size := 2) (n := 1) (cap := 1) (row_new w3 (.cells #[.int .u64 key, .int .u64 val] 55)) (Nat.le_refl _) (by unfold maxLen; omega) (by simp)).src (by intro u hu; simp at hu; rcases hu with rfl | rfl <;> rfl)) (by unfold maxLen; omega) (by omega) ?_; intro a4 c4 w4 hs4 hk4 hf4; have HS4 := hid hs4; have HK4 := hid hk4; have HF4 := hid hf4; clear hs4 hk4 hf4))
          have hl3 : (acc ++ [(k, v)] ++ [(key, val)]).length = acc.length + 1 + 1 := by simp
          have hs5 := HS4.out
          have hz5 := K.out.size
          have f3 : ∀ p, (Value.slice a3 (acc.length + 1) c3).ownBlock = some p → w.heap.size + 1 ≤ p := fun p hp => by
            rcases HF3.out p hp with e | e
            · simpa using FR.out p e
            · simp at e hz5; omega
          have f4 : ∀ p, (Value.slice a4 (acc.length + 1 + 1) c4).ownBlock = some p → w.heap.size + 1 ≤ p := fun p hp => by
            rcases HF4.out p hp with e | e
            · exact f3 p e
            · have := HK3.out.size; simp at e hz5 this; omega
          go_roundw
          case rel =>
            refine ⟨n + 1, acc ++ [(k, v)] ++ [(key, val)], a4, c4, true, by omega, by rw [hl3], rfl, by go_num, by rw [hl3, icells_append, icells_append]; exact hs5, by rw [hl3]; exact f4, (((K2.out.alloc _).trans' HK3.out (fun g hg => .inr (FR.out g hg))).alloc _).trans' HK4.out (fun g hg => .inr (by simpa using f3 g hg)), HL2.out⟩
          case measure => simp [intOf]; omega
        · have HL2 := hid (HL.out.low_step HX.out hkl)
          have hd : decide (k < key) = false := by simpa using hkl
          by_cases hkk : key = k
          · subst hkk
            have hb : (key == key) = true := by simp
            go_wp2
            go_roundw
            case rel => exact ⟨n + 1, acc, a, c, false, by omega, rfl, rfl, by go_num, S2.out, by simpa using FR.out, K2.out, by simpa using HL2.out⟩
            case measure => simp [intOf]; omega
          · have hb : (key == k) = false := by simpa using hkk
            go_wp2_with (at_builtin; refine wpList_app_seg rfl (.tmp 39) (.tmp 41) 39 rfl 55 (.agg #[.int .u64 0, .int .u64 0]) 2 16 Try.underlying39 infoR rfl (by decide) (.slice a acc.length c) acc.length (icells acc) rfl (by exact (S2.out.alloc _)) (.slice (some ⟨wr.heap.size + 1, 0, none⟩) 1 1) rfl 1 [.int .u64 key, .int .u64 val] (by exact (Seg.mk (size := 2) (n := 1) (cap := 1) NY.out (Nat.le_refl _) (by unfold maxLen; omega) (by simp)).src (by intro u hu; simp at hu; rcases hu with rfl | rfl <;> rfl)) (by unfold maxLen; omega) (by omega) ?_; intro a3 c3 w3 hs3 hk3 hf3; have HS3 := hid hs3; have HK3 := hid hk3; have HF3 := hid hf3; clear hs3 hk3 hf3)
            have hl3 : (acc ++ [(key, val)]).length = acc.length + 1 := by simp
            have hs5 := HS3.out
            have hf5 := HF3.out
            have hz5 := K.out.size
            go_roundw
            case rel =>
              refine ⟨n + 1, acc ++ [(key, val)], a3, c3, false, by omega, by rw [hl3], rfl, by go_num, by rw [hl3, icells_append]; exact hs5, fun g hg => ?_, ((K2.out.alloc _).trans' HK3.out (fun g hg => .inr (FR.out g hg))), by simpa [hkk] using HL2.out⟩
              rw [hl3] at hg
              rcases hf5 g hg with e | e
              · simpa using FR.out g e
              · simp at e hz5 ⊢; omega
            case measure => simp [intOf]; omega
    · obtain rfl : n = M.length := by omega
      have hfin := HL.out.fin.trans HR.out
      have RY := hid ((K.out.block _ (row_lt HYS.out.r) (fun h => h)).trans HYS.out.r)
      have KW := hid (K1.out.trans K.out)
      have hz5 := K.out.size
      have hyl : yb < w.heap.size := row_lt H.out.r
      cases dd with
      | true =>
        rw [if_pos rfl] at hfin
        have HFN := hid hfin; clear hfin
        go_wp2_with (refine wpList_store_cell rfl 39 (.tmp 53) (.tmp 51) rfl (by kernel_rfl) yb 0 rfl (.slice a acc.length c) rfl rfl RY.out (by simp) ?_; intro w3 hr3 hk3; have R3 := hid hr3.out; have K3 := hid hk3.out; clear hr3 hk3)
        go_returns
        refine ⟨rfl, ⟨.slice a acc.length c, ?_⟩, (KW.out.mono (G := F) (fun _ _ h => h.elim)).trans (K3.out.mono (fun g _ hg => by rw [hg]; exact H.out.m))⟩
        rw [← HFN.out]
        exact ⟨R3.out, S.out.kept K3.out (fun g hg e => by have := FR.out g hg; simp at this; omega), H.out.m, fun g hg => HFF.out g (by have := FR.out g hg; simp at this; omega)⟩
      | false =>
        rw [if_neg (by simp)] at hfin
        have HFN := hid hfin; clear hfin
        have k0 := K.out.cell (row_cell HB.out 0) (fun h => h)
        have k1 := K.out.cell (row_cell HB.out 1) (fun h => h)
        go_wp2_with (first
          | (at_builtin; refine wpList_app_seg rfl (.tmp 46) (.tmp 48) 39 rfl 55 (.agg #[.int .u64 0, .int .u64 0]) 2 16 Try.underlying39 infoR rfl (by decide) (.slice a acc.length c) acc.length (icells acc) rfl (by exact (S.out.alloc _)) (.slice (some ⟨wr.heap.size, 0, none⟩) 1 1) rfl 1 [.int .u64 k, .int .u64 v] (by exact (Seg.mk (size := 2) (n := 1) (cap := 1) (row_new wr (.cells #[.int .u64 k, .int .u64 v] 55)) (Nat.le_refl _) (by unfold maxLen; omega) (by simp)).src (by intro u hu; simp at hu; rcases hu with rfl | rfl <;> rfl)) (by unfold maxLen; omega) (by omega) ?_; intro a3 c3 w3 hs3 hk3 hf3; have HS3 := hid hs3; have HK3 := hid hk3; have HF3 := hid hf3; have RY3 := hid ((hk3.block _ (row_lt (row_old RY.out _)) (fun e => by have := FR.out _ e; simp at this; omega)).trans (row_old RY.out (.cells #[.int .u64 k, .int .u64 v] 55))); clear hs3 hk3 hf3)
          | (refine wpList_store_cell rfl 39 (.tmp 53) (.tmp 51) rfl (by kernel_rfl) yb 0 rfl (.slice a3 (acc.length + 1) c3) rfl rfl RY3.out (by simp) ?_; intro w4 hr4 hk4; have R4 := hid hr4.out; have K4 := hid hk4.out; clear hr4 hk4))
        go_returns
        have hl3 : (acc ++ [(k, v)]).length = acc.length + 1 := by simp
        have f3 : ∀ p, (Value.slice a3 (acc.length + 1) c3).ownBlock = some p → w.heap.size + 1 ≤ p := fun p hp => by
          rcases HF3.out p hp with e | e
          · simpa using FR.out p e
          · simp at e hz5; omega
        have hs4 := HS3.out
        rw [← hl3] at R4 hs4 f3
        rw [show [Value.int .u64 k, .int .u64 v] = icells [(k, v)] from rfl, ← icells_append] at hs4
        refine ⟨rfl, ⟨.slice a3 (acc ++ [(k, v)]).length c3, ?_⟩, ((((KW.out.alloc _).trans' HK3.out (fun g hg => .inr (by have := FR.out g hg; simp at this; omega))).mono (G := F) (fun _ _ h => h.elim))).trans (K4.out.mono (fun g _ hg => by rw [hg]; exact H.out.m))⟩
        rw [← HFN.out]
        exact ⟨R4.out, hs4.kept K4.out (fun g hg e => by have := f3 g hg; omega), H.out.m, fun g hg => HFF.out g (by have := f3 g hg; omega)⟩
set_option maxRecDepth 100000 in
set_option maxHeartbeats 1000000 in
theorem docput_any {F : Nat → Prop} {w : World} {yb : Nat} {v0 : Value} {M : List It} (h : RIn F w yb v0 M) (hM : M.length ≤ 1000000) (hu : Up M) (hF : ∀ g, w.heap.size ≤ g → F g) (k v : Int) :
    Calls Try.prog 14 #[.pointer (some ⟨yb, 0, none⟩), .int .u64 k, .int .u64 v] w fun e w' => e = .returned (.int .i64 (putN M k)) ∧ (∃ v', RIn F w' yb v' (putM M k v)) ∧ Kept F w w' := by
  have H := hid h; have HU := hid hu; have HFF := hid hF
  clear h hu hF
  go_enter Try.func14, Try.ntmps14
  go_wp2_with fail
  refine (rget_any H.out hM k).mono ?_
  rintro e w1 ⟨rfl, hk1⟩
  have K1 := hid hk1; have H1 := hid (H.out.same hk1)
  clear hk1
  obtain ⟨ao, cap, e0⟩ := H1.out.s.isSlice
  subst e0
  have c0 : w1.cell? ⟨yb, 0, none⟩ = some (.slice ao M.length cap) := row_cell H1.out.r 0
  obtain ⟨gb, hgb⟩ : ∃ gb, (getI M k).isSome = gb := ⟨_, rfl⟩
  obtain ⟨gv, hgv⟩ : ∃ gv, (getI M k).getD 0 = gv := ⟨_, rfl⟩
  rw [hgb, hgv]
  have HGB := hid hgb
  clear hgb hgv
  cases gb with
  | true =>
    go_wp2_with fail
    refine (lay_any H1.out hM HU.out (fun g hg => HFF.out g (Nat.le_trans K1.out.size hg)) k v true).mono ?_
    rintro e w2 ⟨rfl, hv, hk2⟩
    have HV := hid hv; have K2 := hid hk2
    clear hv hk2
    go_wp2
    go_returns
    exact ⟨by unfold putN; rw [HGB.out]; rfl, by unfold putM; rw [HGB.out]; exact HV.out, (K1.out.mono (fun _ _ h => h.elim)).trans K2.out⟩
  | false =>
    by_cases hl : M.length < 4096
    · have hlI : decide ((4096 : Int) ≤ (M.length : Int)) = false := by rw [decide_eq_false_iff_not]; omega
      go_wp2_with fail
      refine (lay_any H1.out hM HU.out (fun g hg => HFF.out g (Nat.le_trans K1.out.size hg)) k v true).mono ?_
      rintro e w2 ⟨rfl, hv, hk2⟩
      have HV := hid hv; have K2 := hid hk2
      clear hv hk2
      go_wp2
      go_returns
      exact ⟨by rw [putN_ok hl]; rfl, by rw [putM_ok hl]; exact HV.out, (K1.out.mono (fun _ _ h => h.elim)).trans K2.out⟩
    · have hlI : decide ((4096 : Int) ≤ (M.length : Int)) = true := by rw [decide_eq_true_eq]; omega
      go_wp2
      go_returns
      exact ⟨by unfold putN; rw [HGB.out, if_neg (by simp), if_pos (by omega)]; rfl, by unfold putM; rw [HGB.out, if_neg (by simp), if_pos (by omega)]; exact ⟨_, H1.out⟩, K1.out.mono (fun _ _ h => h.elim)⟩
def delN (M : List It) (k : Int) : Int := if (getI M k).isSome then 0 else 6
set_option maxRecDepth 100000 in
set_option maxHeartbeats 1000000 in
theorem docdel_any {F : Nat → Prop} {w : World} {yb : Nat} {v0 : Value} {M : List It} (h : RIn F w yb v0 M) (hM : M.length ≤ 1000000) (hu : Up M) (hF : ∀ g, w.heap.size ≤ g → F g) (k : Int) :
    Calls Try.prog 18 #[.pointer (some ⟨yb, 0, none⟩), .int .u64 k] w fun e w' => e = .returned (.int .i64 (delN M k)) ∧ (∃ v', RIn F w' yb v' (dropL M k)) ∧ Kept F w w' := by
  have H := hid h; have HU := hid hu; have HFF := hid hF
  clear h hu hF
  go_enter Try.func18, Try.ntmps18
  go_wp2_with fail
  refine (rget_any H.out hM k).mono ?_
  rintro e w1 ⟨rfl, hk1⟩
  have K1 := hid hk1; have H1 := hid (H.out.same hk1)
  clear hk1
  obtain ⟨gb, hgb⟩ : ∃ gb, (getI M k).isSome = gb := ⟨_, rfl⟩
  obtain ⟨gv, hgv⟩ : ∃ gv, (getI M k).getD 0 = gv := ⟨_, rfl⟩
  rw [hgb, hgv]
  have HGB := hid hgb
  clear hgb hgv
  cases gb with
  | true =>
    go_wp2_with fail
    refine (lay_any H1.out hM HU.out (fun g hg => HFF.out g (Nat.le_trans K1.out.size hg)) k 0 false).mono ?_
    rintro e w2 ⟨rfl, hv, hk2⟩
    have HV := hid hv; have K2 := hid hk2
    clear hv hk2
    go_wp2
    go_returns
    exact ⟨by unfold delN; rw [HGB.out]; rfl, HV.out, (K1.out.mono (fun _ _ h => h.elim)).trans K2.out⟩
  | false =>
    have hd : dropL M k = M := filter_all (fun x hx => by
      have : ¬ (getI M k).isSome = true := by rw [HGB.out]; simp
      rw [getI_some] at this
      simpa using fun e => this ⟨x, hx, e⟩)
    have HD := hid hd; clear hd
    go_wp2
    go_returns
    exact ⟨by unfold delN; rw [HGB.out]; rfl, by rw [HD.out]; exact ⟨_, H1.out⟩, K1.out.mono (fun _ _ h => h.elim)⟩
end Go.Proofs.Ytfmohmlpcielnaa
