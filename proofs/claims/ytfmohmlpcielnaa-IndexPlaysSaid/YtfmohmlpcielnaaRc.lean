/- The document's Range and Next; same, paged: the walks. -/
import Derived.Test.YtfmohmlpcielnaaRb
namespace Go.Proofs.Ytfmohmlpcielnaa
open Go.RowKit
theorem rangeI_add {A : List It} {x : It} {f t : Int} : rangeI (A ++ [x]) f t = rangeI A f t ++ (if f ≤ x.1 ∧ x.1 ≤ t then [x] else []) := by
  unfold rangeI
  rw [List.filter_append]
  by_cases h : f ≤ x.1 ∧ x.1 ≤ t
  · rw [if_pos h]; simp [h.1, h.2]
  · rw [if_neg h]
    have : (decide (f ≤ x.1) && decide (x.1 ≤ t)) = false := by
      rw [Bool.and_eq_false_iff, decide_eq_false_iff_not, decide_eq_false_iff_not]; omega
    simp [this]
theorem rangeI_le (M : List It) (f t : Int) : (rangeI M f t).length ≤ M.length := List.length_filter_le _ _
def RRangePost (w : World) (R : List It) (e : Ending) (w' : World) : Prop := ∃ ao c, e = .returned (.slice ao R.length c) ∧ Seg w' 55 2 (.slice ao R.length c) R.length (icells R) ∧ (∀ g, (Value.slice ao R.length c).ownBlock = some g → w.heap.size ≤ g) ∧ Kept (fun _ => False) w w'
set_option maxRecDepth 100000 in
set_option maxHeartbeats 2000000 in
theorem rrange_any {F : Nat → Prop} {w : World} {yb : Nat} {v : Value} {M : List It} (h : RIn F w yb v M) (hM : M.length ≤ 1000000) (f t : Int) :
    Calls Try.prog 23 #[.pointer (some ⟨yb, 0, none⟩), .int .u64 f, .int .u64 t] w (RRangePost w (rangeI M f t)) := by
  have hl0 : M.length ≤ 1000000 := hM
  obtain ⟨ao, cap, rfl⟩ := h.s.isSlice
  have c0 : w.cell? ⟨yb, 0, none⟩ = some (.slice ao M.length cap) := row_cell h.r 0
  have hcap := h.s.caps
  unfold maxLen at hcap
  have H := hid h
  clear h
  go_enter Try.func23, Try.ntmps23
  go_wp2_with fail
  go_loopw [7, 8] (fun o i wr => ∃ (n : Nat) (acc : List It) (a : Option Addr) (c : Nat), n ≤ M.length ∧ o = .slice a acc.length c ∧ i = .int .i64 n ∧ acc = rangeI (M.take n) f t ∧ Seg wr 55 2 (.slice a acc.length c) acc.length (icells acc) ∧ (∀ g, (Value.slice a acc.length c).ownBlock = some g → w.heap.size ≤ g) ∧ Kept (fun _ => False) w wr) (fun _ i _ => M.length - (intOf i).toNat)
  case atStart => exact ⟨0, [], none, 0, Nat.zero_le _, rfl, rfl, rfl, Seg.nil _ _ _, by simp [Value.ownBlock], Kept.refl _ _⟩
  case round =>
    rename World => wr
    obtain ⟨n, acc, a, c, hn, rfl, rfl, hacc, hs, hf, hk⟩ := hrel
    have S := hid hs; have FR := hid hf; have K := hid hk; have HA := hid hacc
    have hal : acc.length ≤ M.length := by rw [hacc]; exact Nat.le_trans (rangeI_le _ _ _) (by simp; omega)
    replace c0 := hk.cell c0 (fun h => h)
    clear hs hf hk hacc
    by_cases hlt : n < M.length
    · have hltI : (n : Int) < (M.length : Int) := by omega
      obtain ⟨⟨key, val⟩, hx⟩ : ∃ x, M[n]? = some x := ⟨_, List.getElem?_eq_getElem hlt⟩
      obtain ⟨g, cp, e, q1, q2⟩ := H.out.s.some_of_pos (by omega)
      simp only [Value.slice.injEq] at e
      obtain ⟨rfl, _, rfl⟩ := e
      obtain ⟨x0, x1⟩ := icells_at M _ _ hx
      obtain ⟨i0, j0⟩ := List.getElem?_eq_some_iff.1 x0
      obtain ⟨i1, j1⟩ := List.getElem?_eq_some_iff.1 x1
      have y0 := K.out.cell ((H.out.s.cells rfl _ i0).trans (by rw [j0])) (fun h => h)
      have y1 := K.out.cell ((H.out.s.cells rfl _ i1).trans (by rw [j1])) (fun h => h)
      have HX := hid hx
      clear x0 x1 i0 i1 j0 j1 hx q2
      by_cases hin : f ≤ key ∧ key ≤ t
      · have d1 : decide (f ≤ key) = true := by rw [decide_eq_true_eq]; exact hin.1
        have d2 : decide (key ≤ t) = true := by rw [decide_eq_true_eq]; exact hin.2
        have HIN := hid hin; clear hin
        go_wp2_with (at_builtin; refine wpList_app_seg rfl (.tmp 44) (.tmp 52) 39 rfl 55 (.agg #[.int .u64 0, .int .u64 0]) 2 16 Try.underlying39 infoR rfl (by decide) (.slice a acc.length c) acc.length (icells acc) rfl (by exact (S.out.alloc _)) (.slice (some ⟨wr.heap.size, 0, none⟩) 1 1) rfl 1 [.int .u64 key, .int .u64 val] (by exact (Seg.mk (size := 2) (n := 1) (cap := 1) (row_new wr (.cells #[.int .u64 key, .int .u64 val] 55)) (Nat.le_refl _) (by unfold maxLen; omega) (by simp)).src (by intro u hu; simp at hu; rcases hu with rfl | rfl <;> rfl)) (by unfold maxLen; omega) (by omega) ?_; intro a3 c3 w3 hs3 hk3 hf3; have HS3 := hid hs3; have HK3 := hid hk3; have HF3 := hid hf3; clear hs3 hk3 hf3)
        have hl3 : (acc ++ [(key, val)]).length = acc.length + 1 := by simp
        have hs5 := HS3.out
        have hf5 := HF3.out
        have hz5 := K.out.size
        go_roundw
        case rel =>
          refine ⟨n + 1, acc ++ [(key, val)], a3, c3, by omega, by rw [hl3], by go_num, ?_, by rw [hl3, icells_append]; exact hs5, fun g hg => ?_, ((K.out.alloc _).trans' HK3.out (fun g hg => .inr (FR.out g hg)))⟩
          · rw [take_add HX.out, rangeI_add, if_pos HIN.out, HA.out]
          · rw [hl3] at hg
            rcases hf5 g hg with e | e
            · exact FR.out g e
            · simp at e; omega
        case measure => simp [intOf]; omega
      · have HIN := hid hin
        have hrel : acc = rangeI (M.take (n + 1)) f t := by rw [take_add HX.out, rangeI_add, if_neg hin, List.append_nil]; exact HA.out
        have HR := hid hrel; clear hrel
        by_cases h1 : f ≤ key
        · have d1 : decide (f ≤ key) = true := by rw [decide_eq_true_eq]; exact h1
          have d2 : decide (key ≤ t) = false := by rw [decide_eq_false_iff_not]; exact fun h => hin ⟨h1, h⟩
          clear hin
          go_wp2
          go_roundw
          case rel => exact ⟨n + 1, acc, a, c, by omega, rfl, by go_num, HR.out, S.out, FR.out, K.out⟩
          case measure => simp [intOf]; omega
        · have d1 : decide (f ≤ key) = false := by rw [decide_eq_false_iff_not]; exact h1
          clear hin
          go_wp2
          go_roundw
          case rel => exact ⟨n + 1, acc, a, c, by omega, rfl, by go_num, HR.out, S.out, FR.out, K.out⟩
          case measure => simp [intOf]; omega
    · obtain rfl : n = M.length := by omega
      have ha := HA.out
      rw [List.take_length] at ha
      go_wp2
      go_ret
      rw [← ha]
      exact ⟨a, c, rfl, S.out, FR.out, K.out⟩
theorem infoR2 : (Try.prog.info? 55).map (·.size) = some 2 := by kernel_rfl
theorem nextI_range {M : List It} {k : Int} (hb : ∀ x ∈ M, x.1 ≤ 18446744073709551615) : nextI M k = (rangeI M k 18446744073709551615).head? := by
  unfold nextI rangeI
  rw [List.head?_filter]
  induction M with
  | nil => rfl
  | cons x M ih =>
    have h1 := hb x (by simp)
    have h2 := ih (fun y hy => hb y (by simp [hy]))
    rw [List.find?_cons, List.find?_cons, h2]
    simp [h1]
set_option maxRecDepth 100000 in
set_option maxHeartbeats 2000000 in
theorem rnext_any {F : Nat → Prop} {w : World} {yb : Nat} {v : Value} {M : List It} (h : RIn F w yb v M) (hM : M.length ≤ 1000000) (hb : ∀ x ∈ M, x.1 ≤ 18446744073709551615) (k : Int) :
    Calls Try.prog 21 #[.pointer (some ⟨yb, 0, none⟩), .int .u64 k] w fun e w' => e = .returned (.tuple #[.agg #[.int .u64 ((nextI M k).getD (0, 0)).1, .int .u64 ((nextI M k).getD (0, 0)).2], .bool (nextI M k).isSome]) ∧ Kept (fun _ => False) w w' := by
  rw [nextI_range (k := k) hb]
  obtain ⟨R, hR⟩ : ∃ R, rangeI M k 18446744073709551615 = R := ⟨_, rfl⟩
  rw [hR]
  have H := hid h; have HNR := hid hR
  clear h hb hR
  go_enter Try.func21, Try.ntmps21
  go_wp2_with fail
  refine (rrange_any (H.out.same ((Kept.refl _ _).alloc _)) hM k 18446744073709551615).mono ?_
  rintro e w1 ⟨a, c, rfl, hs, hf, hk⟩
  have hle := Nat.le_trans (rangeI_le M k 18446744073709551615) hM
  rw [HNR.out] at hs hf hle ⊢
  have S := hid hs; have K := hid (((Kept.refl (fun _ => False) w).alloc (.cells #[.int .u64 0, .int .u64 0] 55)).trans hk)
  have RB := hid ((hk.block _ (row_lt (row_new w (.cells #[.int .u64 0, .int .u64 0] 55))) (fun h => h)).trans (row_new w (.cells #[.int .u64 0, .int .u64 0] 55)))
  have hcp := hs.caps
  unfold maxLen at hcp
  have b0 := row_cell RB.out 0
  have b1 := row_cell RB.out 1
  have fz := fun j => row_free RB.out j
  simp only [List.getElem?_toArray, List.getElem?_cons_zero, List.getElem?_cons_succ] at b0 b1
  clear hs hf hk HNR
  cases R with
  | nil =>
    go_wp2
    have hr := row_set (row_set RB.out 0 (.int .u64 0)) 1 (.int .u64 0)
    refine bodyPost_ret (results_row_tmp (fn := Try.f21) rfl (by rfl) rfl hr Try.underlying55 rfl (by exact infoR2)) rfl ⟨rfl, (K.out.setCell (.inr (Nat.le_refl _)) _).setCell (.inr (Nat.le_refl _)) _⟩
  | cons x R =>
    obtain ⟨key, val⟩ := x
    obtain ⟨g, cp, e, q1, q2⟩ := S.out.some_of_pos (by simp)
    simp only [Value.slice.injEq] at e
    obtain ⟨rfl, _, rfl⟩ := e
    have y0 : w1.cell? ⟨g, 0, none⟩ = some (.int .u64 key) := S.out.cells rfl 0 (by simp [icells, icell])
    have y1 : w1.cell? ⟨g, 1, none⟩ = some (.int .u64 val) := S.out.cells rfl 1 (by simp [icells, icell])
    obtain ⟨m, hm⟩ : ∃ m, ((key, val) :: R).length = m + 1 := ⟨R.length, rfl⟩
    rw [hm] at hcp ⊢
    have hm0 : (((m + 1 : Nat) : Int) == 0) = false := by rw [beq_eq_false_iff_ne]; omega
    have hm1 : (0 : Int) < ((m + 1 : Nat) : Int) := by omega
    obtain ⟨mm, hmm⟩ : ∃ mm, m + 1 = mm := ⟨_, rfl⟩
    rw [hmm] at hm0 hm1 hcp ⊢
    clear hm hmm
    go_wp2
    have hr := row_set (row_set RB.out 0 (.int .u64 key)) 1 (.int .u64 val)
    refine bodyPost_ret (results_row_tmp (fn := Try.f21) rfl (by rfl) rfl hr Try.underlying55 rfl (by exact infoR2)) rfl ⟨rfl, (K.out.setCell (.inr (Nat.le_refl _)) _).setCell (.inr (Nat.le_refl _)) _⟩
set_option maxRecDepth 100000 in
set_option maxHeartbeats 1000000 in
/-- two lists that hold the same are alike -/
theorem same_any {w : World} {va vb : Value} {M : List It} (ha : Seg w 33 2 va M.length (icells M)) (hb : Seg w 55 2 vb M.length (icells M)) (hM : M.length ≤ 1000000) :
    Calls Try.prog 22 #[va, vb] w fun e w' => e = .returned (.bool true) ∧ Kept (fun _ => False) w w' := by
  obtain ⟨aa, ca, rfl⟩ := ha.isSlice
  obtain ⟨ab, cb, rfl⟩ := hb.isSlice
  have hca := ha.caps
  have hcb := hb.caps
  unfold maxLen at hca hcb
  have SA := hid ha; have SB := hid hb
  clear ha hb
  go_enter Try.func22, Try.ntmps22
  go_wp2_with fail
  go_loopw [5, 13] (fun _ i wr => ∃ n : Nat, n ≤ M.length ∧ i = .int .i64 n ∧ Kept (fun _ => False) w wr) (fun _ i _ => M.length - (intOf i).toNat)
  case atStart => exact ⟨0, Nat.zero_le _, rfl, Kept.refl _ _⟩
  case round =>
    rename World => wr
    obtain ⟨n, hn, rfl, hk⟩ := hrel
    have K := hid hk
    clear hk
    by_cases hlt : n < M.length
    · have hltI : (n : Int) < (M.length : Int) := by omega
      obtain ⟨⟨key, val⟩, hx⟩ : ∃ x, M[n]? = some x := ⟨_, List.getElem?_eq_getElem hlt⟩
      obtain ⟨g1, cap1, e1, _, _⟩ := SA.out.some_of_pos (by omega)
      obtain ⟨g2, cap2, e2, _, _⟩ := SB.out.some_of_pos (by omega)
      simp only [Value.slice.injEq] at e1 e2
      obtain ⟨rfl, _, rfl⟩ := e1
      obtain ⟨rfl, _, rfl⟩ := e2
      obtain ⟨x0, x1⟩ := icells_at M _ _ hx
      obtain ⟨i0, j0⟩ := List.getElem?_eq_some_iff.1 x0
      obtain ⟨i1, j1⟩ := List.getElem?_eq_some_iff.1 x1
      have y0 := K.out.cell ((SA.out.cells rfl _ i0).trans (by rw [j0])) (fun h => h)
      have y1 := K.out.cell ((SA.out.cells rfl _ i1).trans (by rw [j1])) (fun h => h)
      have y2 := K.out.cell ((SB.out.cells rfl _ i0).trans (by rw [j0])) (fun h => h)
      have y3 := K.out.cell ((SB.out.cells rfl _ i1).trans (by rw [j1])) (fun h => h)
      clear x0 x1 i0 i1 j0 j1 hx
      go_wp2_with fail
      go_quiet (fail)
      go_wp2
      go_roundw
      case rel => exact ⟨n + 1, by omega, by go_num, K.out.drewN _⟩
      case measure => simp [intOf]; omega
    · obtain rfl : n = M.length := by omega
      go_wp2
      go_ret
      exact ⟨rfl, K.out⟩
theorem flat_take {PL : List (List It)} {n : Nat} {L : List It} (h : PL[n]? = some L) : (PL.take (n + 1)).flatten = (PL.take n).flatten ++ L := by
  obtain ⟨hl, e⟩ := List.getElem?_eq_some_iff.1 h
  rw [List.take_succ_eq_append_getElem hl, e]
  simp
theorem flat_le (PL : List (List It)) (n : Nat) : (PL.take n).flatten.length ≤ PL.flatten.length := by
  conv => rhs; rw [← List.take_append_drop n PL]
  rw [List.flatten_append, List.length_append]
  omega
set_option maxRecDepth 100000 in
set_option maxHeartbeats 4000000 in
/-- the pages are as they should be -/
theorem paged_any {W w : World} {v vb : Value} {PL : List (List It)} {vs : List Value} (h : PagesAt W w v PL vs) (hw : Wf PL) (hb : Seg w 55 2 vb PL.flatten.length (icells PL.flatten)) (hM : PL.flatten.length ≤ 1000000) :
    Calls Try.prog 15 #[v, vb] w fun e w' => e = .returned (.bool true) ∧ Kept (fun _ => False) w w' := by
  obtain ⟨av, cv, rfl⟩ := h.s.isSlice
  obtain ⟨ab, cb, rfl⟩ := hb.isSlice
  obtain ⟨n0, hn0⟩ : ∃ n0, PL.flatten.length = n0 := ⟨_, rfl⟩
  rw [hn0] at hb hM ⊢
  have hcv := h.s.caps
  unfold maxLen at hcv
  have hpl := hw.pages
  have H := hid h; have HW := hid hw; have SB := hid hb; have HN0 := hid hn0
  rw [hn0] at hpl
  clear h hw hb hn0
  go_enter Try.func15, Try.ntmps15
  go_wp2_with fail
  go_loopw [5, 7, 10] (fun o _ i wr => ∃ (n : Nat) (acc : List It) (a : Option Addr) (c : Nat), n ≤ PL.length ∧ o = .slice a acc.length c ∧ i = .int .i64 n ∧ acc = (PL.take n).flatten ∧ Seg wr 33 2 (.slice a acc.length c) acc.length (icells acc) ∧ (∀ g, (Value.slice a acc.length c).ownBlock = some g → w.heap.size ≤ g) ∧ Kept (fun _ => False) w wr) (fun _ _ i _ => PL.length - (intOf i).toNat)
  case atStart => exact ⟨0, [], none, 0, Nat.zero_le _, rfl, rfl, rfl, Seg.nil _ _ _, by simp [Value.ownBlock], Kept.refl _ _⟩
  case round =>
    rename World => wr
    obtain ⟨n, acc, a, c, hn, rfl, rfl, hacc, hs, hf, hk⟩ := hrel
    have S := hid hs; have FR := hid hf; have K := hid hk; have HA := hid hacc
    have hal : acc.length ≤ n0 := by rw [hacc, ← HN0.out]; exact flat_le _ _
    clear hs hf hk hacc
    by_cases hlt : n < PL.length
    · have hltI : (n : Int) < (PL.length : Int) := by omega
      obtain ⟨L, hL⟩ : ∃ L, PL[n]? = some L := ⟨_, List.getElem?_eq_getElem hlt⟩
      obtain ⟨u, hu, hus, huf⟩ := H.out.p n L hL
      obtain ⟨au, cu, rfl⟩ := hus.isSlice
      obtain ⟨g1, cap1, e1, _, _⟩ := H.out.s.some_of_pos (by omega)
      simp only [Value.slice.injEq] at e1
      obtain ⟨rfl, _, rfl⟩ := e1
      obtain ⟨i0, j0⟩ := List.getElem?_eq_some_iff.1 hu
      have y0 := K.out.cell ((H.out.s.cells rfl _ i0).trans (by rw [j0])) (fun h => h)
      have hne := HW.out.ne L (List.mem_of_getElem? hL)
      have h2 := fun h => HW.out.two h L (List.mem_of_getElem? hL)
      have SU := hid (hus.same K.out)
      have HL := hid hL
      have d1 : decide ((L.length : Int) < 1) = false := by rw [decide_eq_false_iff_not]; omega
      have d2 : decide ((8 : Int) < (L.length : Int)) = false := by rw [decide_eq_false_iff_not]; omega
      have hfl := flat_take hL
      have hle2 : (PL.take (n + 1)).flatten.length ≤ n0 := by rw [← HN0.out]; exact flat_le _ _
      rw [hfl, List.length_append] at hle2
      have hal2 : acc.length + L.length ≤ 1000000 := by
        have := congrArg List.length HA.out
        omega
      clear hu i0 j0 hus huf hL hfl hle2
      obtain ⟨b1, hb1⟩ : ∃ b1, decide ((1 : Int) < (PL.length : Int)) = b1 := ⟨_, rfl⟩
      have d3 : b1 = true → decide ((L.length : Int) < 2) = false := fun h => by
        subst h
        rw [decide_eq_true_eq] at hb1
        have := h2 (by omega)
        rw [decide_eq_false_iff_not]; omega
      have D3 := hid d3
      clear h2 d3
      cases b1
      all_goals
        try have d4 := D3.out rfl
        go_wp2_with (at_builtin; refine wpList_app_seg rfl (.tmp 32) (.tmp 33) 29 rfl 33 (.agg #[.int .u64 0, .int .u64 0]) 2 16 Try.underlying29 infoS rfl (by decide) (.slice a acc.length c) acc.length (icells acc) rfl (by exact S.out) (.slice au L.length cu) rfl L.length (icells L) (by exact SU.out.src (icells_one _)) (by unfold maxLen; omega) (by omega) ?_; intro a3 c3 w3 hs3 hk3 hf3; have HS3 := hid hs3; have HK3 := hid hk3; have HF3 := hid hf3; clear hs3 hk3 hf3)
        have hl3 : (acc ++ L).length = acc.length + L.length := by simp
        have hs5 := HS3.out
        have hf5 := HF3.out
        have hz5 := K.out.size
        rw [← icells_append, ← hl3] at hs5
        rw [← hl3] at hf5
        have HA2 := hid (show acc ++ L = (PL.take (n + 1)).flatten by rw [flat_take HL.out, HA.out])
        have HF2 := hid (show ∀ g, (Value.slice a3 (acc ++ L).length c3).ownBlock = some g → w.heap.size ≤ g from fun g hg => by
          rcases hf5 g hg with e | e
          · exact FR.out g e
          · omega)
        have HK2 := hid (K.out.trans' HK3.out (fun g hg => .inr (FR.out g hg)))
        have HS5 := hid hs5
        have HL3 := hid hl3
        clear hs5 hf5 hl3
        go_roundw
        case rel => exact ⟨n + 1, acc ++ L, a3, c3, by omega, by rw [HL3.out], by go_num, HA2.out, HS5.out, HF2.out, HK2.out⟩
        case measure => simp [intOf]; omega
    · obtain rfl : n = PL.length := by omega
      have ha := HA.out
      rw [List.take_length] at ha
      have HAE := hid ha; clear ha hpl
      go_wp2_with fail
      refine (same_any (M := acc) (va := .slice a acc.length c) (vb := .slice ab n0 cb) S.out (by rw [HAE.out, HN0.out]; exact SB.out.same K.out) (by rw [HAE.out, HN0.out]; exact hM)).mono ?_
      rintro e w1 ⟨rfl, hk⟩
      have K1 := hid (K.out.trans hk)
      clear hk
      go_wp2
      go_ret
      exact ⟨rfl, K1.out⟩
end Go.Proofs.Ytfmohmlpcielnaa
