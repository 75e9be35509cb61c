/- Delete: the walk. -/
import Derived.Test.YtfmohmlpcielnaaU
namespace Go.Proofs.Ytfmohmlpcielnaa
open Go.RowKit
theorem delP_len {PL : List (List It)} (hw : Wf PL) {k : Int} {i j : Nat} (hf : findP PL k = (i, j, true)) : (delP PL k).flatten.length + 1 = PL.flatten.length := by
  rw [delP_flat hw]
  obtain ⟨L, v0, hL, hj⟩ := findP_some hf
  have hfl : PL.flatten = ((PL.take i).flatten ++ L.take j) ++ (k, v0) :: (L.drop (j + 1) ++ (PL.drop (i + 1)).flatten) := by
    conv => lhs; rw [split_at hL]
    conv => lhs; rw [split_at hj]
    simp
  have hu := hw.up
  rw [hfl] at hu ⊢
  have := dropL_split hu
  rw [this]
  simp only [List.length_append, List.length_cons]
  omega
def DelPost (F : Nat → Prop) (w : World) (xb : Nat) (PL : List (List It)) (k : Int) (e : Ending) (w' : World) : Prop := e = .returned (.int .i64 (if (findP PL k).2.2 then 0 else 6)) ∧ IxOk F w' xb (delP PL k) ∧ Kept F w w'
theorem del_done {F : Nat → Prop} {w w' : World} {xb : Nat} {PL : List (List It)} {S : List Pg} {n : Nat} {k : Int} {i j : Nat} {pv : Value} (hf : findP PL k = (i, j, true)) (hw : Wf PL) (hn : PL.flatten.length = n + 1) (hm : n + 1 ≤ 4096)
    (hS : pl S = delI PL i j) (h : IxAt F w' xb pv S (n : Int)) (hk : Kept F w w') : DelPost F w xb PL k (.returned (.int .i64 0)) w' := by
  have hd : delP PL k = delI PL i j := by unfold delP; rw [hf]; rfl
  have hl := delP_len hw hf
  have hl' : (delP PL k).flatten.length = n := by omega
  refine ⟨by rw [hf]; rfl, ⟨delP_wf hw k, by omega, pv, S, by rw [hd]; exact hS, ?_⟩, hk⟩
  rw [hl']
  exact h
theorem pl_len (S : List Pg) : (pl S).length = S.length := by simp [pl]
theorem pl_take (S : List Pg) (i : Nat) : pl (S.take i) = (pl S).take i := by simp [pl]
theorem pl_drop (S : List Pg) (i : Nat) : pl (S.drop i) = (pl S).drop i := by simp [pl]
set_option maxRecDepth 100000 in
set_option maxHeartbeats 1000000 in
theorem delete_none {F : Nat → Prop} {w : World} {xb : Nat} {PL : List (List It)} (h : IxOk F w xb PL) (k : Int) {i j : Nat} (hf : findP PL k = (i, j, false)) :
    Calls Try.prog 17 #[.pointer (some ⟨xb, 0, none⟩), .int .u64 k] w (DelPost F w xb PL k) := by
  have H0 := hid h
  obtain ⟨hw, hn, pv, S, rfl, h⟩ := h
  have hle := hw.pages
  have hSl : S.length ≤ 4096 := by simp [pl] at hle; simp [pl] at hn; omega
  have H := hid h; have HW := hid hw; have HF := hid hf
  clear h hw hf hle hn
  go_enter Try.func17, Try.ntmps17
  go_wp2_with fail
  refine (find_any H.out HW.out (by omega) k HF.out).mono ?_
  rintro e w1 ⟨rfl, hk1⟩
  have K1 := hid hk1
  clear hk1
  go_wp2
  go_returns
  refine ⟨by rw [HF.out]; rfl, ?_, K1.out.mono (fun _ _ h => h.elim)⟩
  have hd : delP (pl S) k = pl S := by unfold delP; rw [HF.out]; rfl
  rw [hd]
  exact H0.out.same K1.out
set_option maxRecDepth 100000 in
set_option maxHeartbeats 1000000 in
theorem delete_found {F : Nat → Prop} {w : World} {xb : Nat} {PL : List (List It)} (h : IxOk F w xb PL) (hF : ∀ g, w.heap.size ≤ g → F g) (k : Int) {i j : Nat} (hf : findP PL k = (i, j, true)) :
    Calls Try.prog 17 #[.pointer (some ⟨xb, 0, none⟩), .int .u64 k] w (DelPost F w xb PL k) := by
  obtain ⟨hw, hn, pv, S, rfl, h⟩ := h
  obtain ⟨L, v0, hL, hj⟩ := findP_some hf
  obtain ⟨pb, iv, hx⟩ := pl_at hL
  have hmem := List.mem_of_getElem? hx
  have hpg : PgAt w pb iv L := h.p _ hmem
  have hLne := hw.ne _ (List.mem_of_getElem? hL)
  have hle := hw.pages
  have hSl : S.length ≤ 4096 := by simp [pl] at hle; simp [pl] at hn; omega
  obtain ⟨g, cap, rfl, q1, q2⟩ := hpg.s.some_of_pos hLne.1
  have hil : i < S.length := (List.getElem?_eq_some_iff.1 hx).1
  obtain ⟨pg, pcap, rfl, q3, q4⟩ := h.s.some_of_pos (by omega)
  unfold maxLen at q2 q4
  have hjl : j < L.length := (List.getElem?_eq_some_iff.1 hj).1
  have n0 : pg ≠ xb := fun e => h.s.ne_block h.r (by decide) (by rw [e]; rfl)
  have n1 : pb ≠ xb := fun e => by have := hpg.r; rw [e, h.r] at this; simp at this
  have n2 : g ≠ xb := fun e => hpg.s.ne_block h.r (by decide) (by rw [e]; rfl)
  have n3 : g ≠ pb := fun e => hpg.s.ne_block hpg.r (by decide) (by rw [e]; rfl)
  have n4 : pg ≠ pb := fun e => h.s.ne_block hpg.r (by decide) (by rw [e]; rfl)
  have n5 : pg ≠ g := fun e => h.s.ne hpg.s (by decide) (g := pg) rfl (by rw [e]; rfl)
  have c0 : w.cell? ⟨xb, 0, none⟩ = some (.slice (some ⟨pg, 0, none⟩) S.length pcap) := row_cell h.r 0
  have cn : w.cell? ⟨xb, 1, none⟩ = some (.int .i64 ((pl S).flatten.length : Int)) := row_cell h.r 1
  have c1 : w.cell? ⟨pg, i, none⟩ = some (.pointer (some ⟨pb, 0, none⟩)) := (h.s.cells rfl i (by simp [ptrs]; omega)).trans (by
    obtain ⟨_, e⟩ := List.getElem?_eq_some_iff.1 hx
    simp [ptrs, e])
  have c2 : w.cell? ⟨pb, 0, none⟩ = some (.slice (some ⟨g, 0, none⟩) L.length cap) := row_cell hpg.r 0
  obtain ⟨n, hnn⟩ : ∃ n, (pl S).flatten.length = n + 1 := ⟨(pl S).flatten.length - 1, by have := delP_len hw hf; omega⟩
  rw [hnn] at cn hn
  have wn : IntKind.i64.wrap (((n + 1 : Nat) : Int) - 1) = (n : Int) := (IntWalk.i64_in _ (by omega)).trans (by omega)
  obtain ⟨nn, hnne⟩ : ∃ nn : Int, ((n + 1 : Nat) : Int) = nn := ⟨_, rfl⟩
  rw [hnne] at cn wn
  have wj : IntKind.i64.wrap ((j : Int) + 1) = ((j + 1 : Nat) : Int) := (IntWalk.i64_in _ (by omega)).trans (by omega)
  obtain ⟨j1, hj1⟩ : ∃ j1, j + 1 = j1 := ⟨_, rfl⟩
  rw [hj1] at wj
  have hiI : (i : Int) < (S.length : Int) := by omega
  have HJ1 := hid hj1
  obtain ⟨m, hmm⟩ : ∃ m, j + (L.length - j1) = m := ⟨_, rfl⟩
  have hm1 : m + 1 = L.length := by omega
  have HMM := hid hmm; have HM1 := hid hm1
  have hS' : delI (pl S) i j = delI (pl S) i j := rfl
  have H := hid h; have HW := hid hw; have HF := hid hf; have HX := hid hx; have HL := hid hL; have HJ := hid hj; have HP := hid hpg; have HN := hid hnn; have HFF := hid hF; have HNM := hid hn
  have HLN := hid hLne; have N0 := hid n0; have N1 := hid n1; have N2 := hid n2; have N3 := hid n3; have N4 := hid n4; have N5 := hid n5
  have HSL := hid hSl; have HIL := hid hil
  clear h hw hf hx hL hj hmem hpg hle hn hF hnn hnne hLne n0 n1 n2 n3 n4 n5 hmm hm1 hj1 hS' hSl
  go_enter Try.func17, Try.ntmps17
  go_wp2_with fail
  refine (find_any H.out HW.out (by have := HSL.out; omega) k HF.out).mono ?_
  rintro e w1 ⟨rfl, hk1⟩
  have K1 := hid hk1
  replace c0 := hk1.cell c0 (fun h => h)
  replace c1 := hk1.cell c1 (fun h => h)
  replace c2 := hk1.cell c2 (fun h => h)
  replace cn := hk1.cell cn (fun h => h)
  have R1 := hid ((hk1.block _ (row_lt H.out.r) (fun h => h)).trans H.out.r)
  clear hk1
  go_wp2_with (refine wpList_store_cell rfl 3 (.tmp 26) (.tmp 24) rfl (by kernel_rfl) xb 1 rfl (.int .i64 (n : Int)) rfl rfl R1.out (by simp) ?_; intro w2 hr2 hk2; have R2 := hid hr2.out; have K2 := hid hk2.out; replace c0 := row_cell hr2.out 0; replace c1 := hk2.out.cell c1 N0.out; replace c2 := hk2.out.cell c2 N1.out; clear hr2 hk2 cn; simp only [List.setIfInBounds_toArray, List.set_cons_succ, List.set_cons_zero, List.getElem?_toArray, List.getElem?_cons_zero] at c0)
  have HP2 := hid ((HP.out.same K1.out).kept K2.out N1.out (fun a ha e => N2.out (by simp [Value.ownBlock] at ha; exact ha.trans e)))
  refine (del_any HP2.out.s (icells_one _) j j1 (by have := HJ1.out; omega) (by have := HJ1.out; omega)).mono ?_
  rintro e w3 ⟨cp3, rfl, hs3, hk3⟩
  simp only [Value.ownBlock, Option.map_some] at hs3 ⊢
  rw [HMM.out] at hs3 ⊢
  have S3 := hid hs3; have K3 := hid (hk3.mono (G := fun a => a = g) (fun a _ ha => by simpa [Value.ownBlock] using ha.symm))
  clear hs3 hk3
  have RP3 := hid ((K3.out.block _ (row_lt HP2.out.r) (fun e => N3.out e.symm)).trans HP2.out.r)
  have RX3 := hid ((K3.out.block _ (row_lt R2.out) (fun e => N2.out e.symm)).trans R2.out)
  replace c0 := K3.out.cell c0 (fun e => N2.out e.symm)
  by_cases h2 : 2 ≤ m
  · have h2I : decide ((2 : Int) ≤ (m : Int)) = true := by rw [decide_eq_true_eq]; omega
    go_wp2_with (refine wpList_store_cell rfl 29 (.tmp 44) (.tmp 42) rfl (by kernel_rfl) pb 0 rfl (.slice (some ⟨g, 0, none⟩) m cp3) rfl rfl RP3.out (by simp) ?_; intro w4 hr4 hk4; have RP4 := hid hr4.out; have K4 := hid hk4.out; have RX4 := hid ((hk4.out.block _ (row_lt RX3.out) (fun e => N1.out e.symm)).trans RX3.out); have c4 := row_cell hr4.out 0; replace c0 := hk4.out.cell c0 (fun e => N1.out e.symm); clear hr4 hk4 c2; simp only [List.setIfInBounds_toArray, List.set_cons_succ, List.set_cons_zero, List.getElem?_toArray, List.getElem?_cons_zero] at c4)
    have hG := hid ((((K1.out.mono (G := fun a => a = xb ∨ a = pb ∨ a = g) (fun _ _ h => h.elim)).trans (K2.out.mono (fun a _ h => .inl h))).trans (K3.out.mono (fun a _ h => .inr (.inr h)))).trans (K4.out.mono (fun a _ h => .inr (.inl h))))
    have hel : (eraI L j).length = m := by have := eraI_len hjl; have := HM1.out; omega
    have HEL := hid hel
    have H4 := hid (H.out.setPage HX.out hG.out (n' := (n : Int)) (iv' := .slice (some ⟨g, 0, none⟩) m cp3) (L' := eraI L j) (fun a ha _ => by
        rcases ha with e | e | e
        · exact .inl e
        · exact .inr (.inl e)
        · exact .inr (.inr (by rw [e]; rfl)))
      ((K4.out.block _ (row_lt RX3.out) (fun e => N1.out e.symm)).trans RX3.out)
      ⟨RP4.out, by
        rw [hel]
        have e : (icells L).take (j * 2) ++ (icells L).drop (j1 * 2) = icells (eraI L j) := by rw [icells_take, icells_drop, ← HJ1.out, eraI, icells_append]
        rw [← e]
        exact S3.out.kept K4.out (fun a ha e => N3.out (by simp [Value.ownBlock] at ha; exact ha.trans e))⟩
      (fun a ha => by
        simp [Value.ownBlock] at ha; subst ha
        exact ⟨(H.out.b _ (List.mem_of_getElem? HX.out)).2 _ rfl, .inl rfl⟩))
    clear hel
    go_returns
    refine del_done HF.out HW.out HN.out HNM.out ?_ H4.out (hG.out.mono (fun a _ ha => ?_))
    · unfold delI
      rw [HL.out, Option.getD_some, HEL.out, if_pos h2]
      simp [pl]
    · rcases ha with rfl | rfl | rfl
      · exact H.out.m
      · exact (H.out.b _ (List.mem_of_getElem? HX.out)).1
      · exact (H.out.b _ (List.mem_of_getElem? HX.out)).2 _ rfl
  · have h2I : decide ((2 : Int) ≤ (m : Int)) = false := by rw [decide_eq_false_iff_not]; omega
    by_cases h1 : S.length = 1
    · have h1I : ((S.length : Int) == 1) = true := by rw [beq_iff_eq]; omega
      by_cases h0 : m = 0
      · have h0I : ((m : Int) == 0) = true := by rw [beq_iff_eq]; omega
        go_wp2_with (first
          | (refine wpList_store_cell rfl 29 (.tmp 44) (.tmp 42) rfl (by kernel_rfl) pb 0 rfl (.slice (some ⟨g, 0, none⟩) m cp3) rfl rfl RP3.out (by simp) ?_; intro w4 hr4 hk4; have RP4 := hid hr4.out; have K4 := hid hk4.out; have RX4 := hid ((hk4.out.block _ (row_lt RX3.out) (fun e => N1.out e.symm)).trans RX3.out); have c4 := row_cell hr4.out 0; replace c0 := hk4.out.cell c0 (fun e => N1.out e.symm); clear hr4 hk4 c2; simp only [List.setIfInBounds_toArray, List.set_cons_succ, List.set_cons_zero, List.getElem?_toArray, List.getElem?_cons_zero] at c4)
          | (refine wpList_store_cell rfl 62 (.tmp 67) (.const (.slice none 0 0)) rfl (by kernel_rfl) xb 0 rfl (.slice none 0 0) rfl rfl RX4.out (by simp) ?_; intro w5 hr5 hk5; have RX5 := hid hr5.out; have K5 := hid hk5.out; clear hr5 hk5))
        have hG := hid ((((K1.out.mono (G := fun a => a = xb ∨ a = pb ∨ a = g) (fun _ _ h => h.elim)).trans (K2.out.mono (fun a _ h => .inl h))).trans (K3.out.mono (fun a _ h => .inr (.inr h)))).trans (K4.out.mono (fun a _ h => .inr (.inl h))))
        have hel : (eraI L j).length = m := by have := eraI_len hjl; have := HM1.out; omega
        have HEL := hid hel
        have H4 := hid (H.out.setPage HX.out hG.out (n' := (n : Int)) (iv' := .slice (some ⟨g, 0, none⟩) m cp3) (L' := eraI L j) (fun a ha _ => by
            rcases ha with e | e | e
            · exact .inl e
            · exact .inr (.inl e)
            · exact .inr (.inr (by rw [e]; rfl)))
          ((K4.out.block _ (row_lt RX3.out) (fun e => N1.out e.symm)).trans RX3.out)
          ⟨RP4.out, by
            rw [hel]
            have e : (icells L).take (j * 2) ++ (icells L).drop (j1 * 2) = icells (eraI L j) := by rw [icells_take, icells_drop, ← HJ1.out, eraI, icells_append]
            rw [← e]
            exact S3.out.kept K4.out (fun a ha e => N3.out (by simp [Value.ownBlock] at ha; exact ha.trans e))⟩
          (fun a ha => by
            simp [Value.ownBlock] at ha; subst ha
            exact ⟨(H.out.b _ (List.mem_of_getElem? HX.out)).2 _ rfl, .inl rfl⟩))
        clear hel
        go_returns
        have hG5 := hG.out.trans (K5.out.mono (fun a _ ha => .inl ha))
        have hIx := IxAt.re (A := []) (Y := S.take i ++ [(pb, .slice (some ⟨g, 0, none⟩) m cp3, eraI L j)] ++ S.drop (i + 1)) (B := []) (Z := []) (n' := (n : Int)) (by simpa using H4.out) K5.out
          (fun a ha _ => .inl ha) RX5.out (by simpa [ptrs] using Seg.nil w5 69 1) (by simp) (by simp [Value.ownBlock]) (by simp) List.Pairwise.nil (by simp) (by simp)
        refine del_done HF.out HW.out HN.out HNM.out ?_ hIx (hG5.mono (fun a _ ha => ?_))
        · unfold delI
          rw [HL.out, Option.getD_some, HEL.out, if_neg h2, if_pos (by rw [pl_len]; exact h1), if_pos h0]
          rfl
        · rcases ha with rfl | rfl | rfl
          · exact H.out.m
          · exact (H.out.b _ (List.mem_of_getElem? HX.out)).1
          · exact (H.out.b _ (List.mem_of_getElem? HX.out)).2 _ rfl
      · have h0I : ((m : Int) == 0) = false := by rw [beq_eq_false_iff_ne]; omega
        go_wp2_with (refine wpList_store_cell rfl 29 (.tmp 44) (.tmp 42) rfl (by kernel_rfl) pb 0 rfl (.slice (some ⟨g, 0, none⟩) m cp3) rfl rfl RP3.out (by simp) ?_; intro w4 hr4 hk4; have RP4 := hid hr4.out; have K4 := hid hk4.out; have RX4 := hid ((hk4.out.block _ (row_lt RX3.out) (fun e => N1.out e.symm)).trans RX3.out); have c4 := row_cell hr4.out 0; replace c0 := hk4.out.cell c0 (fun e => N1.out e.symm); clear hr4 hk4 c2; simp only [List.setIfInBounds_toArray, List.set_cons_succ, List.set_cons_zero, List.getElem?_toArray, List.getElem?_cons_zero] at c4)
        have hG := hid ((((K1.out.mono (G := fun a => a = xb ∨ a = pb ∨ a = g) (fun _ _ h => h.elim)).trans (K2.out.mono (fun a _ h => .inl h))).trans (K3.out.mono (fun a _ h => .inr (.inr h)))).trans (K4.out.mono (fun a _ h => .inr (.inl h))))
        have hel : (eraI L j).length = m := by have := eraI_len hjl; have := HM1.out; omega
        have HEL := hid hel
        have H4 := hid (H.out.setPage HX.out hG.out (n' := (n : Int)) (iv' := .slice (some ⟨g, 0, none⟩) m cp3) (L' := eraI L j) (fun a ha _ => by
            rcases ha with e | e | e
            · exact .inl e
            · exact .inr (.inl e)
            · exact .inr (.inr (by rw [e]; rfl)))
          ((K4.out.block _ (row_lt RX3.out) (fun e => N1.out e.symm)).trans RX3.out)
          ⟨RP4.out, by
            rw [hel]
            have e : (icells L).take (j * 2) ++ (icells L).drop (j1 * 2) = icells (eraI L j) := by rw [icells_take, icells_drop, ← HJ1.out, eraI, icells_append]
            rw [← e]
            exact S3.out.kept K4.out (fun a ha e => N3.out (by simp [Value.ownBlock] at ha; exact ha.trans e))⟩
          (fun a ha => by
            simp [Value.ownBlock] at ha; subst ha
            exact ⟨(H.out.b _ (List.mem_of_getElem? HX.out)).2 _ rfl, .inl rfl⟩))
        clear hel
        go_returns
        refine del_done HF.out HW.out HN.out HNM.out ?_ H4.out (hG.out.mono (fun a _ ha => ?_))
        · unfold delI
          have hi0 : i = 0 := by omega
          rw [HL.out, Option.getD_some, HEL.out, if_neg h2, if_pos (by rw [pl_len]; exact h1), if_neg h0]
          subst hi0
          have : S.drop 1 = [] := List.drop_of_length_le (by omega)
          simp [pl, this]
        · rcases ha with rfl | rfl | rfl
          · exact H.out.m
          · exact (H.out.b _ (List.mem_of_getElem? HX.out)).1
          · exact (H.out.b _ (List.mem_of_getElem? HX.out)).2 _ rfl
    · have h1I : ((S.length : Int) == 1) = false := by rw [beq_eq_false_iff_ne]; omega
      have hL2 : 2 ≤ L.length := HW.out.two (by rw [pl_len]; omega) L (List.mem_of_getElem? HL.out)
      have hm1 : m = 1 := by have := HM1.out; omega
      by_cases h3 : i + 1 < S.length
      · have h3I : ((i : Int) == (S.length : Int) - 1) = false := by rw [beq_eq_false_iff_ne]; omega
        go_wp2_with (refine wpList_store_cell rfl 29 (.tmp 44) (.tmp 42) rfl (by kernel_rfl) pb 0 rfl (.slice (some ⟨g, 0, none⟩) m cp3) rfl rfl RP3.out (by simp) ?_; intro w4 hr4 hk4; have RP4 := hid hr4.out; have K4 := hid hk4.out; have RX4 := hid ((hk4.out.block _ (row_lt RX3.out) (fun e => N1.out e.symm)).trans RX3.out); have c4 := row_cell hr4.out 0; replace c0 := hk4.out.cell c0 (fun e => N1.out e.symm); clear hr4 hk4 c2; simp only [List.setIfInBounds_toArray, List.set_cons_succ, List.set_cons_zero, List.getElem?_toArray, List.getElem?_cons_zero] at c4)
        have hG := hid ((((K1.out.mono (G := fun a => a = xb ∨ a = pb ∨ a = g) (fun _ _ h => h.elim)).trans (K2.out.mono (fun a _ h => .inl h))).trans (K3.out.mono (fun a _ h => .inr (.inr h)))).trans (K4.out.mono (fun a _ h => .inr (.inl h))))
        have hel : (eraI L j).length = m := by have := eraI_len hjl; have := HM1.out; omega
        have HEL := hid hel
        have H4 := hid (H.out.setPage HX.out hG.out (n' := (n : Int)) (iv' := .slice (some ⟨g, 0, none⟩) m cp3) (L' := eraI L j) (fun a ha _ => by
            rcases ha with e | e | e
            · exact .inl e
            · exact .inr (.inl e)
            · exact .inr (.inr (by rw [e]; rfl)))
          ((K4.out.block _ (row_lt RX3.out) (fun e => N1.out e.symm)).trans RX3.out)
          ⟨RP4.out, by
            rw [hel]
            have e : (icells L).take (j * 2) ++ (icells L).drop (j1 * 2) = icells (eraI L j) := by rw [icells_take, icells_drop, ← HJ1.out, eraI, icells_append]
            rw [← e]
            exact S3.out.kept K4.out (fun a ha e => N3.out (by simp [Value.ownBlock] at ha; exact ha.trans e))⟩
          (fun a ha => by
            simp [Value.ownBlock] at ha; subst ha
            exact ⟨(H.out.b _ (List.mem_of_getElem? HX.out)).2 _ rfl, .inl rfl⟩))
        clear hel
        have hF4 : ∀ a, w4.heap.size ≤ a → F a := fun a ha => HFF.out a (Nat.le_trans hG.out.size ha)
        have hKF : Kept F w w4 := hG.out.mono (fun a _ ha => by rcases ha with rfl | rfl | rfl <;> first | exact H.out.m | exact (H.out.b _ (List.mem_of_getElem? HX.out)).1 | exact (H.out.b _ (List.mem_of_getElem? HX.out)).2 _ rfl)
        obtain ⟨Lq, hLq⟩ : ∃ Lq, (pl S)[i + 1]? = some Lq := ⟨_, List.getElem?_eq_getElem (by rw [pl_len]; exact h3)⟩
        obtain ⟨qb, qv, hq⟩ := pl_at hLq
        have hdr : S.drop (i + 1) = (qb, qv, Lq) :: S.drop (i + 2) := by
          obtain ⟨hl, e⟩ := List.getElem?_eq_some_iff.1 hq
          rw [← List.getElem_cons_drop hl, e]
        have hS4 : S.take i ++ [(pb, .slice (some ⟨g, 0, none⟩) m cp3, eraI L j)] ++ S.drop (i + 1) = S.take i ++ [(pb, .slice (some ⟨g, 0, none⟩) m cp3, eraI L j), (qb, qv, Lq)] ++ S.drop (i + 2) := by rw [hdr]; simp
        have hqn := HW.out.ne Lq (List.mem_of_getElem? hLq)
        have hq2 := HW.out.two (by rw [pl_len]; omega) Lq (List.mem_of_getElem? hLq)
        have hA : (S.take i).length = i := by rw [List.length_take]; omega
        have hLE := HLN.out
        have hEL := HEL.out
        have J := join_any (A := S.take i) (a := (pb, .slice (some ⟨g, 0, none⟩) m cp3, eraI L j)) (b := (qb, qv, Lq)) (B := S.drop (i + 2)) (n := (n : Int)) (by rw [← hS4]; exact H4.out) hF4 (by dsimp only; omega) (by dsimp only; omega) (by dsimp only; omega) (by have := HSL.out; simp; omega)
        rw [hA] at J
        refine J.mono ?_
        rintro e w5 ⟨rfl, pv', Z, hZ, hIx, hk5⟩
        have HZ := hid hZ; have HIx := hid hIx; have K5 := hid hk5; have HKF := hid hKF; have HLQ := hid hLq
        clear hZ hIx hk5 J hF4 hKF hdr hS4 hLq
        go_wp2
        go_returns
        refine del_done HF.out HW.out HN.out HNM.out ?_ HIx.out (HKF.out.trans K5.out)
        unfold delI
        rw [HL.out, Option.getD_some, HEL.out, if_neg h2, if_neg (by rw [pl_len]; exact h1), if_pos (by rw [pl_len]; exact h3), HLQ.out, pl_append, pl_append, HZ.out, pl_take, pl_drop]
        rfl
      · have h3I : ((i : Int) == (S.length : Int) - 1) = true := by rw [beq_iff_eq]; omega
        have wi : IntKind.i64.wrap ((i : Int) - 1) = ((i - 1 : Nat) : Int) := (IntWalk.i64_in _ (by omega)).trans (by omega)
        obtain ⟨i0, hi0⟩ : ∃ i0, i - 1 = i0 := ⟨_, rfl⟩
        rw [hi0] at wi
        have HI0 := hid hi0; clear hi0
        go_wp2_with (refine wpList_store_cell rfl 29 (.tmp 44) (.tmp 42) rfl (by kernel_rfl) pb 0 rfl (.slice (some ⟨g, 0, none⟩) m cp3) rfl rfl RP3.out (by simp) ?_; intro w4 hr4 hk4; have RP4 := hid hr4.out; have K4 := hid hk4.out; have RX4 := hid ((hk4.out.block _ (row_lt RX3.out) (fun e => N1.out e.symm)).trans RX3.out); have c4 := row_cell hr4.out 0; replace c0 := hk4.out.cell c0 (fun e => N1.out e.symm); clear hr4 hk4 c2; simp only [List.setIfInBounds_toArray, List.set_cons_succ, List.set_cons_zero, List.getElem?_toArray, List.getElem?_cons_zero] at c4)
        have hG := hid ((((K1.out.mono (G := fun a => a = xb ∨ a = pb ∨ a = g) (fun _ _ h => h.elim)).trans (K2.out.mono (fun a _ h => .inl h))).trans (K3.out.mono (fun a _ h => .inr (.inr h)))).trans (K4.out.mono (fun a _ h => .inr (.inl h))))
        have hel : (eraI L j).length = m := by have := eraI_len hjl; have := HM1.out; omega
        have HEL := hid hel
        have H4 := hid (H.out.setPage HX.out hG.out (n' := (n : Int)) (iv' := .slice (some ⟨g, 0, none⟩) m cp3) (L' := eraI L j) (fun a ha _ => by
            rcases ha with e | e | e
            · exact .inl e
            · exact .inr (.inl e)
            · exact .inr (.inr (by rw [e]; rfl)))
          ((K4.out.block _ (row_lt RX3.out) (fun e => N1.out e.symm)).trans RX3.out)
          ⟨RP4.out, by
            rw [hel]
            have e : (icells L).take (j * 2) ++ (icells L).drop (j1 * 2) = icells (eraI L j) := by rw [icells_take, icells_drop, ← HJ1.out, eraI, icells_append]
            rw [← e]
            exact S3.out.kept K4.out (fun a ha e => N3.out (by simp [Value.ownBlock] at ha; exact ha.trans e))⟩
          (fun a ha => by
            simp [Value.ownBlock] at ha; subst ha
            exact ⟨(H.out.b _ (List.mem_of_getElem? HX.out)).2 _ rfl, .inl rfl⟩))
        clear hel
        have hF4 : ∀ a, w4.heap.size ≤ a → F a := fun a ha => HFF.out a (Nat.le_trans hG.out.size ha)
        have hKF : Kept F w w4 := hG.out.mono (fun a _ ha => by rcases ha with rfl | rfl | rfl <;> first | exact H.out.m | exact (H.out.b _ (List.mem_of_getElem? HX.out)).1 | exact (H.out.b _ (List.mem_of_getElem? HX.out)).2 _ rfl)
        have e0 := HI0.out
        obtain ⟨Lq, hLq⟩ : ∃ Lq, (pl S)[i0]? = some Lq := ⟨_, List.getElem?_eq_getElem (by rw [pl_len]; omega)⟩
        obtain ⟨qb, qv, hq⟩ := pl_at hLq
        have hdr : S.take i = S.take i0 ++ [(qb, qv, Lq)] := by rw [← take_one hq]; congr 1; omega
        have hS4 : S.take i ++ [(pb, .slice (some ⟨g, 0, none⟩) m cp3, eraI L j)] ++ S.drop (i + 1) = S.take i0 ++ [(qb, qv, Lq), (pb, .slice (some ⟨g, 0, none⟩) m cp3, eraI L j)] ++ S.drop (i + 1) := by rw [hdr]; simp
        have hqn := HW.out.ne Lq (List.mem_of_getElem? hLq)
        have hA : (S.take i0).length = i0 := by rw [List.length_take]; omega
        have hLE := HLN.out
        have hEL := HEL.out
        have J := join_any (A := S.take i0) (a := (qb, qv, Lq)) (b := (pb, .slice (some ⟨g, 0, none⟩) m cp3, eraI L j)) (B := S.drop (i + 1)) (n := (n : Int)) (by rw [← hS4]; exact H4.out) hF4 (by dsimp only; omega) (by dsimp only; omega) (by dsimp only; omega) (by have := HSL.out; simp; omega)
        rw [hA] at J
        refine J.mono ?_
        rintro e w5 ⟨rfl, pv', Z, hZ, hIx, hk5⟩
        have HZ := hid hZ; have HIx := hid hIx; have K5 := hid hk5; have HKF := hid hKF; have HLQ := hid hLq
        clear hZ hIx hk5 J hF4 hKF hdr hS4 hLq
        go_wp2
        go_returns
        refine del_done HF.out HW.out HN.out HNM.out ?_ HIx.out (HKF.out.trans K5.out)
        unfold delI
        rw [HL.out, Option.getD_some, HEL.out, if_neg h2, if_neg (by rw [pl_len]; exact h1), if_neg (by rw [pl_len]; exact h3), HI0.out, HLQ.out, pl_append, pl_append, HZ.out, pl_take, pl_drop]
        rfl
/-- Delete, whatever the key -/
theorem delete_any {F : Nat → Prop} {w : World} {xb : Nat} {PL : List (List It)} (h : IxOk F w xb PL) (hF : ∀ g, w.heap.size ≤ g → F g) (k : Int) :
    Calls Try.prog 17 #[.pointer (some ⟨xb, 0, none⟩), .int .u64 k] w (DelPost F w xb PL k) := by
  obtain ⟨i', j', b, hf⟩ : ∃ i' j' b, findP PL k = (i', j', b) := ⟨_, _, _, rfl⟩
  cases b with
  | true => exact delete_found h hF k hf
  | false => exact delete_none h k hf
theorem del_flat {F : Nat → Prop} {w : World} {xb : Nat} {M : List It} (h : Ix F w xb M) (hF : ∀ g, w.heap.size ≤ g → F g) (k : Int) :
    Calls Try.prog 17 #[.pointer (some ⟨xb, 0, none⟩), .int .u64 k] w fun e w' => e = .returned (.int .i64 (if (getI M k).isSome then 0 else 6)) ∧ Ix F w' xb (dropL M k) ∧ Kept F w w' := by
  obtain ⟨PL, h, rfl⟩ := h
  have hw := h.1
  refine (delete_any h hF k).mono ?_
  rintro e w' ⟨rfl, h2, h3⟩
  exact ⟨by rw [found_is hw], ⟨_, h2, delP_flat hw k⟩, h3⟩
end Go.Proofs.Ytfmohmlpcielnaa
