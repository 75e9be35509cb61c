/- Put: a new item. -/
import Derived.Test.YtfmohmlpcielnaaJ
namespace Go.Proofs.Ytfmohmlpcielnaa
open Go.RowKit
/-- the row behind an offset -/
theorem Seg.tail {w : World} {E size g n cap : Nat} {xs : List Value} (h : Seg w E size (.slice (some ⟨g, 0, none⟩) n cap) n xs) (h1 : ∀ u ∈ xs, u.oneCell' = true) (m : Nat) (hm : m ≤ n) : Src w size (.slice (some ⟨g, m * size, none⟩) (n - m) (cap - m)) (n - m) (xs.drop (m * size)) := by
  refine ⟨_, _, rfl, by rw [List.length_drop, h.len, Nat.sub_mul], by simp, fun ad had j u hu => ?_, fun u hu => h1 u (List.mem_of_mem_drop hu)⟩
  cases had
  rw [List.getElem?_drop] at hu
  obtain ⟨ha, e⟩ := List.getElem?_eq_some_iff.1 hu
  rw [← e, Addr.add_mid]
  exact h.cells rfl _ ha
theorem icells_putI (L : List It) (j : Nat) (k v : Int) : (icells L).take (j * 2) ++ [.int .u64 k, .int .u64 v] ++ (icells L).drop (j * 2) = icells (putI L j (k, v)) := by
  rw [icells_take, icells_drop, putI, icells_append]
  simp [icells, icell]
theorem put_done {F : Nat → Prop} {w w' : World} {xb : Nat} {S Z : List Pg} {n : Nat} {k v : Int} {i' j' i j : Nat} {L : List It} {pv : Value} (hf : findP (pl S) k = (i', j', false)) (hs : spot (pl S) k = (i, j)) (hL : (pl S)[i]? = some L) (hn : (pl S).flatten.length = n) (hl : n < 4096) (hw : Wf (pl S))
    (hZ : pl Z = split8 (putI L j (k, v))) (h : IxAt F w' xb pv (S.take i ++ Z ++ S.drop (i + 1)) ((n : Int) + 1)) (hk : Kept F w w') : PutPost F w xb (pl S) k v (.returned (.int .i64 0)) w' := by
  have hq : putQ (pl S) k v = putP (pl S) k v := by unfold putQ; rw [hf, if_neg (by simp), if_neg (by omega)]
  have hlen := putP_len v hf
  rw [if_neg (by simp), hn] at hlen
  have hl2 : pl (S.take i ++ Z ++ S.drop (i + 1)) = putP (pl S) k v := by
    rw [putP_new hf hs hL, pl_append, pl_append, hZ]
    simp [pl]
  refine ⟨by unfold putE; rw [hf, if_neg (by simp), if_neg (by omega)], ⟨putQ_wf hw k v, by rw [hq, hlen]; omega, pv, _, by rw [hq]; exact hl2, ?_⟩, hk⟩
  rw [hq, hlen]
  exact h
theorem take_one {S : List Pg} {i : Nat} {x : Pg} (hx : S[i]? = some x) : S.take (i + 1) = S.take i ++ [x] := by
  obtain ⟨hl, e⟩ := List.getElem?_eq_some_iff.1 hx
  rw [← e, List.take_succ_eq_append_getElem hl]
theorem ptrs_ins {S : List Pg} {i : Nat} {x x' y : Pg} (hx : S[i]? = some x) (h : x'.1 = x.1) : (ptrs S).take (i + 1) ++ [.pointer (some ⟨y.1, 0, none⟩)] ++ (ptrs S).drop (i + 1) = ptrs (S.take i ++ [x', y] ++ S.drop (i + 1)) := by
  have e1 : (ptrs S).take (i + 1) = ptrs (S.take i ++ [x]) := by rw [← take_one hx]; simp [ptrs]
  rw [e1]
  simp [ptrs, h]
set_option maxRecDepth 100000 in
set_option maxHeartbeats 20000000 in
/-- a new item -/
theorem put_new {F : Nat → Prop} {w : World} {xb : Nat} {PL : List (List It)} (h : IxOk F w xb PL) (hF : ∀ g, w.heap.size ≤ g → F g) (k v : Int) {i' j' i j : Nat} (hf : findP PL k = (i', j', false)) (hl : PL.flatten.length < 4096) (he : PL ≠ []) (hs : spot PL k = (i, j)) :
    Calls Try.prog 10 #[.pointer (some ⟨xb, 0, none⟩), .int .u64 k, .int .u64 v] w (PutPost F w xb PL k v) := by
  obtain ⟨hw, hn, pv, S, rfl, h⟩ := h
  have hlt := spot_lt he k
  rw [hs] at hlt
  simp only at hlt
  obtain ⟨L, hL⟩ : ∃ L, (pl S)[i]? = some L := ⟨_, List.getElem?_eq_getElem hlt⟩
  obtain ⟨pb, iv, hx⟩ := pl_at hL
  have hmem := List.mem_of_getElem? hx
  have hpg : PgAt w pb iv L := h.p _ hmem
  have hLne := hw.ne _ (List.mem_of_getElem? hL)
  have hle := hw.pages
  have hSl : S.length ≤ 4096 := by simp [pl] at hle; simp [pl] at hn; omega
  obtain ⟨g, cap, rfl, q1, q2⟩ := hpg.s.some_of_pos hLne.1
  have hil : i < S.length := (List.getElem?_eq_some_iff.1 hx).1
  obtain ⟨pg, pcap, rfl, q3, q4⟩ := h.s.some_of_pos (by omega)
  unfold maxLen at q2 q4
  have hjl : j ≤ L.length := spot_le hs hL
  have n0 : pg ≠ xb := fun e => h.s.ne_block h.r (by decide) (by rw [e]; rfl)
  have n1 : pb ≠ xb := fun e => by have := hpg.r; rw [e, h.r] at this; simp at this
  have n2 : g ≠ xb := fun e => hpg.s.ne_block h.r (by decide) (by rw [e]; rfl)
  have n3 : g ≠ pb := fun e => hpg.s.ne_block hpg.r (by decide) (by rw [e]; rfl)
  have n4 : pg ≠ pb := fun e => h.s.ne_block hpg.r (by decide) (by rw [e]; rfl)
  have n5 : pg ≠ g := fun e => h.s.ne hpg.s (by decide) (g := pg) rfl (by rw [e]; rfl)
  have c0 : w.cell? ⟨xb, 0, none⟩ = some (.slice (some ⟨pg, 0, none⟩) S.length pcap) := row_cell h.r 0
  have cn : w.cell? ⟨xb, 1, none⟩ = some (.int .i64 ((pl S).flatten.length : Int)) := row_cell h.r 1
  have c1 : w.cell? ⟨pg, i, none⟩ = some (.pointer (some ⟨pb, 0, none⟩)) := (h.s.cells rfl i (by simp [ptrs]; omega)).trans (by
    obtain ⟨_, e⟩ := List.getElem?_eq_some_iff.1 hx
    simp [ptrs, e])
  have c2 : w.cell? ⟨pb, 0, none⟩ = some (.slice (some ⟨g, 0, none⟩) L.length cap) := row_cell hpg.r 0
  obtain ⟨n, hnn⟩ : ∃ n, (pl S).flatten.length = n := ⟨_, rfl⟩
  rw [hnn] at cn hl
  have hl' : decide ((4096 : Int) ≤ (n : Int)) = false := by rw [decide_eq_false_iff_not]; omega
  have wn : IntKind.i64.wrap ((n : Int) + 1) = (n : Int) + 1 := IntWalk.i64_in _ (by omega)
  have hS0 : ((S.length : Int) == 0) = false := by rw [beq_eq_false_iff_ne]; omega
  have hi' : i' = S.length ∧ i = S.length - 1 ∧ j = L.length ∨ i' < S.length ∧ i = i' ∧ j = j' := spot_ways hf hs hL
  have H := hid h; have HW := hid hw; have HF := hid hf; have HX := hid hx; have HL := hid hL; have HP := hid hpg; have HN := hid hnn; have HFF := hid hF; have HS := hid hs; have HI := hid hi'
  have HPL := hid hLne; have N0 := hid n0; have N1 := hid n1; have N2 := hid n2; have N3 := hid n3; have N4 := hid n4; have N5 := hid n5
  clear h hw hf hx hL hmem hpg hle hn hlt hs hF he hnn hLne hi' n0 n1 n2 n3 n4 n5
  go_enter Try.func10, Try.ntmps10
  go_wp2_with fail
  refine (find_any H.out HW.out (by omega) k HF.out).mono ?_
  rintro e w1 ⟨rfl, hk1⟩
  have K1 := hid hk1
  replace c0 := hk1.cell c0 (fun h => h)
  replace c1 := hk1.cell c1 (fun h => h)
  replace c2 := hk1.cell c2 (fun h => h)
  replace cn := hk1.cell cn (fun h => h)
  have R1 := hid ((hk1.block _ (row_lt H.out.r) (fun h => h)).trans H.out.r)
  clear hk1
  rcases HI.out with ⟨rfl, hiS, hjL⟩ | ⟨hi1, rfl, rfl⟩
  · have HI2 := hid (show (S.length : Int) - 1 = (i : Int) by omega)
    rw [hiS] at c1
    have hjL' : (L.length : Int) = (j : Int) := by omega
    clear hiS hjL
    go_wp2_with (refine wpList_store_cell rfl 3 (.tmp 50) (.tmp 48) rfl (by kernel_rfl) xb 1 rfl (.int .i64 ((n : Int) + 1)) rfl rfl R1.out (by simp) ?_; intro w2 hr2 hk2; have R2 := hid hr2.out; have K2 := hid hk2.out; replace c0 := row_cell hr2.out 0; replace c1 := hk2.out.cell c1 N0.out; replace c2 := hk2.out.cell c2 N1.out; clear hr2 hk2 cn; simp only [List.setIfInBounds_toArray, List.set_cons_succ, List.set_cons_zero, List.getElem?_toArray, List.getElem?_cons_zero] at c0)
    rw [HI2.out]
    clear hjL'
    have HP2 := hid ((HP.out.same K1.out).kept K2.out N1.out (fun a ha e => N2.out (by simp [Value.ownBlock] at ha; exact ha.trans e)))
    have hlt2 := row_lt HP2.out.r
    have hlx2 := row_lt R2.out
    have hsz := Nat.le_trans K1.out.size K2.out.size
    refine (ins_any (m := 1) (vs := [.int .u64 k, .int .u64 v]) (HP2.out.s.alloc _) (icells_one L) j hjl (Seg.mk (n := 1) (cap := 1) (row_new w2 (.cells #[.int .u64 k, .int .u64 v] 33)) (Nat.le_refl _) (by unfold maxLen; omega) (by simp)) (by intro u hu; simp at hu; rcases hu with rfl | rfl <;> rfl) (by intro a ha hb; simp [Value.ownBlock] at ha hb; have := HP2.out.s.lt (g := g) rfl; omega) (by have := HPL.out; omega)).mono ?_
    rintro e w3 ⟨a3, cp3, rfl, hs3, hk3, hf3⟩
    rw [icells_putI] at hs3
    obtain ⟨g3, cap3, e3, q5, q6⟩ := hs3.some_of_pos (by omega)
    simp only [Value.slice.injEq] at e3
    obtain ⟨rfl, _, rfl⟩ := e3
    unfold maxLen at q6
    have S3 := hid hs3; have K3 := hid (((Kept.refl (fun a => g = a) w2).alloc _).trans (hk3.mono (G := fun a => g = a) (fun a _ ha => by simpa [Value.ownBlock] using ha))); have F3 := hid (hf3 g3 rfl)
    clear hs3 hk3 hf3
    have RP3 := hid ((K3.out.block _ hlt2 N3.out).trans HP2.out.r)
    have RX3 := hid ((K3.out.block _ hlx2 N2.out).trans R2.out)
    go_wp2_with (refine wpList_store_cell rfl 29 (.tmp 106) (.tmp 104) rfl (by kernel_rfl) pb 0 rfl (.slice (some ⟨g3, 0, none⟩) (L.length + 1) cp3) rfl rfl RP3.out (by simp) ?_; intro w4 hr4 hk4; have RP4 := hid hr4.out; have K4 := hid hk4.out; have c4 := row_cell hr4.out 0; clear hr4 hk4 c2; simp only [List.setIfInBounds_toArray, List.set_cons_succ, List.set_cons_zero, List.getElem?_toArray, List.getElem?_cons_zero] at c4)
    · obtain ⟨hh, ehh⟩ : ∃ hh, (L.length + 1) / 2 = hh := ⟨_, rfl⟩
      have ehi : ((L.length : Int) + 1) / 2 = (hh : Int) := by omega
      rw [ehh, ehi]
      have hL8 := HPL.out
      have hhl : hh ≤ L.length + 1 := by omega
      have n6 : g3 ≠ pb := fun e => by rcases F3.out with e' | e'; exact N3.out ((by simpa [Value.ownBlock] using e' : g = g3).trans e); simp at e'; omega
      have n7 : g3 ≠ xb := fun e => by rcases F3.out with e' | e'; exact N2.out ((by simpa [Value.ownBlock] using e' : g = g3).trans e); simp at e'; omega
      have S4 := hid (S3.out.kept K4.out (fun a ha e => n6 (by simp [Value.ownBlock] at ha; exact ha.trans e)))
      have N6 := hid n6; have N7 := hid n7; clear n6 n7
      have z4 : w.heap.size ≤ w4.heap.size := Nat.le_trans hsz (Nat.le_trans K3.out.size K4.out.size)
      have RX4 := hid ((K4.out.block _ (row_lt RX3.out) (fun e => N1.out e.symm)).trans RX3.out)
      refine (clone_any (S4.out.tail (icells_one _) hh hhl) (by omega)).mono ?_
      rintro e w5 ⟨a5, c5, rfl, hs5, hf5, hk5⟩
      obtain ⟨g5, cap5, e5, q7, q8⟩ := hs5.some_of_pos (by omega)
      simp only [Value.slice.injEq] at e5
      obtain ⟨rfl, _, rfl⟩ := e5
      have S5 := hid hs5; have F5 := hid (hf5 g5 rfl); have K5 := hid hk5; clear hs5 hf5 hk5
      have RP5 := hid ((K5.out.block _ (row_lt RP4.out) (fun h => h)).trans RP4.out)
      have RX5 := hid ((K5.out.block _ (row_lt RX4.out) (fun h => h)).trans RX4.out)
      have c5' := K5.out.cell c4 (fun h => h)
      clear c4 c0
      have wi : IntKind.i64.wrap ((i : Int) + 1) = (i : Int) + 1 := IntWalk.i64_in _ (by omega)
      have c5x := row_cell (row_old RX5.out (.cells #[.slice (some ⟨g5, 0, none⟩) (L.length + 1 - hh) c5] 68)) 0
      have c5p := row_cell (row_old RP5.out (.cells #[.slice (some ⟨g5, 0, none⟩) (L.length + 1 - hh) c5] 68)) 0
      simp only [List.setIfInBounds_toArray, List.set_cons_succ, List.set_cons_zero, List.getElem?_toArray, List.getElem?_cons_zero] at c5x c5p
      have C5x := hid c5x; clear c5x
      have hh3 : (hh : Int) ≤ (cp3 : Int) := by omega
      go_wp2_with (refine wpList_store_cell rfl 29 (.tmp 137) (.tmp 135) rfl (by kernel_rfl) pb 0 rfl (.slice (some ⟨g3, 0, none⟩) hh hh) rfl rfl (row_old RP5.out _) (by simp) ?_; intro w6 hr6 hk6; have RP6 := hid hr6.out; have K6 := hid hk6.out; have c6 := hk6.out.cell C5x.out (fun e => N1.out e.symm); clear hr6 hk6 c5p)
      have G6 := hid ((((((((K1.out.mono (G := fun a => a = xb ∨ a = pb ∨ a = g) (fun _ _ h => h.elim)).trans (K2.out.mono (fun a _ h => .inl h))).trans (K3.out.mono (fun a _ h => .inr (.inr h.symm)))).trans (K4.out.mono (fun a _ h => .inr (.inl h)))).trans (K5.out.mono (fun a _ h => h.elim))).alloc _).trans (K6.out.mono (fun a _ h => .inr (.inl h)))))
      have S6 := hid (H.out.s.kept G6.out (fun a ha e => by simp [Value.ownBlock] at ha; subst ha; rcases e with e | e | e; exact N0.out e; exact N4.out e; exact N5.out e))
      have z5 := S4.out.lt (g := g3) rfl
      have z6 : w4.heap.size ≤ w5.heap.size := K5.out.size
      have z7 : w5.heap.size + 1 ≤ w6.heap.size := by have := K6.out.size; simpa using this
      have z8 : pg < w6.heap.size := S6.out.lt (g := pg) rfl
      have z9 : pg < w.heap.size := H.out.s.lt (g := pg) rfl
      have z10 : pb < w.heap.size := row_lt HP.out.r
      have z11 : xb < w.heap.size := row_lt H.out.r
      have z12 : g5 < w5.heap.size := S5.out.lt (g := g5) rfl
      have F5' := F5.out
      have RX6 := hid ((K6.out.block _ (row_lt (row_old RX5.out _)) (fun e => N1.out e.symm)).trans (row_old RX5.out _))
      have Q6 := hid ((K6.out.block _ (row_lt (row_new w5 (.cells #[.slice (some ⟨g5, 0, none⟩) (L.length + 1 - hh) c5] 68))) (by intro e; omega)).trans (row_new w5 (.cells #[.slice (some ⟨g5, 0, none⟩) (L.length + 1 - hh) c5] 68)))
      have S46 := hid ((((S4.out.kept K5.out (fun a _ h => h)).alloc (.cells #[.slice (some ⟨g5, 0, none⟩) (L.length + 1 - hh) c5] 68)).kept K6.out (fun a ha e => N6.out (by simp [Value.ownBlock] at ha; exact ha.trans e))).cut hhl)
      have S56 := hid ((S5.out.alloc (.cells #[.slice (some ⟨g5, 0, none⟩) (L.length + 1 - hh) c5] 68)).kept K6.out (fun a ha e => by simp [Value.ownBlock] at ha; omega))
      refine (ins_anyP (i := i + 1) (m := 1) (vs := [.pointer (some ⟨w5.heap.size, 0, none⟩)]) (S6.out.alloc _) (ptrs_one S) (by omega) (Seg.mk (n := 1) (cap := 1) (row_new w6 (.cells #[.pointer (some ⟨w5.heap.size, 0, none⟩)] 69)) (Nat.le_refl _) (by unfold maxLen; omega) (by simp)) (by intro u hu; simp at hu; subst hu; rfl) (by intro a ha hb; simp [Value.ownBlock] at ha hb; omega) (by omega)).mono ?_
      rintro e w7 ⟨a7, c7, rfl, hs7, hk7, hf7⟩
      obtain ⟨g7, cap7, e7, q9, q10⟩ := hs7.some_of_pos (by omega)
      simp only [Value.slice.injEq] at e7
      obtain ⟨rfl, _, rfl⟩ := e7
      rw [ptrs_ins (y := (w5.heap.size, .slice (some ⟨g5, 0, none⟩) (L.length + 1 - hh) c5, (putI L j (k, v)).drop hh)) (x' := (pb, .slice (some ⟨g3, 0, none⟩) hh hh, (putI L j (k, v)).take hh)) HX.out rfl] at hs7
      have S7 := hid hs7; have K7 := hid (((Kept.refl (fun a => a = pg) w6).alloc _).trans (hk7.mono (G := fun a => a = pg) (fun a _ ha => by simp [Value.ownBlock] at ha; exact ha.symm))); have F7 := hid (hf7 g7 rfl)
      clear hs7 hk7 hf7
      have RX7 := hid ((K7.out.block _ (row_lt RX6.out) (fun e => N0.out e.symm)).trans RX6.out)
      go_wp2_with (refine wpList_store_cell rfl 62 (.tmp 149) (.tmp 147) rfl (by kernel_rfl) xb 0 rfl (.slice (some ⟨g7, 0, none⟩) (S.length + 1) c7) rfl rfl RX7.out (by simp) ?_; intro w8 hr8 hk8; have RX8 := hid hr8.out; have K8 := hid hk8.out; clear hr8 hk8)
      go_returns
      have hFi := (H.out.b _ (List.mem_of_getElem? HX.out))
      have hnpg : ∀ a, a = pg → w.heap.size ≤ a → False := fun a e h => by omega
      have G8 := ((((G6.out.mono (G := fun a => a = xb ∨ a = pb ∨ a = g ∨ a = pg) (fun a _ h => by rcases h with h | h | h; exact .inl h; exact .inr (.inl h); exact .inr (.inr (.inl h)))).trans (K7.out.mono (fun a _ h => .inr (.inr (.inr h))))).trans (K8.out.mono (fun a _ h => .inl h))))
      have P8 : PgAt w8 pb (.slice (some ⟨g3, 0, none⟩) hh hh) ((putI L j (k, v)).take hh) := by
        refine ⟨(K8.out.block _ (row_lt ((K7.out.block _ (row_lt RP6.out) (fun e => N4.out e.symm)).trans RP6.out)) N1.out).trans ((K7.out.block _ (row_lt RP6.out) (fun e => N4.out e.symm)).trans RP6.out), ?_⟩
        rw [List.length_take, putI_len, Nat.min_eq_left hhl, ← icells_take]
        exact (S46.out.kept K7.out (fun a ha e => by subst e; exact S46.out.ne S6.out (by decide) ha rfl)).kept K8.out (fun a ha e => N7.out (by simp [Value.ownBlock] at ha; exact ha.trans e))
      have Q8 : PgAt w8 w5.heap.size (.slice (some ⟨g5, 0, none⟩) (L.length + 1 - hh) c5) ((putI L j (k, v)).drop hh) := by
        have q7 := (K7.out.block _ (row_lt Q6.out) (by intro e; omega)).trans Q6.out
        refine ⟨(K8.out.block _ (row_lt q7) (by intro e; omega)).trans q7, ?_⟩
        rw [List.length_drop, putI_len, ← icells_drop]
        exact (S56.out.kept K7.out (fun a ha e => by subst e; exact S56.out.ne S6.out (by decide) ha rfl)).kept K8.out (fun a ha e => by simp [Value.ownBlock] at ha; omega)
      have hg3 : g3 = g ∨ w.heap.size ≤ g3 := by
        rcases F3.out with e | e
        · exact .inl (by simp [Value.ownBlock] at e; exact e.symm)
        · exact .inr (by simp at e; omega)
      have hg7 : g7 = pg ∨ w.heap.size ≤ g7 := by
        rcases F7.out with e | e
        · exact .inl (by simp [Value.ownBlock] at e; exact e.symm)
        · exact .inr (by simp at e; omega)
      have hIx := IxAt.re (A := S.take i) (Y := [(pb, .slice (some ⟨g, 0, none⟩) L.length cap, L)]) (B := S.drop (i + 1)) (Z := [(pb, .slice (some ⟨g3, 0, none⟩) hh hh, (putI L j (k, v)).take hh), (w5.heap.size, .slice (some ⟨g5, 0, none⟩) (L.length + 1 - hh) c5, (putI L j (k, v)).drop hh)]) (pv' := .slice (some ⟨g7, 0, none⟩) (S.length + 1) c7) (n' := (n : Int) + 1) (by rw [← page_split HX.out]; exact H.out) G8
        (fun a ha _ => by
          rcases ha with e | e | e | e
          · exact .inl e
          · exact .inr (.inr ⟨_, List.mem_singleton.2 rfl, .inl e⟩)
          · exact .inr (.inr ⟨_, List.mem_singleton.2 rfl, .inr (by rw [e]; rfl)⟩)
          · exact .inr (.inl (by rw [e]; rfl)))
        RX8.out
        (by
          have e1 : (S.take i ++ [(pb, .slice (some ⟨g3, 0, none⟩) hh hh, (putI L j (k, v)).take hh), (w5.heap.size, .slice (some ⟨g5, 0, none⟩) (L.length + 1 - hh) c5, (putI L j (k, v)).drop hh)] ++ S.drop (i + 1) : List Pg).length = S.length + 1 := by simp; omega
          rw [e1]
          exact S7.out.kept K8.out (fun a ha e => by subst e; exact S7.out.ne_block RX7.out (by decide) ha))
        (by intro z hz; simp only [List.mem_cons, List.not_mem_nil, or_false] at hz; rcases hz with rfl | rfl; exact P8; exact Q8)
        (by intro a ha; simp [Value.ownBlock] at ha; subst ha; rcases hg7 with e | e; exact H.out.f _ (by rw [e]; rfl); exact HFF.out _ e)
        (by
          intro z hz; simp only [List.mem_cons, List.not_mem_nil, or_false] at hz; rcases hz with rfl | rfl
          · exact ⟨hFi.1, fun a ha => by simp [Value.ownBlock] at ha; subst ha; rcases hg3 with e | e; exact hFi.2 _ (by rw [e]; rfl); exact HFF.out _ e⟩
          · exact ⟨HFF.out _ (by show w.heap.size ≤ w5.heap.size; omega), fun a ha => HFF.out _ (by simp [Value.ownBlock] at ha; omega)⟩)
        (by
          refine List.pairwise_cons.2 ⟨fun z hz => ?_, PgFar.single _⟩
          rw [List.mem_singleton] at hz; subst hz
          refine ⟨by show pb ≠ w5.heap.size; omega, fun a ha hb => ?_⟩
          simp [Value.ownBlock] at ha hb; omega)
        (by
          intro z hz; simp only [List.mem_cons, List.not_mem_nil, or_false] at hz; rcases hz with rfl | rfl
          · exact .inl ⟨_, List.mem_singleton.2 rfl, rfl⟩
          · exact .inr (by show w.heap.size ≤ w5.heap.size; omega))
        (by
          intro z hz a ha; simp only [List.mem_cons, List.not_mem_nil, or_false] at hz; rcases hz with rfl | rfl
          · simp [Value.ownBlock] at ha; subst ha
            rcases hg3 with e | e
            · exact .inl ⟨_, List.mem_singleton.2 rfl, by rw [e]; rfl⟩
            · exact .inr e
          · exact .inr (by simp [Value.ownBlock] at ha; omega))
      refine put_done HF.out HS.out HL.out HN.out hl HW.out ?_ hIx (G8.mono (fun a _ ha => ?_))
      · have e8 : 8 < (putI L j (k, v)).length := by rw [putI_len]; omega
        unfold split8
        rw [if_pos e8, putI_len, ehh]
        rfl
      · rcases ha with rfl | rfl | rfl | rfl
        · exact H.out.m
        · exact hFi.1
        · exact hFi.2 _ rfl
        · exact H.out.f _ rfl
    · go_returns
      have hFi := (H.out.b _ (List.mem_of_getElem? HX.out))
      have G4 := ((((K1.out.mono (G := fun a => a = xb ∨ a = pb ∨ a = g) (fun _ _ h => h.elim)).trans (K2.out.mono (fun a _ h => .inl h))).trans (K3.out.mono (fun a _ h => .inr (.inr h.symm)))).trans (K4.out.mono (fun a _ h => .inr (.inl h))))
      have hg3 : g3 = g ∨ w.heap.size ≤ g3 := by
        rcases F3.out with e | e
        · exact .inl (by simp [Value.ownBlock] at e; exact e.symm)
        · exact .inr (by simp at e; omega)
      have n6 : g3 ≠ pb := fun e => S3.out.ne_block RP3.out (by decide) (by rw [e]; rfl)
      have hIx := H.out.setPage HX.out G4 (n' := (n : Int) + 1) (iv' := .slice (some ⟨g3, 0, none⟩) (L.length + 1) cp3) (L' := putI L j (k, v)) (fun a ha _ => by
          rcases ha with e | e | e
          · exact .inl e
          · exact .inr (.inl e)
          · exact .inr (.inr (by rw [e]; rfl)))
        ((K4.out.block _ (row_lt RX3.out) (fun e => N1.out e.symm)).trans RX3.out)
        ⟨RP4.out, by rw [putI_len]; exact S3.out.kept K4.out (fun a ha e => n6 (by simp [Value.ownBlock] at ha; exact ha.trans e))⟩
        (fun a ha => by
          simp [Value.ownBlock] at ha; subst ha
          rcases hg3 with e | e
          · exact ⟨hFi.2 _ (by rw [e]; rfl), .inl (by rw [e]; rfl)⟩
          · exact ⟨HFF.out _ e, .inr e⟩)
      refine put_done HF.out HS.out HL.out HN.out hl HW.out ?_ hIx (G4.mono (fun a _ ha => ?_))
      · have e8 : ¬ 8 < (putI L j (k, v)).length := by rw [putI_len]; omega
        unfold split8
        rw [if_neg e8]
        rfl
      · rcases ha with rfl | rfl | rfl
        · exact H.out.m
        · exact hFi.1
        · exact hFi.2 _ rfl
  · have hi2 : ((i : Int) == (S.length : Int)) = false := by simp; omega
    go_wp2_with (refine wpList_store_cell rfl 3 (.tmp 50) (.tmp 48) rfl (by kernel_rfl) xb 1 rfl (.int .i64 ((n : Int) + 1)) rfl rfl R1.out (by simp) ?_; intro w2 hr2 hk2; have R2 := hid hr2.out; have K2 := hid hk2.out; replace c0 := row_cell hr2.out 0; replace c1 := hk2.out.cell c1 N0.out; replace c2 := hk2.out.cell c2 N1.out; clear hr2 hk2 cn; simp only [List.setIfInBounds_toArray, List.set_cons_succ, List.set_cons_zero, List.getElem?_toArray, List.getElem?_cons_zero] at c0)
    have HP2 := hid ((HP.out.same K1.out).kept K2.out N1.out (fun a ha e => N2.out (by simp [Value.ownBlock] at ha; exact ha.trans e)))
    have hlt2 := row_lt HP2.out.r
    have hlx2 := row_lt R2.out
    have hsz := Nat.le_trans K1.out.size K2.out.size
    refine (ins_any (m := 1) (vs := [.int .u64 k, .int .u64 v]) (HP2.out.s.alloc _) (icells_one L) j hjl (Seg.mk (n := 1) (cap := 1) (row_new w2 (.cells #[.int .u64 k, .int .u64 v] 33)) (Nat.le_refl _) (by unfold maxLen; omega) (by simp)) (by intro u hu; simp at hu; rcases hu with rfl | rfl <;> rfl) (by intro a ha hb; simp [Value.ownBlock] at ha hb; have := HP2.out.s.lt (g := g) rfl; omega) (by have := HPL.out; omega)).mono ?_
    rintro e w3 ⟨a3, cp3, rfl, hs3, hk3, hf3⟩
    rw [icells_putI] at hs3
    obtain ⟨g3, cap3, e3, q5, q6⟩ := hs3.some_of_pos (by omega)
    simp only [Value.slice.injEq] at e3
    obtain ⟨rfl, _, rfl⟩ := e3
    unfold maxLen at q6
    have S3 := hid hs3; have K3 := hid (((Kept.refl (fun a => g = a) w2).alloc _).trans (hk3.mono (G := fun a => g = a) (fun a _ ha => by simpa [Value.ownBlock] using ha))); have F3 := hid (hf3 g3 rfl)
    clear hs3 hk3 hf3
    have RP3 := hid ((K3.out.block _ hlt2 N3.out).trans HP2.out.r)
    have RX3 := hid ((K3.out.block _ hlx2 N2.out).trans R2.out)
    go_wp2_with (refine wpList_store_cell rfl 29 (.tmp 106) (.tmp 104) rfl (by kernel_rfl) pb 0 rfl (.slice (some ⟨g3, 0, none⟩) (L.length + 1) cp3) rfl rfl RP3.out (by simp) ?_; intro w4 hr4 hk4; have RP4 := hid hr4.out; have K4 := hid hk4.out; have c4 := row_cell hr4.out 0; clear hr4 hk4 c2; simp only [List.setIfInBounds_toArray, List.set_cons_succ, List.set_cons_zero, List.getElem?_toArray, List.getElem?_cons_zero] at c4)
    · obtain ⟨hh, ehh⟩ : ∃ hh, (L.length + 1) / 2 = hh := ⟨_, rfl⟩
      have ehi : ((L.length : Int) + 1) / 2 = (hh : Int) := by omega
      rw [ehh, ehi]
      have hL8 := HPL.out
      have hhl : hh ≤ L.length + 1 := by omega
      have n6 : g3 ≠ pb := fun e => by rcases F3.out with e' | e'; exact N3.out ((by simpa [Value.ownBlock] using e' : g = g3).trans e); simp at e'; omega
      have n7 : g3 ≠ xb := fun e => by rcases F3.out with e' | e'; exact N2.out ((by simpa [Value.ownBlock] using e' : g = g3).trans e); simp at e'; omega
      have S4 := hid (S3.out.kept K4.out (fun a ha e => n6 (by simp [Value.ownBlock] at ha; exact ha.trans e)))
      have N6 := hid n6; have N7 := hid n7; clear n6 n7
      have z4 : w.heap.size ≤ w4.heap.size := Nat.le_trans hsz (Nat.le_trans K3.out.size K4.out.size)
      have RX4 := hid ((K4.out.block _ (row_lt RX3.out) (fun e => N1.out e.symm)).trans RX3.out)
      refine (clone_any (S4.out.tail (icells_one _) hh hhl) (by omega)).mono ?_
      rintro e w5 ⟨a5, c5, rfl, hs5, hf5, hk5⟩
      obtain ⟨g5, cap5, e5, q7, q8⟩ := hs5.some_of_pos (by omega)
      simp only [Value.slice.injEq] at e5
      obtain ⟨rfl, _, rfl⟩ := e5
      have S5 := hid hs5; have F5 := hid (hf5 g5 rfl); have K5 := hid hk5; clear hs5 hf5 hk5
      have RP5 := hid ((K5.out.block _ (row_lt RP4.out) (fun h => h)).trans RP4.out)
      have RX5 := hid ((K5.out.block _ (row_lt RX4.out) (fun h => h)).trans RX4.out)
      have c5' := K5.out.cell c4 (fun h => h)
      clear c4 c0
      have wi : IntKind.i64.wrap ((i : Int) + 1) = (i : Int) + 1 := IntWalk.i64_in _ (by omega)
      have c5x := row_cell (row_old RX5.out (.cells #[.slice (some ⟨g5, 0, none⟩) (L.length + 1 - hh) c5] 68)) 0
      have c5p := row_cell (row_old RP5.out (.cells #[.slice (some ⟨g5, 0, none⟩) (L.length + 1 - hh) c5] 68)) 0
      simp only [List.setIfInBounds_toArray, List.set_cons_succ, List.set_cons_zero, List.getElem?_toArray, List.getElem?_cons_zero] at c5x c5p
      have C5x := hid c5x; clear c5x
      have hh3 : (hh : Int) ≤ (cp3 : Int) := by omega
      go_wp2_with (refine wpList_store_cell rfl 29 (.tmp 137) (.tmp 135) rfl (by kernel_rfl) pb 0 rfl (.slice (some ⟨g3, 0, none⟩) hh hh) rfl rfl (row_old RP5.out _) (by simp) ?_; intro w6 hr6 hk6; have RP6 := hid hr6.out; have K6 := hid hk6.out; have c6 := hk6.out.cell C5x.out (fun e => N1.out e.symm); clear hr6 hk6 c5p)
      have G6 := hid ((((((((K1.out.mono (G := fun a => a = xb ∨ a = pb ∨ a = g) (fun _ _ h => h.elim)).trans (K2.out.mono (fun a _ h => .inl h))).trans (K3.out.mono (fun a _ h => .inr (.inr h.symm)))).trans (K4.out.mono (fun a _ h => .inr (.inl h)))).trans (K5.out.mono (fun a _ h => h.elim))).alloc _).trans (K6.out.mono (fun a _ h => .inr (.inl h)))))
      have S6 := hid (H.out.s.kept G6.out (fun a ha e => by simp [Value.ownBlock] at ha; subst ha; rcases e with e | e | e; exact N0.out e; exact N4.out e; exact N5.out e))
      have z5 := S4.out.lt (g := g3) rfl
      have z6 : w4.heap.size ≤ w5.heap.size := K5.out.size
      have z7 : w5.heap.size + 1 ≤ w6.heap.size := by have := K6.out.size; simpa using this
      have z8 : pg < w6.heap.size := S6.out.lt (g := pg) rfl
      have z9 : pg < w.heap.size := H.out.s.lt (g := pg) rfl
      have z10 : pb < w.heap.size := row_lt HP.out.r
      have z11 : xb < w.heap.size := row_lt H.out.r
      have z12 : g5 < w5.heap.size := S5.out.lt (g := g5) rfl
      have F5' := F5.out
      have RX6 := hid ((K6.out.block _ (row_lt (row_old RX5.out _)) (fun e => N1.out e.symm)).trans (row_old RX5.out _))
      have Q6 := hid ((K6.out.block _ (row_lt (row_new w5 (.cells #[.slice (some ⟨g5, 0, none⟩) (L.length + 1 - hh) c5] 68))) (by intro e; omega)).trans (row_new w5 (.cells #[.slice (some ⟨g5, 0, none⟩) (L.length + 1 - hh) c5] 68)))
      have S46 := hid ((((S4.out.kept K5.out (fun a _ h => h)).alloc (.cells #[.slice (some ⟨g5, 0, none⟩) (L.length + 1 - hh) c5] 68)).kept K6.out (fun a ha e => N6.out (by simp [Value.ownBlock] at ha; exact ha.trans e))).cut hhl)
      have S56 := hid ((S5.out.alloc (.cells #[.slice (some ⟨g5, 0, none⟩) (L.length + 1 - hh) c5] 68)).kept K6.out (fun a ha e => by simp [Value.ownBlock] at ha; omega))
      refine (ins_anyP (i := i + 1) (m := 1) (vs := [.pointer (some ⟨w5.heap.size, 0, none⟩)]) (S6.out.alloc _) (ptrs_one S) (by omega) (Seg.mk (n := 1) (cap := 1) (row_new w6 (.cells #[.pointer (some ⟨w5.heap.size, 0, none⟩)] 69)) (Nat.le_refl _) (by unfold maxLen; omega) (by simp)) (by intro u hu; simp at hu; subst hu; rfl) (by intro a ha hb; simp [Value.ownBlock] at ha hb; omega) (by omega)).mono ?_
      rintro e w7 ⟨a7, c7, rfl, hs7, hk7, hf7⟩
      obtain ⟨g7, cap7, e7, q9, q10⟩ := hs7.some_of_pos (by omega)
      simp only [Value.slice.injEq] at e7
      obtain ⟨rfl, _, rfl⟩ := e7
      rw [ptrs_ins (y := (w5.heap.size, .slice (some ⟨g5, 0, none⟩) (L.length + 1 - hh) c5, (putI L j (k, v)).drop hh)) (x' := (pb, .slice (some ⟨g3, 0, none⟩) hh hh, (putI L j (k, v)).take hh)) HX.out rfl] at hs7
      have S7 := hid hs7; have K7 := hid (((Kept.refl (fun a => a = pg) w6).alloc _).trans (hk7.mono (G := fun a => a = pg) (fun a _ ha => by simp [Value.ownBlock] at ha; exact ha.symm))); have F7 := hid (hf7 g7 rfl)
      clear hs7 hk7 hf7
      have RX7 := hid ((K7.out.block _ (row_lt RX6.out) (fun e => N0.out e.symm)).trans RX6.out)
      go_wp2_with (refine wpList_store_cell rfl 62 (.tmp 149) (.tmp 147) rfl (by kernel_rfl) xb 0 rfl (.slice (some ⟨g7, 0, none⟩) (S.length + 1) c7) rfl rfl RX7.out (by simp) ?_; intro w8 hr8 hk8; have RX8 := hid hr8.out; have K8 := hid hk8.out; clear hr8 hk8)
      go_returns
      have hFi := (H.out.b _ (List.mem_of_getElem? HX.out))
      have hnpg : ∀ a, a = pg → w.heap.size ≤ a → False := fun a e h => by omega
      have G8 := ((((G6.out.mono (G := fun a => a = xb ∨ a = pb ∨ a = g ∨ a = pg) (fun a _ h => by rcases h with h | h | h; exact .inl h; exact .inr (.inl h); exact .inr (.inr (.inl h)))).trans (K7.out.mono (fun a _ h => .inr (.inr (.inr h))))).trans (K8.out.mono (fun a _ h => .inl h))))
      have P8 : PgAt w8 pb (.slice (some ⟨g3, 0, none⟩) hh hh) ((putI L j (k, v)).take hh) := by
        refine ⟨(K8.out.block _ (row_lt ((K7.out.block _ (row_lt RP6.out) (fun e => N4.out e.symm)).trans RP6.out)) N1.out).trans ((K7.out.block _ (row_lt RP6.out) (fun e => N4.out e.symm)).trans RP6.out), ?_⟩
        rw [List.length_take, putI_len, Nat.min_eq_left hhl, ← icells_take]
        exact (S46.out.kept K7.out (fun a ha e => by subst e; exact S46.out.ne S6.out (by decide) ha rfl)).kept K8.out (fun a ha e => N7.out (by simp [Value.ownBlock] at ha; exact ha.trans e))
      have Q8 : PgAt w8 w5.heap.size (.slice (some ⟨g5, 0, none⟩) (L.length + 1 - hh) c5) ((putI L j (k, v)).drop hh) := by
        have q7 := (K7.out.block _ (row_lt Q6.out) (by intro e; omega)).trans Q6.out
        refine ⟨(K8.out.block _ (row_lt q7) (by intro e; omega)).trans q7, ?_⟩
        rw [List.length_drop, putI_len, ← icells_drop]
        exact (S56.out.kept K7.out (fun a ha e => by subst e; exact S56.out.ne S6.out (by decide) ha rfl)).kept K8.out (fun a ha e => by simp [Value.ownBlock] at ha; omega)
      have hg3 : g3 = g ∨ w.heap.size ≤ g3 := by
        rcases F3.out with e | e
        · exact .inl (by simp [Value.ownBlock] at e; exact e.symm)
        · exact .inr (by simp at e; omega)
      have hg7 : g7 = pg ∨ w.heap.size ≤ g7 := by
        rcases F7.out with e | e
        · exact .inl (by simp [Value.ownBlock] at e; exact e.symm)
        · exact .inr (by simp at e; omega)
      have hIx := IxAt.re (A := S.take i) (Y := [(pb, .slice (some ⟨g, 0, none⟩) L.length cap, L)]) (B := S.drop (i + 1)) (Z := [(pb, .slice (some ⟨g3, 0, none⟩) hh hh, (putI L j (k, v)).take hh), (w5.heap.size, .slice (some ⟨g5, 0, none⟩) (L.length + 1 - hh) c5, (putI L j (k, v)).drop hh)]) (pv' := .slice (some ⟨g7, 0, none⟩) (S.length + 1) c7) (n' := (n : Int) + 1) (by rw [← page_split HX.out]; exact H.out) G8
        (fun a ha _ => by
          rcases ha with e | e | e | e
          · exact .inl e
          · exact .inr (.inr ⟨_, List.mem_singleton.2 rfl, .inl e⟩)
          · exact .inr (.inr ⟨_, List.mem_singleton.2 rfl, .inr (by rw [e]; rfl)⟩)
          · exact .inr (.inl (by rw [e]; rfl)))
        RX8.out
        (by
          have e1 : (S.take i ++ [(pb, .slice (some ⟨g3, 0, none⟩) hh hh, (putI L j (k, v)).take hh), (w5.heap.size, .slice (some ⟨g5, 0, none⟩) (L.length + 1 - hh) c5, (putI L j (k, v)).drop hh)] ++ S.drop (i + 1) : List Pg).length = S.length + 1 := by simp; omega
          rw [e1]
          exact S7.out.kept K8.out (fun a ha e => by subst e; exact S7.out.ne_block RX7.out (by decide) ha))
        (by intro z hz; simp only [List.mem_cons, List.not_mem_nil, or_false] at hz; rcases hz with rfl | rfl; exact P8; exact Q8)
        (by intro a ha; simp [Value.ownBlock] at ha; subst ha; rcases hg7 with e | e; exact H.out.f _ (by rw [e]; rfl); exact HFF.out _ e)
        (by
          intro z hz; simp only [List.mem_cons, List.not_mem_nil, or_false] at hz; rcases hz with rfl | rfl
          · exact ⟨hFi.1, fun a ha => by simp [Value.ownBlock] at ha; subst ha; rcases hg3 with e | e; exact hFi.2 _ (by rw [e]; rfl); exact HFF.out _ e⟩
          · exact ⟨HFF.out _ (by show w.heap.size ≤ w5.heap.size; omega), fun a ha => HFF.out _ (by simp [Value.ownBlock] at ha; omega)⟩)
        (by
          refine List.pairwise_cons.2 ⟨fun z hz => ?_, PgFar.single _⟩
          rw [List.mem_singleton] at hz; subst hz
          refine ⟨by show pb ≠ w5.heap.size; omega, fun a ha hb => ?_⟩
          simp [Value.ownBlock] at ha hb; omega)
        (by
          intro z hz; simp only [List.mem_cons, List.not_mem_nil, or_false] at hz; rcases hz with rfl | rfl
          · exact .inl ⟨_, List.mem_singleton.2 rfl, rfl⟩
          · exact .inr (by show w.heap.size ≤ w5.heap.size; omega))
        (by
          intro z hz a ha; simp only [List.mem_cons, List.not_mem_nil, or_false] at hz; rcases hz with rfl | rfl
          · simp [Value.ownBlock] at ha; subst ha
            rcases hg3 with e | e
            · exact .inl ⟨_, List.mem_singleton.2 rfl, by rw [e]; rfl⟩
            · exact .inr e
          · exact .inr (by simp [Value.ownBlock] at ha; omega))
      refine put_done HF.out HS.out HL.out HN.out hl HW.out ?_ hIx (G8.mono (fun a _ ha => ?_))
      · have e8 : 8 < (putI L j (k, v)).length := by rw [putI_len]; omega
        unfold split8
        rw [if_pos e8, putI_len, ehh]
        rfl
      · rcases ha with rfl | rfl | rfl | rfl
        · exact H.out.m
        · exact hFi.1
        · exact hFi.2 _ rfl
        · exact H.out.f _ rfl
    · go_returns
      have hFi := (H.out.b _ (List.mem_of_getElem? HX.out))
      have G4 := ((((K1.out.mono (G := fun a => a = xb ∨ a = pb ∨ a = g) (fun _ _ h => h.elim)).trans (K2.out.mono (fun a _ h => .inl h))).trans (K3.out.mono (fun a _ h => .inr (.inr h.symm)))).trans (K4.out.mono (fun a _ h => .inr (.inl h))))
      have hg3 : g3 = g ∨ w.heap.size ≤ g3 := by
        rcases F3.out with e | e
        · exact .inl (by simp [Value.ownBlock] at e; exact e.symm)
        · exact .inr (by simp at e; omega)
      have n6 : g3 ≠ pb := fun e => S3.out.ne_block RP3.out (by decide) (by rw [e]; rfl)
      have hIx := H.out.setPage HX.out G4 (n' := (n : Int) + 1) (iv' := .slice (some ⟨g3, 0, none⟩) (L.length + 1) cp3) (L' := putI L j (k, v)) (fun a ha _ => by
          rcases ha with e | e | e
          · exact .inl e
          · exact .inr (.inl e)
          · exact .inr (.inr (by rw [e]; rfl)))
        ((K4.out.block _ (row_lt RX3.out) (fun e => N1.out e.symm)).trans RX3.out)
        ⟨RP4.out, by rw [putI_len]; exact S3.out.kept K4.out (fun a ha e => n6 (by simp [Value.ownBlock] at ha; exact ha.trans e))⟩
        (fun a ha => by
          simp [Value.ownBlock] at ha; subst ha
          rcases hg3 with e | e
          · exact ⟨hFi.2 _ (by rw [e]; rfl), .inl (by rw [e]; rfl)⟩
          · exact ⟨HFF.out _ e, .inr e⟩)
      refine put_done HF.out HS.out HL.out HN.out hl HW.out ?_ hIx (G4.mono (fun a _ ha => ?_))
      · have e8 : ¬ 8 < (putI L j (k, v)).length := by rw [putI_len]; omega
        unfold split8
        rw [if_neg e8]
        rfl
      · rcases ha with rfl | rfl | rfl
        · exact H.out.m
        · exact hFi.1
        · exact hFi.2 _ rfl
/-- Put, whatever the key -/
theorem put_any {F : Nat → Prop} {w : World} {xb : Nat} {PL : List (List It)} (h : IxOk F w xb PL) (hF : ∀ g, w.heap.size ≤ g → F g) (k v : Int) :
    Calls Try.prog 10 #[.pointer (some ⟨xb, 0, none⟩), .int .u64 k, .int .u64 v] w (PutPost F w xb PL k v) := by
  obtain ⟨i', j', b, hf⟩ : ∃ i' j' b, findP PL k = (i', j', b) := ⟨_, _, _, rfl⟩
  cases b with
  | true => exact put_found h k v hf
  | false =>
    by_cases hl : PL.flatten.length < 4096
    · by_cases he : PL = []
      · subst he; exact put_first h hF k v
      · exact put_new h hF k v hf hl he (i := (spot PL k).1) (j := (spot PL k).2) rfl
    · exact put_full h k v hf (by omega)
end Go.Proofs.Ytfmohmlpcielnaa
