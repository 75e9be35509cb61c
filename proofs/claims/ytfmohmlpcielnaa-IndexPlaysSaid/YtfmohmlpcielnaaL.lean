/- What is found: plain; Get, Len, Next, New. -/
import Derived.Test.YtfmohmlpcielnaaK
import Derived.Test.YtfmohmlpcielnaaRow
namespace Go.Proofs.Ytfmohmlpcielnaa
open Go.RowKit

theorem find_in {PL : List (List It)} (hw : Wf PL) {k : Int} {i j : Nat} {b : Bool} {L : List It} (hf : findP PL k = (i, j, b)) (hL : PL[i]? = some L) :
    j < L.length ∧ (∀ x ∈ (PL.take i).flatten ++ L.take j, x.1 < k) ∧ (∀ y ∈ L.drop j ++ (PL.drop (i + 1)).flatten, k ≤ y.1) ∧ PL.flatten = ((PL.take i).flatten ++ L.take j) ++ (L.drop j ++ (PL.drop (i + 1)).flatten) ∧ b = decide ((L.map (·.1))[j]? = some k) := by
  have hi : aft (PL.map lastK) k = i := by
    unfold findP at hf
    split at hf <;> (simp only [Prod.mk.injEq] at hf; exact hf.1)
  have hfe : findP PL k = (i, aft (L.map (·.1)) k, decide ((L.map (·.1))[aft (L.map (·.1)) k]? = some k)) := by unfold findP; rw [hi, hL]
  rw [hfe] at hf
  simp only [Prod.mk.injEq] at hf
  obtain ⟨_, hj, hb⟩ := hf
  rw [hj] at hb
  have hup := (up_flatten hw.up).1 L (List.mem_of_getElem? hL)
  have ha := ahead hw (k := k) (n := i) (by omega)
  have hbh := behind hw (k := k) (L := L) (by rw [hi]; exact hL)
  rw [hi] at hbh
  obtain ⟨in1, in2⟩ := inner hup k
  rw [hj] at in1 in2
  refine ⟨?_, fun x hx => ?_, fun y hy => ?_, ?_, hb.symm⟩
  · have h1 := aft_le (L.map (·.1)) k
    rw [List.length_map, hj] at h1
    rcases Nat.lt_or_eq_of_le h1 with h2 | h2
    · exact h2
    · rw [h2, List.take_length] at in1
      obtain ⟨u, hu, eu⟩ := lastK_mem (hw.ne L (List.mem_of_getElem? hL)).1
      have := in1 u hu
      omega
  · rcases List.mem_append.1 hx with h | h
    · exact ha x h
    · exact in1 x h
  · rcases List.mem_append.1 hy with h | h
    · exact in2 y h
    · exact Int.le_of_lt (hbh.2 y h)
  · conv => lhs; rw [split_at hL]
    rw [List.append_assoc, ← List.append_assoc (L.take j), List.take_append_drop]
    simp
theorem find_out {PL : List (List It)} (hw : Wf PL) {k : Int} {i j : Nat} {b : Bool} (hf : findP PL k = (i, j, b)) (hL : PL[i]? = none) : i = PL.length ∧ j = 0 ∧ b = false ∧ ∀ x ∈ PL.flatten, x.1 < k := by
  have hi : aft (PL.map lastK) k = i := by
    unfold findP at hf
    split at hf <;> (simp only [Prod.mk.injEq] at hf; exact hf.1)
  have hfe : findP PL k = (i, 0, false) := by unfold findP; rw [hi, hL]
  rw [hfe] at hf
  simp only [Prod.mk.injEq] at hf
  obtain ⟨_, rfl, rfl⟩ := hf
  have hle := aft_le (PL.map lastK) k
  rw [hi, List.length_map] at hle
  have hge := List.getElem?_eq_none_iff.1 hL
  refine ⟨by omega, rfl, rfl, fun x hx => ?_⟩
  have := ahead hw (k := k) (n := PL.length) (by omega)
  rw [List.take_length] at this
  exact this x hx
def getI (M : List It) (k : Int) : Option Int := (M.find? (fun x => decide (x.1 = k))).map (·.2)
def nextI (M : List It) (k : Int) : Option It := M.find? (fun x => decide (k ≤ x.1))
theorem find_ahead {p : It → Bool} {A B : List It} (h : ∀ x ∈ A, p x = false) : (A ++ B).find? p = B.find? p := by
  rw [List.find?_append, List.find?_eq_none.2 (fun x hx => by rw [h x hx]; decide)]
  rfl
theorem getI_in {PL : List (List It)} (hw : Wf PL) {k : Int} {i j : Nat} {L : List It} {v0 : Int} (hf : findP PL k = (i, j, true)) (hL : PL[i]? = some L) (hj : L[j]? = some (k, v0)) : getI PL.flatten k = some v0 := by
  obtain ⟨h1, h2, h3, h4, _⟩ := find_in hw hf hL
  have e : L.drop j = (k, v0) :: L.drop (j + 1) := by
    obtain ⟨hl, e⟩ := List.getElem?_eq_some_iff.1 hj
    rw [← e, List.getElem_cons_drop]
  unfold getI
  rw [h4, find_ahead (fun x hx => by have := h2 x hx; simp; omega), e]
  simp
theorem getI_out {PL : List (List It)} (hw : Wf PL) {k : Int} {i j : Nat} (hf : findP PL k = (i, j, false)) : getI PL.flatten k = none := by
  unfold getI
  rw [Option.map_eq_none_iff, List.find?_eq_none]
  intro x hx
  simp only [decide_eq_true_eq]
  intro hxk
  cases hL : PL[i]? with
  | none => have := (find_out hw hf hL).2.2.2 x hx; omega
  | some L =>
    obtain ⟨h1, h2, h3, h4, h5⟩ := find_in hw hf hL
    have hu := hw.up
    rw [h4] at hx hu
    rcases List.mem_append.1 hx with hx | hx
    · have := h2 x hx; omega
    · have e : L.drop j = L[j] :: L.drop (j + 1) := by rw [List.getElem_cons_drop]
      have hu2 := (List.pairwise_append.1 hu).2.1
      rw [e, List.cons_append] at hx hu2
      have h6 := h3 L[j] (List.mem_append_left _ (by rw [e]; exact List.mem_cons_self))
      rcases List.mem_cons.1 hx with rfl | hx
      · have := h5.symm
        rw [decide_eq_false_iff_not] at this
        exact this (by rw [List.getElem?_map, List.getElem?_eq_getElem h1, Option.map_some, hxk])
      · have := (List.pairwise_cons.1 hu2).1 x hx
        omega
theorem nextI_in {PL : List (List It)} (hw : Wf PL) {k : Int} {i j : Nat} {b : Bool} {L : List It} {x : It} (hf : findP PL k = (i, j, b)) (hL : PL[i]? = some L) (hj : L[j]? = some x) : nextI PL.flatten k = some x := by
  obtain ⟨h1, h2, h3, h4, _⟩ := find_in hw hf hL
  have e : L.drop j = x :: L.drop (j + 1) := by
    obtain ⟨hl, e⟩ := List.getElem?_eq_some_iff.1 hj
    rw [← e, List.getElem_cons_drop]
  have hx := h3 x (by rw [e]; simp)
  unfold nextI
  rw [h4, find_ahead (fun x hx => by have := h2 x hx; simp; omega), e]
  simp [hx]
theorem nextI_out {PL : List (List It)} (hw : Wf PL) {k : Int} {i j : Nat} {b : Bool} (hf : findP PL k = (i, j, b)) (hL : PL[i]? = none) : nextI PL.flatten k = none := by
  unfold nextI
  rw [List.find?_eq_none]
  intro x hx
  have := (find_out hw hf hL).2.2.2 x hx
  simp; omega

set_option maxHeartbeats 1000000 in
theorem len_any {F : Nat → Prop} {w : World} {xb : Nat} {PL : List (List It)} (h : IxOk F w xb PL) :
    Calls Try.prog 12 #[.pointer (some ⟨xb, 0, none⟩)] w fun e w' => e = .returned (.int .i64 (PL.flatten.length : Int)) ∧ Kept (fun _ => False) w w' := by
  obtain ⟨hw, hn, pv, S, rfl, h⟩ := h
  have c0 : w.cell? ⟨xb, 1, none⟩ = some (.int .i64 ((pl S).flatten.length : Int)) := row_cell h.r 1
  obtain ⟨n, hnn⟩ : ∃ n, (pl S).flatten.length = n := ⟨_, rfl⟩
  rw [hnn] at c0 ⊢
  clear h hw hn hnn
  go_enter Try.func12, Try.ntmps12
  go_wp2
  go_returns
  exact ⟨rfl, Kept.refl _ _⟩
set_option maxHeartbeats 1000000 in
theorem new_any (w : World) :
    Calls Try.prog 9 #[] w fun e w' => e = .returned (.pointer (some ⟨w.heap.size, 0, none⟩)) ∧ IxOk (fun g => g = w.heap.size) w' w.heap.size [] ∧ Kept (fun _ => False) w w' := by
  go_enter Try.func9, Try.ntmps9
  go_wp2
  go_returns
  refine ⟨rfl, ⟨⟨by simp, by simp, by simp [Up]⟩, by simp, .slice none 0 0, [], rfl, ?_⟩, (Kept.refl _ _).alloc _⟩
  exact ⟨row_new _ _, by exact Seg.nil _ _ _, by simp, rfl, by simp [Value.ownBlock], by simp, List.Pairwise.nil⟩
set_option maxRecDepth 100000 in
set_option maxHeartbeats 2000000 in
theorem get_any {F : Nat → Prop} {w : World} {xb : Nat} {PL : List (List It)} (h : IxOk F w xb PL) (k : Int) :
    Calls Try.prog 19 #[.pointer (some ⟨xb, 0, none⟩), .int .u64 k] w fun e w' => e = .returned (.tuple #[.int .u64 ((getI PL.flatten k).getD 0), .bool (getI PL.flatten k).isSome]) ∧ Kept (fun _ => False) w w' := by
  obtain ⟨hw, hn, pv, S, rfl, h⟩ := h
  obtain ⟨i, j, b, hf⟩ : ∃ i j b, findP (pl S) k = (i, j, b) := ⟨_, _, _, rfl⟩
  have hle := hw.pages
  have hSl : S.length ≤ 4096 := by simp [pl] at hle; simp [pl] at hn; omega
  cases b with
  | false =>
    rw [getI_out hw hf]
    go_enter Try.func19, Try.ntmps19
    go_wp2_with fail
    refine (find_any h hw (by omega) k hf).mono ?_
    rintro e w1 ⟨rfl, hk1⟩
    have K1 := hid hk1
    clear hk1
    go_wp2
    go_returns
    exact ⟨rfl, K1.out⟩
  | true =>
    obtain ⟨L, v0, hL, hj⟩ := findP_some hf
    rw [getI_in hw hf hL hj]
    obtain ⟨kk, ekk⟩ : ∃ kk, kk = k := ⟨k, rfl⟩
    rw [← ekk] at hj
    obtain ⟨pb, iv, hx⟩ := pl_at hL
    have hmem := List.mem_of_getElem? hx
    have hpg : PgAt w pb iv L := h.p _ hmem
    have hpos : 0 < L.length := (hw.ne _ (List.mem_of_getElem? hL)).1
    obtain ⟨g, cap, rfl, q1, q2⟩ := hpg.s.some_of_pos hpos
    have hil : i < S.length := (List.getElem?_eq_some_iff.1 hx).1
    obtain ⟨pg, pcap, rfl, q3, q4⟩ := h.s.some_of_pos (by omega)
    unfold maxLen at q2 q4
    have hjl : j < L.length := (List.getElem?_eq_some_iff.1 hj).1
    have c0 : w.cell? ⟨xb, 0, none⟩ = some (.slice (some ⟨pg, 0, none⟩) S.length pcap) := row_cell h.r 0
    have c1 : w.cell? ⟨pg, i, none⟩ = some (.pointer (some ⟨pb, 0, none⟩)) := (h.s.cells rfl i (by simp [ptrs]; omega)).trans (by
      obtain ⟨_, e⟩ := List.getElem?_eq_some_iff.1 hx
      simp [ptrs, e])
    have c2 : w.cell? ⟨pb, 0, none⟩ = some (.slice (some ⟨g, 0, none⟩) L.length cap) := row_cell hpg.r 0
    have c3 : w.cell? ⟨g, j * 2, none⟩ = some (.int .u64 kk) := by
      have h1 := (icells_at L _ _ hj).1
      obtain ⟨hj', e⟩ := List.getElem?_eq_some_iff.1 h1
      rw [hpg.s.cells rfl _ hj', e]
    have c4 : w.cell? ⟨g, j * 2 + 1, none⟩ = some (.int .u64 v0) := by
      have h1 := (icells_at L _ _ hj).2
      obtain ⟨hj', e⟩ := List.getElem?_eq_some_iff.1 h1
      rw [hpg.s.cells rfl _ hj', e]
    have H := hid h; have HW := hid hw; have HF := hid hf
    clear h hw hf hx hL hj hmem hpg hle hn ekk
    go_enter Try.func19, Try.ntmps19
    go_wp2_with fail
    refine (find_any H.out HW.out (by omega) k HF.out).mono ?_
    rintro e w1 ⟨rfl, hk1⟩
    have K1 := hid hk1
    replace c0 := hk1.cell c0 (fun h => h)
    replace c1 := hk1.cell c1 (fun h => h)
    replace c2 := hk1.cell c2 (fun h => h)
    replace c4 := hk1.cell c4 (fun h => h)
    clear hk1 c3
    go_wp2
    go_returns
    exact ⟨rfl, K1.out⟩
theorem infoI2 : (Try.prog.info? 33).map (·.size) = some 2 := by kernel_rfl
set_option maxRecDepth 100000 in
set_option maxHeartbeats 2000000 in
theorem next_any {F : Nat → Prop} {w : World} {xb : Nat} {PL : List (List It)} (h : IxOk F w xb PL) (k : Int) :
    Calls Try.prog 13 #[.pointer (some ⟨xb, 0, none⟩), .int .u64 k] w fun e w' => e = .returned (.tuple #[.agg #[.int .u64 ((nextI PL.flatten k).getD (0, 0)).1, .int .u64 ((nextI PL.flatten k).getD (0, 0)).2], .bool (nextI PL.flatten k).isSome]) ∧ Kept (fun _ => False) w w' := by
  obtain ⟨hw, hn, pv, S, rfl, h⟩ := h
  obtain ⟨i, j, b, hf⟩ : ∃ i j b, findP (pl S) k = (i, j, b) := ⟨_, _, _, rfl⟩
  have hle := hw.pages
  have hSl : S.length ≤ 4096 := by simp [pl] at hle; simp [pl] at hn; omega
  obtain ⟨ao, cap0, hpv⟩ := h.s.isSlice
  cases hL : (pl S)[i]? with
  | none =>
    obtain ⟨rfl, rfl, rfl, _⟩ := find_out hw hf hL
    rw [nextI_out hw hf hL]
    subst hpv
    have c0 : w.cell? ⟨xb, 0, none⟩ = some (.slice ao S.length cap0) := row_cell h.r 0
    have hSS : (pl S).length = S.length := by simp [pl]
    have H := hid h; have HW := hid hw; have HF := hid hf; have HX := hid (row_lt h.r)
    rw [hSS] at HF
    clear h hw hf hL hSS hle hn
    go_enter Try.func13, Try.ntmps13
    go_wp2_with fail
    refine (find_any (H.out.kept (Kept.alloc (Kept.refl (fun _ => False) w) _) (fun _ _ _ h => h)) HW.out (by omega) k HF.out).mono ?_
    rintro e w1 ⟨rfl, hk1⟩
    have K1 := hid (((Kept.refl (fun _ => False) w).alloc (.cells #[.int .u64 0, .int .u64 0] 33)).trans hk1)
    replace c0 := K1.out.cell c0 (fun h => h)
    have R1 := hid ((hk1.block _ (row_lt (row_new w _)) (fun h => h)).trans (row_new w (.cells #[.int .u64 0, .int .u64 0] 33)))
    have b0 := row_cell R1.out 0
    have b1 := row_cell R1.out 1
    have fz := fun j => row_free R1.out j
    clear hk1
    simp only [List.getElem?_toArray, List.getElem?_cons_zero, List.getElem?_cons_succ] at b0 b1
    go_wp2
    have hr := row_set (row_set R1.out 0 (.int .u64 0)) 1 (.int .u64 0)
    refine bodyPost_ret (results_row_tmp (fn := Try.f13) rfl (by rfl) rfl hr Try.underlying33 rfl (by exact infoI2)) rfl ⟨rfl, (K1.out.setCell (.inr (Nat.le_refl _)) _).setCell (.inr (Nat.le_refl _)) _⟩
  | some L =>
    have hj0 := (find_in hw hf hL).1
    obtain ⟨⟨kk, v0⟩, hj⟩ : ∃ x, L[j]? = some x := ⟨_, List.getElem?_eq_getElem hj0⟩
    rw [nextI_in hw hf hL hj]
    obtain ⟨pb, iv, hx⟩ := pl_at hL
    have hmem := List.mem_of_getElem? hx
    have hpg : PgAt w pb iv L := h.p _ hmem
    have hpos : 0 < L.length := (hw.ne _ (List.mem_of_getElem? hL)).1
    obtain ⟨g, cap, rfl, q1, q2⟩ := hpg.s.some_of_pos hpos
    have hil : i < S.length := (List.getElem?_eq_some_iff.1 hx).1
    obtain ⟨pg, pcap, rfl, q3, q4⟩ := h.s.some_of_pos (by omega)
    unfold maxLen at q2 q4
    have hjl : j < L.length := (List.getElem?_eq_some_iff.1 hj).1
    have c0 : w.cell? ⟨xb, 0, none⟩ = some (.slice (some ⟨pg, 0, none⟩) S.length pcap) := row_cell h.r 0
    have c1 : w.cell? ⟨pg, i, none⟩ = some (.pointer (some ⟨pb, 0, none⟩)) := (h.s.cells rfl i (by simp [ptrs]; omega)).trans (by
      obtain ⟨_, e⟩ := List.getElem?_eq_some_iff.1 hx
      simp [ptrs, e])
    have c2 : w.cell? ⟨pb, 0, none⟩ = some (.slice (some ⟨g, 0, none⟩) L.length cap) := row_cell hpg.r 0
    have c3 : w.cell? ⟨g, j * 2, none⟩ = some (.int .u64 kk) := by
      have h1 := (icells_at L _ _ hj).1
      obtain ⟨hj', e⟩ := List.getElem?_eq_some_iff.1 h1
      rw [hpg.s.cells rfl _ hj', e]
    have c4 : w.cell? ⟨g, j * 2 + 1, none⟩ = some (.int .u64 v0) := by
      have h1 := (icells_at L _ _ hj).2
      obtain ⟨hj', e⟩ := List.getElem?_eq_some_iff.1 h1
      rw [hpg.s.cells rfl _ hj', e]
    have H := hid h; have HW := hid hw; have HF := hid hf
    have hne : ((i : Int) == (S.length : Int)) = false := by rw [beq_eq_false_iff_ne]; omega
    clear h hw hf hx hL hj hmem hpg hle hn hpv
    go_enter Try.func13, Try.ntmps13
    go_wp2_with fail
    refine (find_any (H.out.kept (Kept.alloc (Kept.refl (fun _ => False) w) _) (fun _ _ _ h => h)) HW.out (by omega) k HF.out).mono ?_
    rintro e w1 ⟨rfl, hk1⟩
    have K1 := hid (((Kept.refl (fun _ => False) w).alloc (.cells #[.int .u64 0, .int .u64 0] 33)).trans hk1)
    replace c0 := K1.out.cell c0 (fun h => h)
    have R1 := hid ((hk1.block _ (row_lt (row_new w _)) (fun h => h)).trans (row_new w (.cells #[.int .u64 0, .int .u64 0] 33)))
    have b0 := row_cell R1.out 0
    have b1 := row_cell R1.out 1
    have fz := fun j => row_free R1.out j
    clear hk1
    simp only [List.getElem?_toArray, List.getElem?_cons_zero, List.getElem?_cons_succ] at b0 b1
    replace c1 := K1.out.cell c1 (fun h => h)
    replace c2 := K1.out.cell c2 (fun h => h)
    replace c3 := K1.out.cell c3 (fun h => h)
    replace c4 := K1.out.cell c4 (fun h => h)
    go_wp2
    have hr := row_set (row_set R1.out 0 (.int .u64 kk)) 1 (.int .u64 v0)
    refine bodyPost_ret (results_row_tmp (fn := Try.f13) rfl (by rfl) rfl hr Try.underlying33 rfl (by exact infoI2)) rfl ⟨rfl, (K1.out.setCell (.inr (Nat.le_refl _)) _).setCell (.inr (Nat.le_refl _)) _⟩
end Go.Proofs.Ytfmohmlpcielnaa
