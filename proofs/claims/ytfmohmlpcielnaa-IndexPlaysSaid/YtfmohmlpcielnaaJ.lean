/- Put: the walk. -/
import Derived.Test.YtfmohmlpcielnaaI
namespace Go.Proofs.Ytfmohmlpcielnaa
open Go.RowKit

theorem pl_at {S : List Pg} {i : Nat} {L : List It} (h : (pl S)[i]? = some L) : ∃ pb iv, S[i]? = some (pb, iv, L) := by
  simp only [pl, List.getElem?_map, Option.map_eq_some_iff] at h
  obtain ⟨⟨a, b, c⟩, h, rfl⟩ := h
  exact ⟨a, b, h⟩
def PutPost (F : Nat → Prop) (w : World) (xb : Nat) (PL : List (List It)) (k v : Int) (e : Ending) (w' : World) : Prop := e = .returned (.int .i64 (putE PL k)) ∧ IxOk F w' xb (putQ PL k v) ∧ Kept F w w'
set_option maxRecDepth 100000 in
set_option maxHeartbeats 2000000 in
/-- the key is there -/
theorem put_found {F : Nat → Prop} {w : World} {xb : Nat} {PL : List (List It)} (h : IxOk F w xb PL) (k v : Int) {i j : Nat} (hf : findP PL k = (i, j, true)) :
    Calls Try.prog 10 #[.pointer (some ⟨xb, 0, none⟩), .int .u64 k, .int .u64 v] w (PutPost F w xb PL k v) := by
  obtain ⟨hw, hn, pv, S, rfl, h⟩ := h
  obtain ⟨L, v0, hL, hj⟩ := findP_some hf
  obtain ⟨pb, iv, hx⟩ := pl_at hL
  have hmem := List.mem_of_getElem? hx
  have hpg : PgAt w pb iv L := h.p _ hmem
  have hpos : 0 < L.length := (hw.ne _ (List.mem_of_getElem? hL)).1
  have hle := hw.pages
  have hSl : S.length ≤ 4096 := by simp [pl] at hle; simp [pl] at hn; omega
  obtain ⟨g, cap, rfl, q1, q2⟩ := hpg.s.some_of_pos hpos
  have hil : i < S.length := (List.getElem?_eq_some_iff.1 hx).1
  obtain ⟨pg, pcap, rfl, q3, q4⟩ := h.s.some_of_pos (by omega)
  unfold maxLen at q2 q4
  have hjl : j < L.length := (List.getElem?_eq_some_iff.1 hj).1
  have c0 : w.cell? ⟨xb, 0, none⟩ = some (.slice (some ⟨pg, 0, none⟩) S.length pcap) := row_cell h.r 0
  have c1 : w.cell? ⟨pg, i, none⟩ = some (.pointer (some ⟨pb, 0, none⟩)) := (h.s.cells rfl i (by simp [ptrs]; omega)).trans (by
    obtain ⟨_, e⟩ := List.getElem?_eq_some_iff.1 hx
    simp [ptrs, e])
  have c2 : w.cell? ⟨pb, 0, none⟩ = some (.slice (some ⟨g, 0, none⟩) L.length cap) := row_cell hpg.r 0
  have c3 : w.cell? ⟨g, j * 2 + 1, none⟩ = some (.int .u64 v0) := by
    have h1 := (icells_at L _ _ hj).2
    obtain ⟨hj', e⟩ := List.getElem?_eq_some_iff.1 h1
    rw [hpg.s.cells rfl _ hj', e]
  have H := hid h; have HW := hid hw; have HF := hid hf; have HX := hid hx; have HL := hid hL; have HJ := hid hj; have HP := hid hpg; have HN := hid hn
  clear h hw hf hx hL hj hmem hpg hle hn
  go_enter Try.func10, Try.ntmps10
  go_wp2_with fail
  refine (find_any H.out HW.out (by omega) k HF.out).mono ?_
  rintro e w1 ⟨rfl, hk1⟩
  have K1 := hid hk1
  replace c0 := hk1.cell c0 (fun h => h)
  replace c1 := hk1.cell c1 (fun h => h)
  replace c2 := hk1.cell c2 (fun h => h)
  replace c3 := hk1.cell c3 (fun h => h)
  have fz := fun j => (HP.out.same hk1).s.free (g := g) rfl j
  clear hk1
  go_wp2
  go_returns
  have hk2 := (K1.out.mono (G := fun a => a = g) (fun _ _ h => h.elim)).setCell (p := ⟨g, j * 2 + 1, none⟩) (.inl rfl) (.int .u64 v)
  have hs := (HP.out.same K1.out).s.set (g := g) rfl (j * 2 + 1) (.int .u64 v)
  rw [icells_set _ _ _ _ _ HJ.out] at hs
  have hne : g ≠ pb := fun e => HP.out.s.ne_block HP.out.r (by decide) (by rw [e]; rfl)
  have hnx : g ≠ xb := fun e => HP.out.s.ne_block H.out.r (by decide) (by rw [e]; rfl)
  have hIx := H.out.setPage HX.out hk2 (fun a ha _ => .inr (.inr (by rw [ha]; rfl))) (n' := ((pl S).flatten.length : Int)) (iv' := .slice (some ⟨g, 0, none⟩) L.length cap) (L' := L.set j (k, v))
    ((hk2.block _ (row_lt H.out.r) (fun e => hnx e.symm)).trans H.out.r) ⟨(hk2.block _ (row_lt HP.out.r) (fun e => hne e.symm)).trans HP.out.r, by simpa using hs⟩ (fun a ha => ⟨(H.out.b _ (List.mem_of_getElem? HX.out)).2 a ha, .inl ha⟩)
  have hlen := putP_len v HF.out
  have hfo := putP_found (v := v) HF.out HL.out
  have hq : putQ (pl S) k v = putP (pl S) k v := by unfold putQ; rw [HF.out]; rfl
  rw [if_pos rfl, Nat.add_zero] at hlen
  have hFg : F g := (H.out.b _ (List.mem_of_getElem? HX.out)).2 g rfl
  refine ⟨by unfold putE; rw [HF.out]; rfl, ⟨by rw [hq]; exact putP_wf HW.out k v, by rw [hq, hlen]; exact HN.out, _, _, ?_, by rw [hq, hlen]; exact hIx⟩, hk2.mono (fun a _ ha => by rw [ha]; exact hFg)⟩
  rw [hq, hfo]
  simp [pl]
set_option maxRecDepth 100000 in
set_option maxHeartbeats 2000000 in
/-- no room -/
theorem put_full {F : Nat → Prop} {w : World} {xb : Nat} {PL : List (List It)} (h : IxOk F w xb PL) (k v : Int) {i j : Nat} (hf : findP PL k = (i, j, false)) (hl : 4096 ≤ PL.flatten.length) :
    Calls Try.prog 10 #[.pointer (some ⟨xb, 0, none⟩), .int .u64 k, .int .u64 v] w (PutPost F w xb PL k v) := by
  have H0 := hid h
  obtain ⟨hw, hn, pv, S, rfl, h⟩ := h
  have hle := hw.pages
  have hSl : S.length ≤ 4096 := by simp [pl] at hle; simp [pl] at hn; omega
  have c0 : w.cell? ⟨xb, 1, none⟩ = some (.int .i64 ((pl S).flatten.length : Int)) := row_cell h.r 1
  have H := hid h; have HW := hid hw; have HF := hid hf; have HLL := hid hl
  obtain ⟨n, hnn⟩ : ∃ n, (pl S).flatten.length = n := ⟨_, rfl⟩
  rw [hnn] at c0 hl hn
  have hl' : (4096 : Int) ≤ (n : Int) := by omega
  clear h hw hf hle hnn
  go_enter Try.func10, Try.ntmps10
  go_wp2_with fail
  refine (find_any H.out HW.out (by omega) k HF.out).mono ?_
  rintro e w1 ⟨rfl, hk1⟩
  have K1 := hid hk1
  replace c0 := hk1.cell c0 (fun h => h)
  clear hk1
  go_wp2
  go_returns
  refine ⟨by unfold putE; rw [HF.out, if_neg (by simp), if_pos HLL.out]; rfl, ?_, K1.out.mono (fun _ _ h => h.elim)⟩
  have hq : putQ (pl S) k v = pl S := by unfold putQ; rw [HF.out, if_neg (by simp), if_pos HLL.out]
  rw [hq]
  exact H0.out.same K1.out
set_option maxRecDepth 100000 in
set_option maxHeartbeats 2000000 in
/-- the first item -/
theorem put_first {F : Nat → Prop} {w : World} {xb : Nat} (h : IxOk F w xb []) (hF : ∀ g, w.heap.size ≤ g → F g) (k v : Int) :
    Calls Try.prog 10 #[.pointer (some ⟨xb, 0, none⟩), .int .u64 k, .int .u64 v] w (PutPost F w xb [] k v) := by
  obtain ⟨hw, hn, pv, S, hS, h⟩ := h
  obtain rfl : S = [] := by simpa [pl] using hS
  have hs := h.s
  obtain ⟨ao, cap, rfl⟩ := hs.isSlice
  have c0 : w.cell? ⟨xb, 0, none⟩ = some (.slice ao 0 cap) := row_cell h.r 0
  have c1 : w.cell? ⟨xb, 1, none⟩ = some (.int .i64 0) := row_cell h.r 1
  have H := hid h; have HFF := hid hF
  clear h hs
  go_enter Try.func10, Try.ntmps10
  go_wp2_with fail
  refine (find_any (k := k) (i := 0) (j := 0) (ok := false) H.out hw (by simp) rfl).mono ?_
  rintro e w1 ⟨rfl, hk1⟩
  have K1 := hid hk1
  replace c0 := hk1.cell c0 (fun h => h)
  replace c1 := hk1.cell c1 (fun h => h)
  have R1 := hid ((hk1.block _ (row_lt H.out.r) (fun h => h)).trans H.out.r)
  clear hk1
  go_wp2_with (first
    | (refine wpList_store_cell rfl 3 (.tmp 50) (.tmp 48) rfl (by kernel_rfl) xb 1 rfl (.int .i64 1) rfl rfl R1.out (by simp) ?_; intro w2 hr2 hk2; have R2 := hid hr2.out; have K2 := hid hk2.out; replace c0 := row_cell hr2.out 0; clear hr2 hk2 c1; simp only [List.setIfInBounds_toArray, List.set_cons_succ, List.set_cons_zero, List.getElem?_toArray, List.getElem?_cons_zero] at c0)
    | (refine wpList_store_cell rfl 62 (.tmp 66) (.tmp 64) rfl (by kernel_rfl) xb 0 rfl (.slice (some ⟨w2.heap.size + 2, 0, none⟩) 1 1) (by simp [Act.eval]) rfl (by exact row_old (row_old (row_old R2.out _) _) _) (by simp) ?_; intro w3 hr3 hk3; have R3 := hid hr3.out; have K3 := hid hk3.out; clear hr3 hk3))
  go_returns
  have b1 := row_new w2 (.cells #[.int .u64 k, .int .u64 v] 33)
  have b2 := row_new (w2.alloc (.cells #[.int .u64 k, .int .u64 v] 33)) (.cells #[.slice (some ⟨w2.heap.size, 0, none⟩) 1 1] 68)
  have b3 := row_new ((w2.alloc (.cells #[.int .u64 k, .int .u64 v] 33)).alloc (.cells #[.slice (some ⟨w2.heap.size, 0, none⟩) 1 1] 68)) (.cells #[.pointer (some ⟨w2.heap.size + 1, 0, none⟩)] 69)
  have z1 : w1.heap.size ≤ w2.heap.size := K2.out.size
  have z0 : w.heap.size ≤ w1.heap.size := K1.out.size
  have zx := row_lt H.out.r
  have b1' := (K3.out.block _ (row_lt (row_old (row_old b1 _) _)) (by intro e; (try simp at e); omega)).trans (row_old (row_old b1 _) _)
  have b2' := (K3.out.block _ (row_lt (row_old b2 _)) (by intro e; (try simp at e); omega)).trans (row_old b2 _)
  have b3' := (K3.out.block _ (row_lt b3) (by intro e; (try simp at e); omega)).trans b3
  have e2 : (w2.alloc (.cells #[.int .u64 k, .int .u64 v] 33)).heap.size = w2.heap.size + 1 := by simp
  have e3 : ((w2.alloc (.cells #[.int .u64 k, .int .u64 v] 33)).alloc (.cells #[.slice (some ⟨w2.heap.size, 0, none⟩) 1 1] 68)).heap.size = w2.heap.size + 2 := by simp
  rw [e2] at b2'
  rw [e3] at b3'
  have hk := (((((K1.out.mono (G := fun g => g = xb) (fun _ _ h => h.elim)).trans K2.out).alloc _).alloc _).alloc _).trans K3.out
  have s1 := Seg.mk (n := 1) (cap := 1) (size := 2) b1' (Nat.le_refl _) (by unfold maxLen; omega) (by simp)
  have s3 := Seg.mk (n := 1) (cap := 1) (size := 1) b3' (Nat.le_refl _) (by unfold maxLen; omega) (by simp)
  have hIx := (H.out).re (A := []) (Y := []) (B := []) (Z := [(w2.heap.size + 1, .slice (some ⟨w2.heap.size, 0, none⟩) 1 1, [(k, v)])]) (pv' := .slice (some ⟨w2.heap.size + 2, 0, none⟩) 1 1) (n' := 1) hk (fun g hg _ => .inl hg) R3.out (by simpa [ptrs] using s3)
    (by intro z hz; simp at hz; subst hz; exact ⟨b2', by simpa [icells, icell] using s1⟩) (by intro g hg; simp [Value.ownBlock] at hg; exact HFF.out _ (by omega))
    (by intro z hz; simp at hz; subst hz; exact ⟨HFF.out _ (by simp; omega), fun g hg => HFF.out _ (by simp [Value.ownBlock] at hg; omega)⟩) (PgFar.single _)
    (by intro z hz; simp at hz; subst hz; exact .inr (by simp; omega)) (by intro z hz g hg; simp at hz; subst hz; simp [Value.ownBlock] at hg; exact .inr (by omega))
  have hFx := H.out.m
  exact ⟨rfl, ⟨putQ_wf hw k v, by simp [putQ, putP, findP], .slice (some ⟨w2.heap.size + 2, 0, none⟩) 1 1, [(w2.heap.size + 1, .slice (some ⟨w2.heap.size, 0, none⟩) 1 1, [(k, v)])], by simp [pl, putQ, putP, findP], by simpa [putQ, putP, findP] using hIx⟩, hk.mono (fun a _ ha => by rw [ha]; exact hFx)⟩
end Go.Proofs.Ytfmohmlpcielnaa
