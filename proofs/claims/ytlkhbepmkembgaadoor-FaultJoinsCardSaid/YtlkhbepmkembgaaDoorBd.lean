/- Faults: build, and where its links lie. -/
import Derived.Test.YtlkhbepmkembgaaDoorT
namespace Go.Proofs.YtlkhbepmkembgaaDoor
open Go.RowKit
/-- u is a list of links that build has taken of v's (or made) -/
def From (w : World) (v u : Value) (A : List FL) : Prop := (∃ ao c, v = .slice ao A.length c ∧ u = .slice ao (cut A).length c ∧ cut A = A.take (cut A).length ∧ (cut A).length ≤ A.length) ∨ (∃ g, u = .slice (some ⟨g, 0, none⟩) 1 1 ∧ cut A = [(0, 0)] ∧ w.heap[g]? = some (.cells #[.int .i64 0, .int .u32 0] 42 (0, 0)))
set_option maxHeartbeats 400000 in
set_option maxRecDepth 100000 in
theorem build_more {W : World} {v : Value} {A : List FL} (r : Int) (h : LL W v A) :
    Calls Tryd.prog 8 #[.agg #[v, .int .i64 r]] W fun e w' => ∃ x u, e = .returned (.tuple #[x, .agg #[u, .int .i64 r]]) ∧ ErO w' x (cut A) r ∧ LL w' u (cut A) ∧ Kept (fun _ => False) W w' ∧ From w' v u A := by
  have hmx : A.length ≤ 9223372036854775807 := by obtain ⟨_, _, _, h1, h2, _⟩ := h; unfold maxLen at h2; omega
  obtain ⟨w1, hw1⟩ : ∃ w1, W.alloc (.cells #[v, .int .i64 r] 24) = w1 := ⟨_, rfl⟩
  have hk1 : Kept (fun _ => False) W w1 := hw1 ▸ (Kept.refl _ _).alloc _
  have hr1 : w1.heap[W.heap.size]? = some (.cells #[v, .int .i64 r] 24 (0, 0)) := by rw [← hw1]; exact row_new _ _
  obtain ⟨w2, hw2⟩ : ∃ w2, w1.alloc (.cells #[.slice none 0 0, .int .i64 0] 24) = w2 := ⟨_, rfl⟩
  have hk2 : Kept (fun _ => False) w1 w2 := hw2 ▸ (Kept.refl _ _).alloc _
  have hr2 : w2.heap[w1.heap.size]? = some (.cells #[.slice none 0 0, .int .i64 0] 24 (0, 0)) := by rw [← hw2]; exact row_new _ _
  have hr1 := (hk2.block _ (row_lt hr1) id).trans hr1
  have hne : W.heap.size ≠ w1.heap.size := by rw [← hw1]; simp
  obtain ⟨cb, hcb⟩ : ∃ cb, W.heap.size = cb := ⟨_, rfl⟩
  obtain ⟨rb, hrb⟩ : ∃ cb, w1.heap.size = cb := ⟨_, rfl⟩
  rw [hcb] at hr1 hne
  rw [hrb] at hr2 hne
  have c0 := row_cell hr1 0
  have c1 := row_cell hr1 1
  simp at c0 c1
  have hrbW : W.heap.size ≤ rb := by rw [← hrb]; exact hk1.size
  have HRB := hid hrbW
  have HLL := hid (((h.fresh).kept (hk1.trans hk2) (fun _ _ h => h.elim)).mono (G := fun g => g = rb) (fun g _ e => by rw [e]; exact HRB.out))
  have HK := hid (hk1.trans hk2)
  have HR1 := hid hr1; have HR2 := hid hr2; have HNE := hid hne
  obtain ⟨ao, cc, rfl⟩ := h.isSlice
  obtain ⟨N, hN⟩ : ∃ N : Nat, min A.length 30 = N := ⟨_, rfl⟩
  have HNI := hid (show (if (30 : Int) < (A.length : Int) then (30 : Int) else A.length) = (N : Int) by split <;> omega)
  have hNc : (N : Int) ≤ (cc : Int) := by obtain ⟨_, _, e, h1, _⟩ := HLL.out; simp only [Value.slice.injEq] at e; obtain ⟨_, _, rfl⟩ := e; omega
  clear h hk1 hk2 hr1 hr2 hne hrbW
  go_enter Tryd.func8, Tryd.ntmps8
  by_cases hA : A = []
  · have hN0 : N = 0 := by rw [← hN, hA]; rfl
    have hNz : ((N : Int) == 0) = true := by rw [hN0]; rfl
    have hcut : cut A = [(0, 0)] := by unfold cut; rw [if_pos hA]
    have HCUT := hid hcut
    rw [hcut]
    obtain ⟨w4, hw4⟩ : ∃ w4, w2.alloc (.cells #[.int .i64 0, .int .u32 0] 42) = w4 := ⟨_, rfl⟩
    have hk4 : Kept (fun _ => False) w2 w4 := hw4 ▸ (Kept.refl _ _).alloc _
    have hr4 : w4.heap[w2.heap.size]? = some (.cells #[.int .i64 0, .int .u32 0] 42 (0, 0)) := by rw [← hw4]; exact row_new _ _
    have hgr : w2.heap.size ≠ rb := fun e => by have := row_lt HR2.out; omega
    obtain ⟨g, hg⟩ : ∃ g, w2.heap.size = g := ⟨_, rfl⟩
    rw [hg] at hr4 hgr
    have HGR := hid hgr
    have R4 := hid hr4
    have HP4 := hid (ll_one (F := fun g => g = rb) ((0, 0) : FL) hgr hr4)
    have d0 := row_cell hr4 0
    have d1 := row_cell hr4 1
    simp at d0 d1
    have c4 := hk4.cell c1 id
    have s0 : (w4.drew).cell? ⟨cb, 1, none⟩ = some (.int .i64 r) ∧ (w4.drew).cell? ⟨g, 0, none⟩ = some (.int .i64 0) ∧ (w4.drew).cell? ⟨g, 1, none⟩ = some (.int .u32 0) := ⟨c4, d0, d1⟩
    have HNEW := hid (fun w => new_any r ((0, 0) : FL) w)
    simp only at HNEW
    have HK4 := hid hk4
    clear hN0 hA hcut hN hk4 hr4 hgr d0 d1 hmx
    go_wp2_with (refine wpList_min rfl (.tmp 12) (.const (.int .i64 30)) _ rfl (A.length : Int) 30 N rfl rfl HNI.out ?_)
    clear hw1 hw2 hcb hrb hw4 hg c1 c4
    have hx1 : IntKind.i64.wrap 0 = 0 := rfl
    have hx2 : IntKind.i64.wrap (-1) = -1 := rfl
    have hx3 : IntKind.i64.wrap ((1 : Int) - 1) = 0 := rfl
    have hx4 : IntKind.i64.wrap ((1 : Int) - 2) = -1 := rfl
    go_region_held3 (fun w' => w'.cell? ⟨cb, 1, none⟩ = some (.int .i64 r) ∧ w'.cell? ⟨g, 0, none⟩ = some (.int .i64 0) ∧ w'.cell? ⟨g, 1, none⟩ = some (.int .u32 0)) (first | exact s0 | exact s1)
      (first | (go_at_call 17; refine (HNEW.out _).mono ?_; rintro e w3 ⟨x, rfl, he, hk⟩; have s1 : w3.cell? ⟨cb, 1, none⟩ = some (.int .i64 r) ∧ w3.cell? ⟨g, 0, none⟩ = some (.int .i64 0) ∧ w3.cell? ⟨g, 1, none⟩ = some (.int .u32 0) := ⟨hk.cell s0.1 id, hk.cell s0.2.1 id, hk.cell s0.2.2 id⟩; have HE3 := hid he; have HK3 := hid (show Kept (fun _ => False) w2 w3 from HK4.out.trans ((Kept.refl _ _).drew.trans hk)); have HK34 := hid (show Kept (fun _ => False) w4 w3 from ((Kept.refl _ _).drew.trans hk)); clear he hk s0))
    have HCR3 := hid s1.1
    clear s1
    go_wp2_with fail
    go_loopw [6, 7] (fun z i wr => x = z ∧ w3 = wr ∧ i = .int .i64 (-1)) (fun _ _ _ => 0)
    case atStart => exact ⟨rfl, rfl, rfl⟩
    case round =>
      obtain ⟨rfl, rfl, rfl⟩ := hrel
      have c1 := HCR3.out
      have hrb := (HK3.out.block rb (row_lt HR2.out) id).trans HR2.out
      have e0 := row_cell hrb 0
      have e1 := row_cell hrb 1
      have f0 := row_free hrb 0
      have f1 := row_free hrb 1
      simp at e0 e1 f0 f1
      go_wp2_with fail
      have HG3 := hid ((HK34.out.block g (row_lt R4.out) id).trans R4.out); have HPZ := hid (HP4.out.same HK34.out); have HKZ := hid (HK.out.trans HK3.out); have HE := HE3
      go_region
      have hk9 : Kept (fun k => k = rb) w3 ((w3.setCell ⟨rb, 0, none⟩ (.slice (some ⟨g, 0, none⟩) 1 1)).setCell ⟨rb, 1, none⟩ (.int .i64 r)).drew :=
        (Kept.setCell (F := fun k => k = rb) (Kept.setCell (F := fun k => k = rb) (Kept.refl _ _) (p := ⟨rb, 0, none⟩) (.inl rfl) _) (p := ⟨rb, 1, none⟩) (.inl rfl) _).drew
      have hB9 : ∀ (bk : Nat) (cs : Array Value), w3.heap[bk]? = some (.cells cs 59 (0, 0)) → (((w3.setCell ⟨rb, 0, none⟩ (.slice (some ⟨g, 0, none⟩) 1 1)).setCell ⟨rb, 1, none⟩ (.int .i64 r)).drew).heap[bk]? = some (.cells cs 59 (0, 0)) := by
        intro bk cs hb9
        rw [hk9.block bk (row_lt hb9) (fun e => by rw [e, hrb] at hb9; simp at hb9)]
        exact hb9
      have y0 : (((w3.setCell ⟨rb, 0, none⟩ (.slice (some ⟨g, 0, none⟩) 1 1)).setCell ⟨rb, 1, none⟩ (.int .i64 r)).drew).cell? ⟨rb, 0, none⟩ = some (.slice (some ⟨g, 0, none⟩) 1 1) := by
        show ((w3.setCell ⟨rb, 0, none⟩ (.slice (some ⟨g, 0, none⟩) 1 1)).setCell ⟨rb, 1, none⟩ (.int .i64 r)).cell? ⟨rb, 0, none⟩ = _
        rw [World.cell?_setCell_other _ _ _ _ (by simp)]
        exact World.cell?_setCell_same _ _ _ e0
      have y1 : (((w3.setCell ⟨rb, 0, none⟩ (.slice (some ⟨g, 0, none⟩) 1 1)).setCell ⟨rb, 1, none⟩ (.int .i64 r)).drew).cell? ⟨rb, 1, none⟩ = some (.int .i64 r) := by
        show ((w3.setCell ⟨rb, 0, none⟩ (.slice (some ⟨g, 0, none⟩) 1 1)).setCell ⟨rb, 1, none⟩ (.int .i64 r)).cell? ⟨rb, 1, none⟩ = _
        exact World.cell?_setCell_same _ _ _ (u := .int .i64 0) (by rw [World.cell?_setCell_other _ _ _ _ (by simp)]; exact e1)
      obtain ⟨wz, hwz⟩ : ∃ wz, ((w3.setCell ⟨rb, 0, none⟩ (.slice (some ⟨g, 0, none⟩) 1 1)).setCell ⟨rb, 1, none⟩ (.int .i64 r)).drew = wz := ⟨_, rfl⟩
      rw [hwz] at hk9 hB9 y0 y1 ⊢
      have HK9 := hid hk9; have HB9 := hid hB9
      clear hwz hk9 hB9 e0 e1 f0 f1 hrb c1
      go_wp2_with fail
      refine bodyPost_ret (v := .tuple #[x, .agg #[.slice (some ⟨g, 0, none⟩) 1 1, .int .i64 r]]) (by simp [results, Tryd.results8, go_sem, y0, y1]) rfl ⟨_, _, rfl, ?_, ?_, ?_, ?_⟩
      · exact HE.out.blocks HB9.out
      · exact (HPZ.out.kept HK9.out (fun g _ e => e)).mono (fun _ _ h => h.elim)
      · exact HKZ.out.trans' HK9.out (fun i hi => .inr (by rw [hi]; exact HRB.out))
      · exact .inr ⟨g, rfl, HCUT.out, (HK9.out.block g (row_lt HG3.out) HGR.out).trans HG3.out⟩
  · have hN1 : 1 ≤ N := by have := List.length_pos_iff.2 hA; omega
    have hN30 : N ≤ 30 := by omega
    have HPRE := hid (show Lies (fun g => g = rb) w2 2 (.slice ao N cc) (cut A).length (lcells (cut A)) by
      have h1 := ll_pre HLL.out rfl (n := N) (by omega)
      have e : cut A = A.take N := by
        unfold cut; rw [if_neg hA, ← hN, List.take_eq_take_iff]; omega
      have e2 : (cut A).length = N := by rw [e, List.length_take]; omega
      rw [e2, e]; exact h1)
    have hNz : ((N : Int) == 0) = false := by simp; omega
    have HCT := hid (show cut A = A.take (cut A).length ∧ (cut A).length ≤ A.length by
      have e : cut A = A.take N := by unfold cut; rw [if_neg hA, ← hN, List.take_eq_take_iff]; omega
      have e2 : (cut A).length = N := by rw [e, List.length_take]; omega
      exact ⟨by rw [e2]; exact e, by rw [e2]; omega⟩)
    clear hA hN hmx
    go_wp2_with (refine wpList_min rfl (.tmp 12) (.const (.int .i64 30)) _ rfl (A.length : Int) 30 N rfl rfl HNI.out ?_)
    clear hw1 hw2 hcb hrb
    have hcl : (cut A).length = N := by obtain ⟨_, _, e, _⟩ := HPRE.out; simp only [Value.slice.injEq] at e; exact e.2.1.symm
    obtain ⟨n, hn⟩ : ∃ n, N = n + 1 := ⟨N - 1, by omega⟩
    have HN := hid hn
    obtain ⟨l, hl⟩ : ∃ l, (cut A)[n]? = some l := ⟨_, List.getElem?_eq_getElem (by omega)⟩
    obtain ⟨g, off, c, hv, d0, d1⟩ := ll_at (HPRE.out.mono (fun _ _ h => h.elim)) hl
    simp only [Value.slice.injEq] at hv
    obtain ⟨rfl, hx, rfl⟩ := hv
    obtain ⟨o, q⟩ := l
    simp only at d0 d1
    have HNEW := hid (fun w => new_any r (o, q) w)
    simp only at HNEW
    have HDR := hid (show (cut A).drop n = [(o, q)] by
      rw [List.drop_eq_getElem_cons (by omega), List.drop_eq_nil_of_le (by omega)]
      have := (List.getElem?_eq_some_iff.1 hl).2
      rw [this])
    have s0 : (w2.drew).cell? ⟨cb, 1, none⟩ = some (.int .i64 r) ∧ (w2.drew).cell? ⟨g, off + n * 2, none⟩ = some (.int .i64 o) ∧ (w2.drew).cell? ⟨g, off + n * 2 + 1, none⟩ = some (.int .u32 q) := ⟨c1, d0, d1⟩
    have hnI : (n : Int) ≤ 29 := by omega
    have hnN : (n : Int) < (N : Int) := by omega
    have hs1 : IntKind.i64.wrap ((N : Int) - 1) = (n : Int) := by simp [IntKind.wrap, IntKind.bits, IntKind.signed]; omega
    have hs2 : IntKind.i64.wrap ((N : Int) - 2) = (n : Int) - 1 := by simp [IntKind.wrap, IntKind.bits, IntKind.signed]; omega
    have HCL := hid hcl
    clear hl d0 d1 hn hx hcl
    go_region_held3 (fun w' => w'.cell? ⟨cb, 1, none⟩ = some (.int .i64 r) ∧ w'.cell? ⟨g, off + n * 2, none⟩ = some (.int .i64 o) ∧ w'.cell? ⟨g, off + n * 2 + 1, none⟩ = some (.int .u32 q)) (first | exact s0 | exact s1)
      (first | (go_at_call 17; refine (HNEW.out _).mono ?_; rintro e w3 ⟨x, rfl, he, hk⟩; have s1 : w3.cell? ⟨cb, 1, none⟩ = some (.int .i64 r) ∧ w3.cell? ⟨g, off + n * 2, none⟩ = some (.int .i64 o) ∧ w3.cell? ⟨g, off + n * 2 + 1, none⟩ = some (.int .u32 q) := ⟨hk.cell s0.1 id, hk.cell s0.2.1 id, hk.cell s0.2.2 id⟩; have HE3 := hid he; have HK3 := hid (show Kept (fun _ => False) w2 w3 from (Kept.refl _ _).drew.trans hk); clear he hk s0))
    have HCR3 := hid s1.1
    clear s1
    go_wp2_with fail
    go_loopw [6, 7] (fun x i wr => ∃ (k : Nat) (y : Value), y = x ∧ k ≤ n ∧ i = .int .i64 ((k : Int) - 1) ∧ ErO wr y ((cut A).drop k) r ∧ Kept (fun _ => False) w3 wr) (fun _ i _ => (RowKit.intOf i + 1).toNat)
    case atStart => exact ⟨n, _, rfl, Nat.le_refl _, rfl, by rw [HDR.out]; exact HE3.out, Kept.refl _ _⟩
    case round =>
      rename World => wr
      obtain ⟨k, y, rfl, hk, rfl, he, hkp⟩ := hrel
      have HE := hid he; have HKP := hid hkp
      clear he hkp
      cases k with
      | zero =>
        have hneg : ((((0 : Nat) : Int)) - 1) = -1 := rfl
        rw [hneg]
        have c1 := HKP.out.cell HCR3.out id
        have hrb := ((HK3.out.trans HKP.out).block rb (row_lt HR2.out) id).trans HR2.out
        have e0 := row_cell hrb 0
        have e1 := row_cell hrb 1
        have f0 := row_free hrb 0
        have f1 := row_free hrb 1
        simp at e0 e1 f0 f1
        go_wp2_with fail
        have HPZ := hid (HPRE.out.same (HK3.out.trans HKP.out)); have HKZ := hid ((HK.out.trans HK3.out).trans HKP.out)
        go_region
        have hk9 : Kept (fun k => k = rb) wr ((wr.setCell ⟨rb, 0, none⟩ (.slice (some ⟨g, off, none⟩) N cc)).setCell ⟨rb, 1, none⟩ (.int .i64 r)).drew :=
          (Kept.setCell (F := fun k => k = rb) (Kept.setCell (F := fun k => k = rb) (Kept.refl _ _) (p := ⟨rb, 0, none⟩) (.inl rfl) _) (p := ⟨rb, 1, none⟩) (.inl rfl) _).drew
        have hB9 : ∀ (bk : Nat) (cs : Array Value), wr.heap[bk]? = some (.cells cs 59 (0, 0)) → (((wr.setCell ⟨rb, 0, none⟩ (.slice (some ⟨g, off, none⟩) N cc)).setCell ⟨rb, 1, none⟩ (.int .i64 r)).drew).heap[bk]? = some (.cells cs 59 (0, 0)) := by
          intro bk cs hb9
          rw [hk9.block bk (row_lt hb9) (fun e => by rw [e, hrb] at hb9; simp at hb9)]
          exact hb9
        have y0 : (((wr.setCell ⟨rb, 0, none⟩ (.slice (some ⟨g, off, none⟩) N cc)).setCell ⟨rb, 1, none⟩ (.int .i64 r)).drew).cell? ⟨rb, 0, none⟩ = some (.slice (some ⟨g, off, none⟩) N cc) := by
          show ((wr.setCell ⟨rb, 0, none⟩ (.slice (some ⟨g, off, none⟩) N cc)).setCell ⟨rb, 1, none⟩ (.int .i64 r)).cell? ⟨rb, 0, none⟩ = _
          rw [World.cell?_setCell_other _ _ _ _ (by simp)]
          exact World.cell?_setCell_same _ _ _ e0
        have y1 : (((wr.setCell ⟨rb, 0, none⟩ (.slice (some ⟨g, off, none⟩) N cc)).setCell ⟨rb, 1, none⟩ (.int .i64 r)).drew).cell? ⟨rb, 1, none⟩ = some (.int .i64 r) := by
          show ((wr.setCell ⟨rb, 0, none⟩ (.slice (some ⟨g, off, none⟩) N cc)).setCell ⟨rb, 1, none⟩ (.int .i64 r)).cell? ⟨rb, 1, none⟩ = _
          exact World.cell?_setCell_same _ _ _ (u := .int .i64 0) (by rw [World.cell?_setCell_other _ _ _ _ (by simp)]; exact e1)
        obtain ⟨wz, hwz⟩ : ∃ wz, ((wr.setCell ⟨rb, 0, none⟩ (.slice (some ⟨g, off, none⟩) N cc)).setCell ⟨rb, 1, none⟩ (.int .i64 r)).drew = wz := ⟨_, rfl⟩
        rw [hwz] at hk9 hB9 y0 y1 ⊢
        have HK9 := hid hk9; have HB9 := hid hB9
        clear hwz hk9 hB9 e0 e1 f0 f1 hrb c1
        go_wp2_with fail
        refine bodyPost_ret (v := .tuple #[y, .agg #[.slice (some ⟨g, off, none⟩) N cc, .int .i64 r]]) (by simp [results, Tryd.results8, go_sem, y0, y1]) rfl ⟨_, _, rfl, ?_, ?_, ?_, ?_⟩
        · exact HE.out.blocks HB9.out
        · exact (HPZ.out.kept HK9.out (fun g _ e => e)).mono (fun _ _ h => h.elim)
        · exact HKZ.out.trans' HK9.out (fun i hi => .inr (by rw [hi]; exact HRB.out))
        · exact .inl ⟨_, _, rfl, by rw [HCL.out], HCT.out.1, HCT.out.2⟩
      | succ j =>
        have hjj : (((j + 1 : Nat) : Int) - 1) = (j : Int) := by omega
        rw [hjj]
        have hj30 : (j : Int) ≤ 30 := by omega
        have hjN : (j : Int) < (N : Int) := by omega
        have hj0 : (0 : Int) ≤ (j : Int) := by omega
        have hjl : j < (cut A).length := by rw [HCL.out]; omega
        have HJ := hid hk
        obtain ⟨l2, hl2⟩ : ∃ l, (cut A)[j]? = some l := ⟨_, List.getElem?_eq_getElem hjl⟩
        obtain ⟨o2, q2⟩ := l2
        have HDJ := hid (show (cut A).drop j = (o2, q2) :: (cut A).drop (j + 1) by
          rw [List.drop_eq_getElem_cons hjl]
          have := (List.getElem?_eq_some_iff.1 hl2).2
          rw [this])
        obtain ⟨g2, off2, c2, hv2, d0, d1⟩ := ll_at ((HPRE.out.same (HK3.out.trans HKP.out)).mono (fun _ _ h => h.elim)) hl2
        simp only [Value.slice.injEq, Option.some.injEq, Addr.mk.injEq] at hv2
        obtain ⟨⟨rfl, rfl, _⟩, hx, rfl⟩ := hv2
        simp only at d0 d1
        have HWR := hid (show Calls Tryd.prog 16 #[y, .int .i64 o2, .int .u32 q2] wr.drew fun e w' => ∃ v, e = .returned v ∧ ErO w' v ((o2, q2) :: (cut A).drop (j + 1)) r ∧ Kept (fun _ => False) wr.drew w' from wrap_any (l := (o2, q2)) (HE.out.kept (Kept.refl _ _).drew))
        have s0 : wr.drew.cell? ⟨g, off + j * 2, none⟩ = some (.int .i64 o2) ∧ wr.drew.cell? ⟨g, off + j * 2 + 1, none⟩ = some (.int .u32 q2) := ⟨d0, d1⟩
        clear d0 d1 hx hl2 hjl hk
        go_wp2_with fail
        go_region_held3 (fun w' => w'.cell? ⟨g, off + j * 2, none⟩ = some (.int .i64 o2) ∧ w'.cell? ⟨g, off + j * 2 + 1, none⟩ = some (.int .u32 q2)) (first | exact s0 | exact s1)
          (first | (go_at_call 16; refine HWR.out.mono ?_; rintro e w4 ⟨x2, rfl, he, hk⟩; have s1 : w4.cell? ⟨g, off + j * 2, none⟩ = some (.int .i64 o2) ∧ w4.cell? ⟨g, off + j * 2 + 1, none⟩ = some (.int .u32 q2) := ⟨hk.cell s0.1 id, hk.cell s0.2 id⟩; have HE4 := hid he; have HK4 := hid (show Kept (fun _ => False) wr w4 from (Kept.refl _ _).drew.trans hk); clear he hk s0))
        clear s1
        go_wp2_with fail
        go_roundw
        case rel => exact ⟨j, _, rfl, by have := HJ.out; omega, rfl, by rw [HDJ.out]; exact HE4.out, HKP.out.trans HK4.out⟩
        case measure => (simp only [RowKit.intOf]; omega)
end Go.Proofs.YtlkhbepmkembgaaDoor
