/- The document's Owner. -/
import Derived.Test.YtekapdankpamiaaG
namespace Go.Proofs.Ytekapdankpamiaa
open Go.RowKit
theorem own_some {n : Int} {g : Int → Option (Int × Int)} {v : Int} (h : (g v).isSome = true) : own n g v = (g v).getD (0, 0) := by
  obtain ⟨p, hp⟩ := Option.isSome_iff_exists.1 h
  simp [own, hp]
theorem own_none {n : Int} {g : Int → Option (Int × Int)} {v : Int} (h : ¬ (g v).isSome = true) : own n g v = (v % n, 0) := by
  have : g v = none := by simpa using h
  simp [own, this]
/-- a block of three cells is written whole -/
theorem three_set {w : World} {b T : Nat} {a0 a1 a2 : Value} (h : w.heap[b]? = some (.cells #[a0, a1, a2] T (0, 0))) (x y z : Value) :
    ∃ w', ((w.setCell ⟨b, 0, none⟩ x).setCell ⟨b, 1, none⟩ y).setCell ⟨b, 2, none⟩ z = w' ∧ w'.heap[b]? = some (.cells #[x, y, z] T (0, 0)) ∧ Kept (fun i => i = b) w w' :=
  ⟨_, rfl, row_set (row_set (row_set h 0 x) 1 y) 2 z,
    (((Kept.refl (fun i => i = b) w).setCell (p := ⟨b, 0, none⟩) (.inl rfl) _).setCell (p := ⟨b, 1, none⟩) (.inl rfl) _).setCell (p := ⟨b, 2, none⟩) (.inl rfl) _⟩
theorem three_cells {w : World} {b T : Nat} {x y z : Value} (h : w.heap[b]? = some (.cells #[x, y, z] T (0, 0))) : w.cell? ⟨b, 0, none⟩ = some x ∧ w.cell? ⟨b, 1, none⟩ = some y ∧ w.cell? ⟨b, 2, none⟩ = some z :=
  ⟨by rw [row_cell h]; rfl, by rw [row_cell h]; rfl, by rw [row_cell h]; rfl⟩
theorem three_free {w : World} {b T : Nat} {x y z : Value} (h : w.heap[b]? = some (.cells #[x, y, z] T (0, 0))) : w.frozen? ⟨b, 0, none⟩ = false ∧ w.frozen? ⟨b, 1, none⟩ = false ∧ w.frozen? ⟨b, 2, none⟩ = false := ⟨row_free h 0, row_free h 1, row_free h 2⟩
set_option maxRecDepth 100000 in
set_option maxHeartbeats 1000000 in
theorem rowner_any {w : World} {yb : Nat} {n : Int} {g : Int → Option (Int × Int)} (h : RD w yb n g) (hd : Dom g) (hn : 0 < n ∧ n ≤ 4) (v : Int) (hv : 0 ≤ v ∧ v ≤ 4294967295) :
    Calls Try.prog 24 #[.pointer (some ⟨yb, 0, none⟩), .int .u32 v] w fun e w' => e = .returned (.agg #[.int .u32 v, .int .u8 (own n g v).1, .int .u32 (own n g v).2]) ∧ Kept (fun _ => False) w w' := by
  obtain ⟨vs, hy, ho⟩ := h
  obtain ⟨a, c, rfl⟩ := ho.isSlice
  obtain ⟨n0, n4⟩ := hn
  obtain ⟨v0, v1⟩ := hv
  have m0 : 0 ≤ v % n := Int.emod_nonneg _ (by omega)
  have m1 : v % n < 4 := by have := Int.emod_lt_of_pos v n0; omega
  have hl := ho.lies (ecells_one g (doms g)) (F := fun _ => False) (fun _ _ => id)
  have HM := hid (fun v => mem_doms (v := v) hd)
  have hdl := doms_len g
  obtain ⟨D, hD⟩ : ∃ D, doms g = D := ⟨_, rfl⟩
  rw [hD] at hl hdl HM hy
  obtain ⟨N, hN⟩ : ∃ N, D.length = N := ⟨_, rfl⟩
  rw [hN] at hl hy hdl
  have HN := hid hN
  have hylt := row_lt hy
  have HL := hid hl; have HY := hid hy
  have k0 := (Kept.refl (fun _ => False) w).alloc (.cells #[.int .u32 0, .int .u8 0, .int .u32 0] 33)
  have rr := row_new w (.cells #[.int .u32 0, .int .u8 0, .int .u32 0] 33)
  clear hl hy hD hN ho
  go_enter Try.func24, Try.ntmps24
  obtain ⟨w1, hw1⟩ : ∃ w1, w.alloc (.cells #[.int .u32 0, .int .u8 0, .int .u32 0] 33) = w1 := ⟨_, rfl⟩
  have c0 : w1.cell? ⟨yb, 0, none⟩ = some (.int .i64 n) := by rw [← hw1, k0.cell (row_cell HY.out 0) id]; rfl
  have c1 : w1.cell? ⟨yb, 1, none⟩ = some (.slice a N c) := by rw [← hw1, k0.cell (row_cell HY.out 1) id]; rfl
  rw [hw1] at k0 rr
  obtain ⟨rb, hrb⟩ : ∃ rb, w.heap.size = rb := ⟨_, rfl⟩
  rw [hrb] at rr
  go_wp2_with fail
  have K0 := hid k0; have RR := hid rr
  have HB := hid (show w.heap.size ≤ rb by omega)
  clear hw1 hrb k0 rr c0 c1
  go_loopw [12] (fun i wr => ∃ k : Nat, k ≤ N ∧ i = .int .i64 k ∧ Kept (fun _ => False) w1 wr ∧ ∀ (j : Nat) (x : Int), j < k → D[j]? = some x → x ≠ v) (fun i _ => N - (RowKit.intOf i).toNat)
  case atStart => exact ⟨0, Nat.zero_le _, rfl, Kept.refl _ _, fun j x h => absurd h (Nat.not_lt_zero _)⟩
  case round =>
    rename World => wA
    obtain ⟨k, hk, rfl, hkp, hne⟩ := hrel
    have K := hid hkp; have HNE := hid hne
    clear hkp hne
    by_cases hlt : k < N
    · have hltI : (k : Int) < (N : Int) := by omega
      obtain ⟨x, hx⟩ : ∃ x, D[k]? = some x := ⟨_, List.getElem?_eq_getElem (by rw [HN.out]; exact hlt)⟩
      have hs := (HM.out x).1 (List.mem_of_getElem? hx)
      obtain ⟨x0, x1, x2⟩ := ent_cells (g := g) D k x hx
      rw [← own_some (n := n) hs] at x1 x2
      obtain ⟨o, ep, hop⟩ : ∃ o ep, own n g x = (o, ep) := ⟨_, _, rfl⟩
      rw [hop] at x1 x2
      obtain ⟨g1, o1, q1, e1, m1, m2, _, _, z1⟩ := ((HL.out.same K0.out).same K.out).cell (by omega)
      simp only [Value.slice.injEq] at e1
      obtain ⟨rfl, _, rfl⟩ := e1
      have a0 := z1 _ _ x0
      have a1 := z1 _ _ x1
      have a2 := z1 _ _ x2
      rw [← Nat.add_assoc] at a1 a2
      unfold maxLen at m2
      simp only at a1 a2
      have HX := hid hx; have HOP := hid hop
      have hrr := (K.out.alloc (.cells #[.int .u32 x, .int .u8 o, .int .u32 ep] 33)).block _ (row_lt RR.out) id
      have rr := hrr.trans RR.out
      have f0 := row_free rr 0
      have f1 := row_free rr 1
      have f2 := row_free rr 2
      have r0 := row_cell rr 0
      have r1 := row_cell rr 1
      have r2 := row_cell rr 2
      simp only [List.getElem?_toArray, List.getElem?_cons_zero, List.getElem?_cons_succ] at r0 r1 r2
      have hrne : rb ≠ wA.heap.size := by have := row_lt RR.out; have := K.out.size; omega
      have RX := hid rr; have KX := hid (K0.out.trans (K.out.alloc (.cells #[.int .u32 x, .int .u8 o, .int .u32 ep] 33)))
      clear x0 x1 x2 hx z1 hs hop hrr rr
      by_cases hxv : x = v
      · have HE := hid hxv
        have hb : (x == v) = true := by simpa using hxv
        clear hxv
        go_wp2
        obtain ⟨wZ, hZ, h1, h2⟩ := three_set RX.out (.int .u32 x) (.int .u8 o) (.int .u32 ep)
        rw [hZ]
        obtain ⟨y0, y1, y2⟩ := three_cells h1
        have KZ := hid (KX.out.trans' h2 (fun i e => .inr (by have := HB.out; omega)))
        clear hZ h1 h2
        refine bodyPost_ret (v := .agg #[.int .u32 x, .int .u8 o, .int .u32 ep]) (by simp [results, Try.results24, go_sem, y0, y1, y2]) rfl ?_
        refine ⟨?_, KZ.out⟩
        have e1 := HE.out
        have e2 := HOP.out
        subst e1
        rw [e2]
      · have hb : (x == v) = false := by simpa using hxv
        go_wp2
        go_roundw
        case rel => exact ⟨k + 1, by omega, by go_num, K.out.alloc _, fun j y hj hy => by
          rcases Nat.lt_succ_iff_lt_or_eq.1 hj with h1 | rfl
          · exact HNE.out j y h1 hy
          · have := HX.out.symm.trans hy; simp at this; rw [← this]; exact hxv⟩
        case measure => (simp only [RowKit.intOf]; omega)
    · obtain rfl : k = N := by omega
      have hno : ¬ (g v).isSome = true := fun h => by
        obtain ⟨j, hj⟩ := List.mem_iff_getElem?.1 ((HM.out v).2 h)
        have := (List.getElem?_eq_some_iff.1 hj).1
        exact HNE.out j v (by rw [← HN.out]; exact this) hj rfl
      have HO := hid (own_none (n := n) hno)
      have rr := (K.out.block _ (row_lt RR.out) id).trans RR.out
      have c0 : wA.cell? ⟨yb, 0, none⟩ = some (.int .i64 n) := (K0.out.trans K.out).cell (row_cell HY.out 0) id
      have f0 := row_free rr 0
      have f1 := row_free rr 1
      have f2 := row_free rr 2
      have r0 := row_cell rr 0
      have r1 := row_cell rr 1
      have r2 := row_cell rr 2
      simp only [List.getElem?_toArray, List.getElem?_cons_zero, List.getElem?_cons_succ] at r0 r1 r2
      have RX := hid rr; have KX := hid (K0.out.trans K.out)
      clear hno rr
      go_wp2
      obtain ⟨wZ, hZ, h1, h2⟩ := three_set RX.out (.int .u32 v) (.int .u8 (v % n)) (.int .u32 0)
      rw [hZ]
      obtain ⟨y0, y1, y2⟩ := three_cells h1
      have KZ := hid (KX.out.trans' h2 (fun i e => .inr (by have := HB.out; omega)))
      clear hZ h1 h2
      refine bodyPost_ret (v := .agg #[.int .u32 v, .int .u8 (v % n), .int .u32 0]) (by simp [results, Try.results24, go_sem, y0, y1, y2]) rfl ?_
      refine ⟨?_, KZ.out⟩
      rw [HO.out]
end Go.Proofs.Ytekapdankpamiaa
