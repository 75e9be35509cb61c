/- MinFunc, Eldest. -/
import Derived.Test.YtfkkfjmdpkgicaaN
import Derived.Deep.RegionHeld3
namespace Go.Proofs.Ytfkkfjmdpkgicaa
open Go.RowKit Go.Shelf
def minS (m : Sp) (L : List Sp) : Sp := L.foldl (fun m y => if eldS y m then y else m) m
theorem kept_grow {F : Nat → Prop} (w : World) (q : Nat) (os : Array Obj) : Kept F w (Go.Sort.grow (w.drewN q) os) := by
  refine ⟨rfl, rfl, rfl, ?_, fun i hi _ => ?_⟩
  · simp [Go.Sort.grow, World.drewN]
  · show (w.heap ++ os)[i]? = w.heap[i]?
    exact Array.getElem?_append_left hi
theorem four_set {w : World} {b T : Nat} {a0 a1 a2 a3 : Value} (h : w.heap[b]? = some (.cells #[a0, a1, a2, a3] T (0, 0))) (x y z u : Value) :
    ∃ w', (((w.setCell ⟨b, 0, none⟩ x).setCell ⟨b, 1, none⟩ y).setCell ⟨b, 2, none⟩ z).setCell ⟨b, 3, none⟩ u = w' ∧ w'.heap[b]? = some (.cells #[x, y, z, u] T (0, 0)) ∧ Kept (fun i => i = b) w w' :=
  ⟨_, rfl, row_set (row_set (row_set (row_set h 0 x) 1 y) 2 z) 3 u,
    ((((Kept.refl (fun i => i = b) w).setCell (p := ⟨b, 0, none⟩) (.inl rfl) _).setCell (p := ⟨b, 1, none⟩) (.inl rfl) _).setCell (p := ⟨b, 2, none⟩) (.inl rfl) _).setCell (p := ⟨b, 3, none⟩) (.inl rfl) _⟩
theorem four_free {w : World} {b T : Nat} {x y z u : Value} (h : w.heap[b]? = some (.cells #[x, y, z, u] T (0, 0))) : w.frozen? ⟨b, 0, none⟩ = false ∧ w.frozen? ⟨b, 1, none⟩ = false ∧ w.frozen? ⟨b, 2, none⟩ = false ∧ w.frozen? ⟨b, 3, none⟩ = false := ⟨row_free h 0, row_free h 1, row_free h 2, row_free h 3⟩
def stC (x : Sp) : Array Value := #[.int .u64 x.1, .int .u8 x.2.1, .int .u32 x.2.2.1, .int .u32 x.2.2.2]
set_option maxRecDepth 100000 in
set_option maxHeartbeats 2000000 in
theorem minfunc_any {F : Nat → Prop} {w : World} {a : Option Addr} {N c : Nat} {y : Sp} {L : List Sp} (h : Lies F w 4 (.slice a N c) N ((y :: L).flatMap encS)) (hLN : (y :: L).length = N) (hN : N ≤ 1000000) :
    Calls Try.prog 28 #[.slice a N c, .func (.func 14) #[] #[]] w fun e w' => e = .returned (sv (minS y L)) ∧ Kept (fun _ => False) w w' := by
  obtain ⟨hc1, hc2⟩ := lies_cap h
  unfold maxLen at hc2
  have HL := hid h; have HN := hid hLN
  have hN1 : 1 ≤ N := by rw [← hLN]; simp
  have hlt1 : ¬ (N : Int) < 1 := by omega
  have k1 := (Kept.refl (fun _ => False) w).alloc (.cells #[.int .u64 0, .int .u8 0, .int .u32 0, .int .u32 0] 48)
  have hr1 := row_new w (.cells #[.int .u64 0, .int .u8 0, .int .u32 0, .int .u32 0] 48)
  obtain ⟨g, o, rfl, q0, q1, q2, q3⟩ := st_cells HL.out HN.out k1 (i := 0) (x := y) rfl
  obtain ⟨w1, hw1⟩ : ∃ w1, w.alloc (.cells #[.int .u64 0, .int .u8 0, .int .u32 0, .int .u32 0] 48) = w1 := ⟨_, rfl⟩
  obtain ⟨rb, hrb⟩ : ∃ rb, w.heap.size = rb := ⟨_, rfl⟩
  rw [hw1] at k1 hr1 q0 q1 q2 q3
  rw [hrb] at hr1
  simp only [Nat.zero_mul, Nat.add_zero] at q0 q1 q2 q3
  obtain ⟨y1, y2, y3, y4⟩ := y
  simp only at q0 q1 q2 q3
  have K1 := hid k1; have R1 := hid hr1; have HRB := hid (Nat.le_of_eq hrb)
  clear h hLN k1 hr1
  go_enter Try.func28, Try.ntmps28
  go_wp2_with fail
  have hr2 := row_new w1 (.cells #[.int .u64 y1, .int .u8 y2, .int .u32 y3, .int .u32 y4] 48)
  have k2 := (Kept.refl (fun _ => False) w1).alloc (.cells #[.int .u64 y1, .int .u8 y2, .int .u32 y3, .int .u32 y4] 48)
  obtain ⟨w2, hw2⟩ : ∃ w2, w1.alloc (.cells #[.int .u64 y1, .int .u8 y2, .int .u32 y3, .int .u32 y4] 48) = w2 := ⟨_, rfl⟩
  obtain ⟨mb, hmb⟩ : ∃ mb, w1.heap.size = mb := ⟨_, rfl⟩
  rw [hw2] at hr2 k2 ⊢
  rw [hmb] at hr2 ⊢
  have R2 := hid hr2; have K2 := hid (K1.out.trans k2)
  have HMB := hid (show w.heap.size ≤ mb by have := K1.out.size; omega)
  have RB2 := hid ((k2.block rb (row_lt R1.out) id).trans R1.out)
  have HNE := hid (show rb ≠ mb by have := row_lt R1.out; omega)
  clear hr2 k2 hw2 hmb hw1 hrb q0 q1 q2 q3 K1 R1 hlt1
  go_loopw [6] (fun i wr => ∃ (k : Nat) (m : Sp), 1 ≤ k ∧ k ≤ N ∧ i = .int .i64 k ∧ minS (y1, y2, y3, y4) (L.take (k - 1)) = m ∧ wr.heap[mb]? = some (.cells #[.int .u64 m.1, .int .u8 m.2.1, .int .u32 m.2.2.1, .int .u32 m.2.2.2] 48 (0, 0)) ∧ wr.heap[rb]? = some (.cells #[.int .u64 0, .int .u8 0, .int .u32 0, .int .u32 0] 48 (0, 0)) ∧ Kept (fun _ => False) w wr) (fun i _ => N - (RowKit.intOf i).toNat)
  case atStart => exact ⟨1, (y1, y2, y3, y4), Nat.le_refl _, hN1, rfl, rfl, R2.out, RB2.out, K2.out⟩
  case round =>
    rename World => wr
    obtain ⟨k, m, hk1, hk, rfl, hm, hmr, hrr, hkp⟩ := hrel
    have HM := hid hm; have MR := hid hmr; have RR := hid hrr; have KR := hid hkp
    clear hm hmr hrr hkp R2 K2 RB2
    obtain ⟨m1, m2, m3, m4⟩ := m
    by_cases hlt : k < N
    · have hltI : (k : Int) < (N : Int) := by omega
      obtain ⟨j, rfl⟩ : ∃ j, k = j + 1 := ⟨k - 1, by omega⟩
      obtain ⟨x, hx⟩ : ∃ x, L[j]? = some x := ⟨_, List.getElem?_eq_getElem (by have := HN.out; simp at this; omega)⟩
      obtain ⟨g', o', e', q0, q1, q2, q3⟩ := st_cells HL.out HN.out KR.out (i := j + 1) (x := x) (by simpa using hx)
      simp only [Option.some.injEq, Addr.mk.injEq] at e'
      obtain ⟨rfl, rfl, _⟩ := e'
      obtain ⟨x1, x2, x3, x4⟩ := x
      obtain ⟨e0, e1, e2, e3⟩ := cells4' MR.out
      simp only at q0 q1 q2 q3 e0 e1 e2 e3
      have HT := hid (show minS (y1, y2, y3, y4) (L.take (j + 1)) = if eldS (x1, x2, x3, x4) (m1, m2, m3, m4) then (x1, x2, x3, x4) else (m1, m2, m3, m4) by rw [List.take_add_one, hx]; simp only [minS, Option.toList_some, List.foldl_append, List.foldl_cons, List.foldl_nil]; have h := HM.out; simp only [Nat.add_sub_cancel, minS] at h; rw [h])
      obtain ⟨co, hco⟩ : ∃ co, ordS (x1, x2, x3, x4) (m1, m2, m3, m4) = co := ⟨_, rfl⟩
      have HCO := hid hco
      have HNEG := hid (show co < 0 ↔ eldS (x1, x2, x3, x4) (m1, m2, m3, m4) from by rw [← hco]; exact ordS_neg)
      have HOC := hid (fun W => order_grow (x1, x2, x3, x4) (m1, m2, m3, m4) W)
      obtain ⟨k, hkk⟩ : ∃ k, j + 1 = k := ⟨_, rfl⟩
      rw [hkk] at q0 q1 q2 q3 HT hlt hltI hk hk1 ⊢
      have HKK := hid hkk
      clear hx hco hkk
      go_wp2_with fail
      have s0 : wr.cell? ⟨g, o + k * 4, none⟩ = some (.int .u64 x1) ∧ wr.cell? ⟨g, o + k * 4 + 1, none⟩ = some (.int .u8 x2) ∧ wr.cell? ⟨g, o + k * 4 + 2, none⟩ = some (.int .u32 x3) ∧ wr.cell? ⟨g, o + k * 4 + 3, none⟩ = some (.int .u32 x4) ∧ wr.cell? ⟨mb, 0, none⟩ = some (.int .u64 m1) ∧ wr.cell? ⟨mb, 1, none⟩ = some (.int .u8 m2) ∧ wr.cell? ⟨mb, 2, none⟩ = some (.int .u32 m3) ∧ wr.cell? ⟨mb, 3, none⟩ = some (.int .u32 m4) := ⟨q0, q1, q2, q3, e0, e1, e2, e3⟩
      have s1 : wr.drew.cell? ⟨g, o + k * 4, none⟩ = some (.int .u64 x1) ∧ wr.drew.cell? ⟨g, o + k * 4 + 1, none⟩ = some (.int .u8 x2) ∧ wr.drew.cell? ⟨g, o + k * 4 + 2, none⟩ = some (.int .u32 x3) ∧ wr.drew.cell? ⟨g, o + k * 4 + 3, none⟩ = some (.int .u32 x4) ∧ wr.drew.cell? ⟨mb, 0, none⟩ = some (.int .u64 m1) ∧ wr.drew.cell? ⟨mb, 1, none⟩ = some (.int .u8 m2) ∧ wr.drew.cell? ⟨mb, 2, none⟩ = some (.int .u32 m3) ∧ wr.drew.cell? ⟨mb, 3, none⟩ = some (.int .u32 m4) := s0
      clear q0 q1 q2 q3 e0 e1 e2 e3
      go_region_held3 (fun w' => w'.cell? ⟨g, o + k * 4, none⟩ = some (.int .u64 x1) ∧ w'.cell? ⟨g, o + k * 4 + 1, none⟩ = some (.int .u8 x2) ∧ w'.cell? ⟨g, o + k * 4 + 2, none⟩ = some (.int .u32 x3) ∧ w'.cell? ⟨g, o + k * 4 + 3, none⟩ = some (.int .u32 x4) ∧ w'.cell? ⟨mb, 0, none⟩ = some (.int .u64 m1) ∧ w'.cell? ⟨mb, 1, none⟩ = some (.int .u8 m2) ∧ w'.cell? ⟨mb, 2, none⟩ = some (.int .u32 m3) ∧ w'.cell? ⟨mb, 3, none⟩ = some (.int .u32 m4)) (first | exact s1 | exact s0 | exact s2)
        (first | (go_at_call 14; refine (HOC.out _).mono ?_; rintro e w3 ⟨he, q, os, hw⟩; rw [HCO.out] at he; subst he; have hkg : Kept (fun _ => False) wr.drew w3 := (by rw [hw]; exact kept_grow _ _ _); have K3 := hid hkg; have s2 : w3.cell? ⟨g, o + k * 4, none⟩ = some (.int .u64 x1) ∧ w3.cell? ⟨g, o + k * 4 + 1, none⟩ = some (.int .u8 x2) ∧ w3.cell? ⟨g, o + k * 4 + 2, none⟩ = some (.int .u32 x3) ∧ w3.cell? ⟨g, o + k * 4 + 3, none⟩ = some (.int .u32 x4) ∧ w3.cell? ⟨mb, 0, none⟩ = some (.int .u64 m1) ∧ w3.cell? ⟨mb, 1, none⟩ = some (.int .u8 m2) ∧ w3.cell? ⟨mb, 2, none⟩ = some (.int .u32 m3) ∧ w3.cell? ⟨mb, 3, none⟩ = some (.int .u32 m4) := (by obtain ⟨a0, a1, a2, a3, a4, a5, a6, a7⟩ := s1; exact ⟨hkg.cell a0 id, hkg.cell a1 id, hkg.cell a2 id, hkg.cell a3 id, hkg.cell a4 id, hkg.cell a5 id, hkg.cell a6 id, hkg.cell a7 id⟩); clear hw hkg))
      have KD : Kept (fun _ => False) wr w3 := ((Kept.refl (fun _ => False) wr).drew).trans K3.out
      have m3r := (KD.block mb (row_lt MR.out) id).trans MR.out
      have r3r := (KD.block rb (row_lt RR.out) id).trans RR.out
      have M3 := hid m3r; have R3 := hid r3r; have KW3 := hid (KR.out.trans KD)
      obtain ⟨f0, f1, f2, f3⟩ := four_free m3r
      obtain ⟨a0, a1, a2, a3, b0, b1, b2, b3⟩ := s2
      clear KD m3r r3r
      by_cases hneg : co < 0
      · have HE := hid (show minS (y1, y2, y3, y4) (L.take k) = (x1, x2, x3, x4) by rw [HT.out, if_pos (HNEG.out.1 hneg)])
        have hdn : decide (co < 0) = true := by simpa using hneg
        go_wp2_with fail
        obtain ⟨wZ, hZ, h1, h2⟩ := four_set M3.out (.int .u64 x1) (.int .u8 x2) (.int .u32 x3) (.int .u32 x4)
        rw [hZ]
        have HZ1 := hid h1
        have RZ := hid ((h2.block rb (row_lt R3.out) HNE.out).trans R3.out)
        have KZ := hid (KW3.out.trans' h2 (fun i e => .inr (by rw [e]; exact HMB.out)))
        clear hZ h1 h2
        go_wp2
        go_roundw
        case rel => exact ⟨k + 1, (x1, x2, x3, x4), by omega, by omega, by go_num, by rw [Nat.add_sub_cancel]; exact HE.out, HZ1.out, RZ.out, KZ.out⟩
        case measure => (simp only [RowKit.intOf]; omega)
      · have HE := hid (show minS (y1, y2, y3, y4) (L.take k) = (m1, m2, m3, m4) by rw [HT.out, if_neg (fun h => hneg (HNEG.out.2 h))])
        have hdn : decide (co < 0) = false := by simpa using hneg
        go_wp2
        go_roundw
        case rel => exact ⟨k + 1, (m1, m2, m3, m4), by omega, by omega, by go_num, by rw [Nat.add_sub_cancel]; exact HE.out, M3.out, R3.out, KW3.out⟩
        case measure => (simp only [RowKit.intOf]; omega)
    · obtain rfl : k = N := by omega
      have HE := hid (show minS (y1, y2, y3, y4) L = (m1, m2, m3, m4) by
        have h := HM.out
        rw [List.take_of_length_le (by have := HN.out; simp at this; omega)] at h
        exact h)
      obtain ⟨e0, e1, e2, e3⟩ := cells4' MR.out
      obtain ⟨c0, c1, c2, c3⟩ := cells4' RR.out
      obtain ⟨f0, f1, f2, f3⟩ := four_free RR.out
      simp only at e0 e1 e2 e3
      go_wp2
      obtain ⟨wZ, hZ, h1, h2⟩ := four_set RR.out (.int .u64 m1) (.int .u8 m2) (.int .u32 m3) (.int .u32 m4)
      rw [hZ]
      obtain ⟨z0, z1, z2, z3⟩ := cells4' h1
      have KZ := hid (KR.out.trans' h2 (fun i e => .inr (by rw [e]; exact HRB.out)))
      clear hZ h1 h2
      refine bodyPost_ret (v := .agg #[.int .u64 m1, .int .u8 m2, .int .u32 m3, .int .u32 m4]) (by simp [results, Try.results28, go_sem, z0, z1, z2, z3]) rfl ?_
      exact ⟨by rw [HE.out]; rfl, KZ.out⟩
end Go.Proofs.Ytfkkfjmdpkgicaa
