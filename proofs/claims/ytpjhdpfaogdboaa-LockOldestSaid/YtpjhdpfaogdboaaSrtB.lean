/- order2, median, choosePivot (fewer than 50), reverseRange, insertionSort. -/
import Derived.Test.YtpjhdpfaogdboaaSrtA
namespace Go.Proofs.Ytpjhdpfaogdboaa
set_option linter.unusedSimpArgs false
set_option linter.unusedVariables false
open Go.RowKit
open Go.Sort (swp ltInt)

set_option maxRecDepth 100000 in
set_option maxHeartbeats 1000000 in
theorem order2_any {w : World} {g s : Nat} {d : Array Int} {tl : List Value} (h : Srt w g d tl) {N : Nat} (hN : d.size = N) (cap : Nat) {a b : Nat} (ha : a < N) (hb : b < N) (hd : N ≤ 1000) (n : Nat) (hn : n ≤ 1000) (hs : w.heap[s]? = some (.cells #[.int .i64 n] 3 (0, 0))) :
    Calls Try.prog 103 #[.slice (some ⟨g, 0, none⟩) N cap, .int .i64 a, .int .i64 b, .pointer (some ⟨s, 0, none⟩)] w fun e w' =>
      e = .returned (.tuple #[.int .i64 (Go.Sort.order2 ltInt d a b n).1, .int .i64 (Go.Sort.order2 ltInt d a b n).2.1]) ∧ w'.heap[s]? = some (.cells #[.int .i64 (Go.Sort.order2 ltInt d a b n).2.2] 3 (0, 0)) ∧ Kept (fun k => k = s) w w' := by
  have ca := h.cell (i := a) (by omega)
  have cb := h.cell (i := b) (by omega)
  have cs := row_cell hs 0
  have fs := row_free hs 0
  simp at cs
  have HS := hid hs
  clear hs h hN
  obtain ⟨t, ht⟩ : ∃ t, ls d b a = t := ⟨_, rfl⟩
  have HT := hid ht
  clear ht
  go_enter Try.func103, Try.ntmps103
  go_wp2_with fail
  go_quiet ((go_at_call 82; exact Calls.quiet_of_same (less_any _ _ _ _)))
  rw [HT.out]
  cases t with
  | true =>
    have e : Go.Sort.order2 ltInt d a b n = (b, a, n + 1) := by unfold Go.Sort.order2; rw [ls_eq, HT.out]; rfl
    go_wp2
    go_ret2
    rw [e]
    exact ⟨rfl, by simpa using row_set (show (w.drewN nq).heap[s]? = _ from HS.out) 0 (.int .i64 ((n : Int) + 1)), (kept_drewN (F := fun k => k = s) w nq).setCell (p := ⟨s, 0, none⟩) (.inl rfl) _⟩
  | false =>
    have e : Go.Sort.order2 ltInt d a b n = (a, b, n) := by unfold Go.Sort.order2; rw [ls_eq, HT.out]; rfl
    go_wp2
    go_ret2
    rw [e]
    exact ⟨rfl, HS.out, kept_drewN w nq⟩
theorem order2_le (d : Array Int) (a b n : Nat) : (Go.Sort.order2 ltInt d a b n).2.2 ≤ n + 1 ∧ (((Go.Sort.order2 ltInt d a b n).1 = a ∧ (Go.Sort.order2 ltInt d a b n).2.1 = b) ∨ ((Go.Sort.order2 ltInt d a b n).1 = b ∧ (Go.Sort.order2 ltInt d a b n).2.1 = a)) := by
  unfold Go.Sort.order2
  split <;> simp
set_option maxRecDepth 100000 in
set_option maxHeartbeats 1000000 in
theorem median_any {w : World} {g s : Nat} {d : Array Int} {tl : List Value} (h : Srt w g d tl) {N : Nat} (hN : d.size = N) (hgs : s ≠ g) (cap : Nat) {a b c : Nat} (ha : a < N) (hb : b < N) (hc : c < N) (hd : N ≤ 1000) (n : Nat) (hn : n ≤ 900) (hs : w.heap[s]? = some (.cells #[.int .i64 n] 3 (0, 0))) :
    Calls Try.prog 99 #[.slice (some ⟨g, 0, none⟩) N cap, .int .i64 a, .int .i64 b, .int .i64 c, .pointer (some ⟨s, 0, none⟩)] w fun e w' =>
      e = .returned (.int .i64 (Go.Sort.median ltInt d a b c n).1) ∧ w'.heap[s]? = some (.cells #[.int .i64 (Go.Sort.median ltInt d a b c n).2] 3 (0, 0)) ∧ Kept (fun k => k = s) w w' := by
  have H := hid h; have HS := hid hs; have HN := hid hN
  clear h hs hN
  have hm : Hid (Go.Sort.median ltInt d a b c n = ((Go.Sort.order2 ltInt d (Go.Sort.order2 ltInt d a b n).1 (Go.Sort.order2 ltInt d (Go.Sort.order2 ltInt d a b n).2.1 c (Go.Sort.order2 ltInt d a b n).2.2).1 (Go.Sort.order2 ltInt d (Go.Sort.order2 ltInt d a b n).2.1 c (Go.Sort.order2 ltInt d a b n).2.2).2.2).2.1, (Go.Sort.order2 ltInt d (Go.Sort.order2 ltInt d a b n).1 (Go.Sort.order2 ltInt d (Go.Sort.order2 ltInt d a b n).2.1 c (Go.Sort.order2 ltInt d a b n).2.2).1 (Go.Sort.order2 ltInt d (Go.Sort.order2 ltInt d a b n).2.1 c (Go.Sort.order2 ltInt d a b n).2.2).2.2).2.2)) := hid rfl
  have l1 := order2_le d a b n
  obtain ⟨r1, hr1⟩ : ∃ r, Go.Sort.order2 ltInt d a b n = r := ⟨_, rfl⟩
  rw [hr1] at hm l1
  have l2 := order2_le d r1.2.1 c r1.2.2
  obtain ⟨r2, hr2⟩ : ∃ r, Go.Sort.order2 ltInt d r1.2.1 c r1.2.2 = r := ⟨_, rfl⟩
  rw [hr2] at hm l2
  have l3 := order2_le d r1.1 r2.1 r2.2.2
  obtain ⟨r3, hr3⟩ : ∃ r, Go.Sort.order2 ltInt d r1.1 r2.1 r2.2.2 = r := ⟨_, rfl⟩
  rw [hr3] at hm l3
  obtain ⟨x1, y1, n1⟩ := r1
  obtain ⟨x2, y2, n2⟩ := r2
  obtain ⟨x3, y3, n3⟩ := r3
  dsimp only at hm l1 l2 l3 hr2 hr3
  have hb1 : x1 < N ∧ y1 < N ∧ n1 ≤ n + 1 := by omega
  have hb2 : x2 < N ∧ y2 < N ∧ n2 ≤ n + 2 := by omega
  have R1 := hid hr1; have R2 := hid hr2; have R3 := hid hr3; have HB1 := hid hb1; have HB2 := hid hb2
  have HGS := hid hgs
  clear hr1 hr2 hr3 l1 l2 l3 hb1 hb2 hgs
  go_enter Try.func99, Try.ntmps99
  go_wp2_with fail
  refine (order2_any H.out HN.out cap ha hb hd n (by omega) HS.out).mono ?_
  rintro e w1 ⟨rfl, hs1, hk1⟩
  rw [R1.out] at hs1 ⊢
  dsimp only at hs1 ⊢
  have H1 := hid (H.out.kept hk1 (by exact fun e => HGS.out e.symm)); have HS1 := hid hs1; have HK1 := hid hk1
  clear hs1 hk1
  go_wp2_with fail
  refine (order2_any H1.out HN.out cap HB1.out.2.1 hc hd n1 (by have := HB1.out; omega) HS1.out).mono ?_
  rintro e w2 ⟨rfl, hs2, hk2⟩
  rw [R2.out] at hs2 ⊢
  dsimp only at hs2 ⊢
  have H2 := hid (H1.out.kept hk2 (by exact fun e => HGS.out e.symm)); have HS2 := hid hs2; have HK2 := hid (HK1.out.trans hk2)
  clear hs2 hk2
  go_wp2_with fail
  refine (order2_any H2.out HN.out cap HB1.out.1 HB2.out.1 hd n2 (by have := HB2.out; omega) HS2.out).mono ?_
  rintro e w3 ⟨rfl, hs3, hk3⟩
  rw [R3.out] at hs3 ⊢
  dsimp only at hs3 ⊢
  have HS3 := hid hs3; have HK3 := hid (HK2.out.trans hk3)
  clear hs3 hk3
  go_wp2
  go_ret
  rw [hm.out]
  exact ⟨rfl, HS3.out, HK3.out⟩
def hintN : Go.Sort.Hint → Int
  | .unknown => 0
  | .increasing => 1
  | .decreasing => 2
theorem median_le (d : Array Int) (a b c n : Nat) : (Go.Sort.median ltInt d a b c n).2 ≤ n + 3 := by
  simp only [Go.Sort.median]
  have l1 := (order2_le d a b n).1
  have l2 := (order2_le d (Go.Sort.order2 ltInt d a b n).2.1 c (Go.Sort.order2 ltInt d a b n).2.2).1
  have l3 := (order2_le d (Go.Sort.order2 ltInt d a b n).1 (Go.Sort.order2 ltInt d (Go.Sort.order2 ltInt d a b n).2.1 c (Go.Sort.order2 ltInt d a b n).2.2).1 (Go.Sort.order2 ltInt d (Go.Sort.order2 ltInt d a b n).2.1 c (Go.Sort.order2 ltInt d a b n).2.2).2.2).1
  omega
set_option maxRecDepth 100000 in
set_option maxHeartbeats 1000000 in
theorem pivot_any {w : World} {g : Nat} {d : Array Int} {tl : List Value} (h : Srt w g d tl) {N : Nat} (hN : d.size = N) (cap : Nat) {a b : Nat} (hab : a + 12 < b) (hb : b ≤ N) (hd : N < 50) :
    Calls Try.prog 79 #[.slice (some ⟨g, 0, none⟩) N cap, .int .i64 a, .int .i64 b] w fun e w' =>
      e = .returned (.tuple #[.int .i64 (Go.Sort.choosePivot ltInt d a b).1, .int .i64 (hintN (Go.Sort.choosePivot ltInt d a b).2)]) ∧ (Go.Sort.choosePivot ltInt d a b).2 ≠ .decreasing ∧ Kept (fun _ => False) w w' := by
  have H := hid h; have HN := hid hN
  clear h hN
  obtain ⟨L, rfl⟩ : ∃ L, b = a + L := ⟨b - a, by omega⟩
  have hL : 12 < L ∧ L < 50 := by omega
  obtain ⟨q, hq⟩ : ∃ q, L / 4 = q := ⟨_, rfl⟩
  have hq' : 4 * q ≤ L ∧ L < 4 * q + 4 := by omega
  have e0 : (a : Int) + (L : Int) - (a : Int) = (L : Int) := by omega
  have e1 : (L : Int) / 4 = (q : Int) := by omega
  have hc : Go.Sort.choosePivot ltInt d a (a + L) = ((Go.Sort.median ltInt d (a + q) (a + q * 2) (a + q * 3) 0).1, if (Go.Sort.median ltInt d (a + q) (a + q * 2) (a + q * 3) 0).2 = 0 then .increasing else if (Go.Sort.median ltInt d (a + q) (a + q * 2) (a + q * 3) 0).2 = 12 then .decreasing else .unknown) := by
    unfold Go.Sort.choosePivot
    simp only [Nat.add_sub_cancel_left, hq, Nat.mul_one]
    rw [if_pos (by omega), if_neg (by omega)]
  have hm := median_le d (a + q) (a + q * 2) (a + q * 3) 0
  obtain ⟨⟨m, s⟩, hr⟩ : ∃ r, Go.Sort.median ltInt d (a + q) (a + q * 2) (a + q * 3) 0 = r := ⟨_, rfl⟩
  rw [hr] at hc hm
  have HC := hid hc; have HR := hid hr
  have hlt := H.out.lt
  dsimp only at hm
  clear hc hr hq
  go_enter Try.func79, Try.ntmps79
  go_wp2_with fail
  have hs0 := row_new w (.cells #[.int .i64 0] 3)
  have hk0 := (Kept.refl (fun _ => False) w).alloc (.cells #[.int .i64 0] 3)
  obtain ⟨s0, hs0e⟩ : ∃ s0, w.heap.size = s0 := ⟨_, rfl⟩
  obtain ⟨w1, hw1⟩ : ∃ w1, w.alloc (.cells #[.int .i64 0] 3) = w1 := ⟨_, rfl⟩
  rw [hw1] at hk0 ⊢
  rw [hw1, hs0e] at hs0
  rw [hs0e] at hlt ⊢
  have h1 := H.out.kept hk0 (fun h => h)
  refine ((median_any (a := a + q) (b := a + q * 2) (c := a + q * 3) h1 HN.out (by omega) cap (by omega) (by omega) (by omega) (by omega) 0 (by omega) hs0)).mono ?_
  rintro e w2 ⟨rfl, hs2, hk2⟩
  rw [HR.out] at hs2 ⊢
  dsimp only at hs2 ⊢
  have c2 := row_cell hs2 0
  simp at c2
  have K2 := hid (hk0.trans' hk2 (fun i e => .inr (by omega)))
  clear hs2 hk2 hk0 h1 hs0 hw1 hs0e
  rcases (show s = 0 ∨ s = 1 ∨ s = 2 ∨ s = 3 by omega) with rfl | rfl | rfl | rfl
  all_goals
    go_wp2
    go_ret2
    rw [HC.out]
    exact ⟨by simp [hintN], by simp, K2.out⟩
end Go.Proofs.Ytpjhdpfaogdboaa
