/- stamp.Sort. -/
import Derived.Test.YtfkkfjmdpkgicaaK
import Derived.Shelf.SlSortCmp.NoneTotal
namespace Go.Proofs.Ytfkkfjmdpkgicaa
open Go.RowKit Go.Shelf
def sortS (L : List Sp) : List Sp := L.mergeSort fun x y => !(ltOf ordS) y x
theorem sortS_len (L : List Sp) : (sortS L).length = L.length := List.length_mergeSort _
theorem flat_at : ∀ (L : List Sp) (i : Nat) (x : Sp), L[i]? = some x → ∀ r, r < 4 → (L.flatMap encS)[i * 4 + r]? = (encS x)[r]?
  | y :: l, 0, x, h, r, hr => by
    simp at h; subst h
    rw [List.flatMap_cons, List.getElem?_append_left (by simp [encS]; omega)]
    simp
  | y :: l, i + 1, x, h, r, hr => by
    rw [List.flatMap_cons, List.getElem?_append_right (by simp [encS]; omega), show (i + 1) * 4 + r - (encS y).length = i * 4 + r from by simp [encS]; omega]
    exact flat_at l i x (by simpa using h) r hr
theorem flat_get {L : List Sp} {j : Nat} (hj : j < L.length * 4) : (L.flatMap encS)[j]? = some ((encS L.toArray[j / 4]!)[j % 4]!) := by
  have hi : j / 4 < L.length := by omega
  have h := flat_at L (j / 4) L[j / 4] (List.getElem?_eq_getElem hi) (j % 4) (Nat.mod_lt _ (by decide))
  rw [show j / 4 * 4 + j % 4 = j from by omega] at h
  rw [h]
  have e : L.toArray[j / 4]! = L[j / 4] := by simp [hi]
  rw [e]
  have hr : j % 4 < (encS L[j / 4]).length := by simp [encS]; omega
  rw [List.getElem?_eq_getElem hr]
  simp [hr]
theorem holds_of_own {w : World} {g cap : Nat} {cur : Array Value} {L : List Sp} (h : w.heap[g]? = some (.cells cur 48 (0, 0))) (hs : cur.size = cap * 4) (hc : L.length ≤ cap) (he : cur.toList.take (L.length * 4) = L.flatMap encS) : Go.Sort.HoldsK encS 4 w g 0 L.toArray := by
  intro j hj
  rw [Go.Sort.size_flatK] at hj
  have hj' : j < L.length * 4 := by simpa using hj
  refine ⟨?_, row_free h _⟩
  rw [row_cell h, Go.Sort.get_flatK _ _ _ _ hj, Nat.zero_add]
  have h1 := flat_get hj'
  rw [← he, List.getElem?_take, if_pos hj'] at h1
  simpa using h1
theorem tot_S (x y : Sp) (h1 : ltOf ordS x y = false) (h2 : ltOf ordS y x = false) : x = y := by
  rw [ltOf_ordS, decide_eq_false_iff_not] at h1 h2
  exact eld_total h1 h2
set_option maxHeartbeats 1000000 in
theorem sortfunc_tot (blk off cap : Nat) (d : Array Sp) (w : World) (hH : Go.Sort.HoldsK encS 4 w blk off d) (hblk : blk < w.heap.size) (hsz : d.size < 4611686018427387904) :
    Calls Try.prog 33 #[.slice (some ⟨blk, off, none⟩) d.size cap, .func (.func 14) #[] #[]] w fun e w' => e = .returned (.tuple #[]) ∧ ∃ n os, w' = sortWorldK encS 4 w blk off n (sortS d.toList).toArray os := by
  have eg : ∀ args w, (callFunc 14 args).run Try.prog w = .ok (.enter 14 args) w := enters_of Try.func14 (by kernel_rfl) rfl
  exact AnyQ.slices_SortFunc_total Try.sortL 4 Try.isAgg48 Try.sizeOf48 encS (fun _ => rfl) (fun x v hv => by simp [encS] at hv; rcases hv with rfl | rfl | rfl | rfl <;> rfl) ordS swoS 14 #[] blk off cap d w eg (cmpLaysS blk off d.size w) hH hblk hsz tot_S
set_option maxHeartbeats 1000000 in
theorem sortfunc_nil (w : World) : Calls Try.prog 33 #[.slice none 0 0, .func (.func 14) #[] #[]] w fun e w' => e = .returned (.tuple #[]) ∧ w' = w :=
  AnyF.slices_SortFunc_none Try.sortL none 0 _ w
/-- a sorted slice: where it lies -/
def SlS (B : Nat) (w : World) (a : Option Addr) (N c : Nat) (D : List Sp) : Prop := D.length = N ∧ N ≤ c ∧ c ≤ maxLen ∧ ((N = 0 ∧ a = none ∧ c = 0) ∨ ∃ g, a = some ⟨g, 0, none⟩ ∧ B ≤ g ∧ g < w.heap.size ∧ Go.Sort.HoldsK encS 4 w g 0 D.toArray)
set_option maxRecDepth 100000 in
set_option maxHeartbeats 1000000 in
theorem sortedfunc_any {w : World} {Bm : Nat} {a : Option Addr} {N c : Nat} {L : List Sp} (hLN : L.length = N) (hN : N ≤ 1000000) (hc : N ≤ c ∧ c ≤ maxLen) (hm : w.cell? ⟨Bm, 0, none⟩ = some (.slice a N c)) (hL : LiesB w.heap.size w a L) :
    Calls Try.prog 26 #[.func (.func 34) #[] #[.pointer (some ⟨Bm, 0, none⟩)], .func (.func 14) #[] #[]] w fun e w' => ∃ (a' : Option Addr) (c' : Nat), e = .returned (.slice a' N c') ∧ SlS w.heap.size w' a' N c' (sortS L) ∧ Kept (fun _ => False) w w' := by
  have h2 := hid (collect_any hLN hN hc hm hL)
  have HLN := hid hLN
  clear hLN hm hL
  go_enter Try.func26, Try.ntmps26
  go_wp2_with fail
  refine h2.out.mono ?_
  rintro e w1 ⟨v, rfl, hr, hb⟩
  have HB := hid hb
  rcases hr.2 with ⟨rfl, hz⟩ | ⟨gb, cap, cur, rfl, hbase, hgb, q1, q2, q3, q4⟩
  · have HZ := hid hz
    clear hr hb hz
    go_wp2_with fail
    refine (sortfunc_nil w1).mono ?_; rintro e w' ⟨rfl, rfl⟩
    go_wp2
    go_ret
    have hz := HZ.out
    refine ⟨none, 0, by rw [hz]; rfl, ⟨by rw [sortS_len]; exact HLN.out, by omega, by decide, .inl ⟨hz, rfl, rfl⟩⟩, Kept.of_below HB.out _⟩
  · have hln := HLN.out
    have hH : Go.Sort.HoldsK encS 4 w1 gb 0 L.toArray := holds_of_own hgb q3 (by rw [hln]; exact q1) (by rw [hln]; exact q4)
    have HH := hid hH
    have HC := hid (show N ≤ cap ∧ cap ≤ maxLen ∧ w.heap.size ≤ gb ∧ gb < w1.heap.size from ⟨q1, q2, hbase, row_lt hgb⟩)
    have hcs := hid (sortfunc_tot gb 0 cap L.toArray w1 hH (row_lt hgb) (by simp; omega))
    have hds : L.toArray.size = N := by simp [hln]
    rw [hds] at hcs
    clear hr hb hgb q1 q2 q3 q4 hH hbase hln hds
    go_wp2_with fail
    refine hcs.out.mono ?_
    rintro e w' ⟨rfl, n, os, rfl⟩
    have hk := kept_sort w1 gb 0 n (sortS L.toArray.toList).toArray os
    have hh := holds_sort (d := (sortS L.toArray.toList).toArray) n os HC.out.2.2.2 HH.out (by simp [sortS_len])
    obtain ⟨w2, hw2⟩ : ∃ w2, sortWorldK encS 4 w1 gb 0 n (sortS L.toArray.toList).toArray os = w2 := ⟨_, rfl⟩
    rw [hw2] at hk hh ⊢
    have K2 := hid ((Kept.of_below HB.out (fun _ => False)).trans' hk (fun i e => .inr (by rw [e]; exact HC.out.2.2.1)))
    have HH2 := hid hh; have HZ := hid (Nat.lt_of_lt_of_le HC.out.2.2.2 hk.size)
    clear hk hh hw2 hcs
    go_wp2
    go_ret
    exact ⟨some ⟨gb, 0, none⟩, cap, rfl, ⟨by rw [sortS_len]; exact HLN.out, HC.out.1, HC.out.2.1, .inr ⟨gb, rfl, HC.out.2.2.1, HZ.out, HH2.out⟩⟩, K2.out⟩
set_option maxHeartbeats 1000000 in
/-- stamp.Sort -/
theorem ssort_any {F : Nat → Prop} {w : World} {a : Option Addr} {N c : Nat} {L : List Sp} (h : Lies F w 4 (.slice a N c) N (L.flatMap encS)) (hLN : L.length = N) (hN : N ≤ 1000000) :
    Calls Try.prog 17 #[.slice a N c] w fun e w' => ∃ (a' : Option Addr) (c' : Nat), e = .returned (.slice a' N c') ∧ SlS w.heap.size w' a' N c' (sortS L) ∧ Kept (fun _ => False) w w' := by
  have hc : N ≤ c ∧ c ≤ maxLen := by
    obtain ⟨_, _, e, h1, h2, _⟩ := h
    simp only [Value.slice.injEq] at e
    obtain ⟨_, _, rfl⟩ := e
    exact ⟨h1, h2⟩
  have HL := hid h; have HLN := hid hLN; have HC := hid hc
  clear h hLN hc
  go_enter Try.func17, Try.ntmps17
  go_wp2_with fail
  refine (values_any _ ⟨a, N, c, rfl⟩ w).mono ?_
  rintro e w1 ⟨rfl, hw1⟩
  have hr := row_new w (.cells #[.slice a N c] 50)
  have hk := (Kept.refl (fun _ => False) w).alloc (.cells #[.slice a N c] 50)
  rw [← hw1] at hr hk
  have cb := row_cell hr 0
  simp only [List.getElem?_toArray, List.getElem?_cons_zero] at cb
  have hl1 := Lies.liesB (HL.out.same hk) HLN.out
  have hcall := hid (sortedfunc_any HLN.out hN HC.out cb hl1)
  have HK := hid hk
  have HSZ := hid hk.size
  clear hw1 hr hk cb hl1
  go_wp2_with fail
  refine hcall.out.mono ?_
  rintro e w2 ⟨a', c', rfl, ⟨s1, s2, s3, s4⟩, hk2⟩
  have HS4 := hid s4
  have K2 := hid (HK.out.trans hk2)
  clear s4 hk2
  go_wp2
  go_ret
  refine ⟨a', c', rfl, ⟨s1, s2, s3, ?_⟩, K2.out⟩
  rcases HS4.out with h | ⟨g, e, hg, r⟩
  · exact .inl h
  · exact .inr ⟨g, e, Nat.le_trans HSZ.out hg, r⟩
end Go.Proofs.Ytfkkfjmdpkgicaa
