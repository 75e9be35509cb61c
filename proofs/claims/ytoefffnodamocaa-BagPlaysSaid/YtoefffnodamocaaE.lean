/- One bag over a bound: the contracts as a walk with one bag uses them; the example. -/
import Derived.Test.YtoefffnodamocaaD
namespace Go.Proofs.Ytoefffnodamocaa
open Go.RowKit

theorem BagAt.bound {T : TypeId} {F : Nat → Prop} {w : World} {bb : Nat} {L : List (List Int)} (h : BagAt T w bb L F) : BagAt T w bb L (fun k => F k ∧ k < w.heap.size) := by
  obtain ⟨ao, cap, ps, h1, h2, h3, h4, h5⟩ := h
  exact ⟨ao, cap, ps, h1, h2, ⟨h3.1, fun i p l hp hl => let ⟨q1, q2, q3⟩ := h3.2 i p l hp hl; ⟨q1, fun g hg => ⟨q2 g hg, q1.lt hg⟩, q3⟩⟩, ⟨h4, row_lt h1⟩, fun g hg => ⟨h5 g hg, h2.lt hg⟩⟩
theorem BagAt.mono {T : TypeId} {F G : Nat → Prop} {w : World} {bb : Nat} {L : List (List Int)} (h : BagAt T w bb L F) (hF : ∀ k, F k → G k) : BagAt T w bb L G := by
  obtain ⟨ao, cap, ps, h1, h2, h3, h4, h5⟩ := h
  exact ⟨ao, cap, ps, h1, h2, h3.mono hF, hF _ h4, fun g hg => hF _ (h5 g hg)⟩
theorem BagAt.small {T : TypeId} {F : Nat → Prop} {w : World} {bb : Nat} {L : List (List Int)} (h : BagAt T w bb L F) {i : Nat} {l : List Int} (hi : L[i]? = some l) : l.length ≤ 16384 := by
  obtain ⟨ao, cap, ps, h1, h2, h3, h4, h5⟩ := h
  have hlt := (List.getElem?_eq_some_iff.1 hi).1
  exact (h3.2 i (ps[i]'(by rw [h3.1]; exact hlt)) l (by simp) hi).2.2

def Bag1 (T : TypeId) (B : Nat) (w : World) (bb : Nat) (L : List (List Int)) : Prop := BagAt T w bb L (fun k => B ≤ k ∧ k < w.heap.size)
theorem Bag1.of {T : TypeId} {B : Nat} {F : Nat → Prop} {w : World} {bb : Nat} {L : List (List Int)} (h : BagAt T w bb L F) (hF : ∀ k, F k → B ≤ k) : Bag1 T B w bb L :=
  h.bound.mono fun k hk => ⟨hF k hk.1, hk.2⟩
theorem Bag1.lt {T : TypeId} {B : Nat} {w : World} {bb : Nat} {L : List (List Int)} (h : Bag1 T B w bb L) : B ≤ w.heap.size := by
  obtain ⟨ao, cap, ps, h1, h2, h3, h4, h5⟩ := h
  omega
theorem Bag1.kept {T : TypeId} {B : Nat} {w w' : World} {bb : Nat} {L : List (List Int)} (h : Bag1 T B w bb L) (k : Kept (fun _ => False) w w') : Bag1 T B w' bb L :=
  (BagAt.kept h k (fun _ _ => id)).mono fun i hi => ⟨hi.1, Nat.lt_of_lt_of_le hi.2 k.size⟩
theorem Bag1.alloc {T : TypeId} {B : Nat} {w : World} {bb : Nat} {L : List (List Int)} (h : Bag1 T B w bb L) (o : Obj) : Bag1 T B (w.alloc o) bb L := h.kept ((Kept.refl _ _).alloc o)
theorem Kept.fresh {w w' : World} (h : Kept (fun _ => False) w w') {B : Nat} (hB : B ≤ w.heap.size) : Below B w w' := h.below hB (fun _ h => h.elim)

theorem new1 {B : Nat} (w : World) (hB : B ≤ w.heap.size) : Calls Try.prog 8 #[] w fun e w' => e = .returned (.pointer (some ⟨w.heap.size, 0, none⟩)) ∧ Bag1 50 B w' w.heap.size [] ∧ Below B w w' :=
  (new_any w).mono fun e w' ⟨he, hb, hk⟩ => ⟨he, Bag1.of hb (fun k hk => by subst hk; exact hB), hk.fresh hB⟩
theorem put1 {B : Nat} {w : World} {bb : Nat} {L : List (List Int)} (h : Bag1 50 B w bb L) (v : Value) (l : List Int) (hv : Byt w v l) (hl : l.length ≤ 140737488351232) (hL : L.length ≤ 2000) :
    Calls Try.prog 9 #[.pointer (some ⟨bb, 0, none⟩), v] w fun e w' => e = .returned (.int .i64 (putE L l)) ∧ Bag1 50 B w' bb (putL L l) ∧ Below B w w' :=
  (put_any h v l hv.bts hl hL).mono fun e w' ⟨he, hk, F', hb, hF⟩ => ⟨he, Bag1.of hb (fun k hk => by
    rcases hF k hk with h1 | h1
    · exact h1.1
    · exact Nat.le_trans h.lt h1), hk.below h.lt (fun i hi => hi.1)⟩
theorem take1 {B : Nat} {w : World} {bb : Nat} {L : List (List Int)} (h : Bag1 50 B w bb L) (i : Nat) (l : List Int) (hi : L[i]? = some l) :
    Calls Try.prog 17 #[.pointer (some ⟨bb, 0, none⟩), .int .i64 i] w fun e w' => ∃ pa pc, e = .returned (.tuple #[.slice pa l.length pc, .int .i64 0]) ∧ Byt w' (.slice pa l.length pc) l ∧ Bag1 50 B w' bb (without L i) ∧ Below B w w' :=
  (take_yes h (fun k hk => hk.2) i l hi).mono fun e w' ⟨pa, pc, he, ho, hf, hk, hb⟩ => ⟨pa, pc, he, ho.byt, Bag1.of hb (fun k hk => hk.1), hk.below h.lt (fun i hi => hi.1)⟩
theorem drop1 {B : Nat} {w : World} {bb : Nat} {L : List (List Int)} (h : Bag1 50 B w bb L) (i : Nat) (hi : i < L.length) :
    Calls Try.prog 11 #[.pointer (some ⟨bb, 0, none⟩), .int .i64 i] w fun e w' => e = .returned (.int .i64 0) ∧ Bag1 50 B w' bb (without L i) ∧ Below B w w' :=
  (drop_yes h i hi).mono fun e w' ⟨he, hk, hb⟩ => ⟨he, Bag1.of hb (fun k hk => hk.1), hk.below h.lt (fun i hi => hi.1)⟩
theorem hold1 {B : Nat} {w : World} {bb : Nat} {L : List (List Int)} (h : Bag1 50 B w bb L) (hL : L.length ≤ 2000) (i : Nat) (l : List Int) (hi : L[i]? = some l) :
    Calls Try.prog 10 #[.pointer (some ⟨bb, 0, none⟩), .int .i64 i] w fun e w' => e = .returned (.int .i64 0) ∧ Bag1 50 B w' bb (without L i ++ [l]) ∧ Below B w w' :=
  (hold_yes h (fun k hk => hk.2) hL i l hi (h.small hi)).mono fun e w' ⟨he, hk, F', hb, hF⟩ => ⟨he, Bag1.of hb (fun k hk => by
    rcases hF k hk with h1 | h1
    · exact h1.1
    · exact Nat.le_trans h.lt h1), hk.below h.lt (fun i hi => hi.1)⟩

/-- bytes that lie below -/
theorem Byt.below {w w' : World} {v : Value} {l : List Int} {B : Nat} (h : Byt w v l) (k : Below B w w') (hB : w.heap.size ≤ B) : Byt w' v l := by
  obtain ⟨ao, c, rfl, h1, h2, h3⟩ := h
  refine ⟨ao, c, rfl, h1, h2, fun j x hj => ?_⟩
  obtain ⟨b, off, rfl, e⟩ := h3 j x hj
  refine ⟨b, off, rfl, ?_⟩
  have hlt := World.block_lt_of_cell? w ⟨b, off + j, none⟩ (u := .int .u8 x) (by rw [e])
  rw [k.cell (Nat.lt_of_lt_of_le hlt hB)]
  exact e

theorem byt_one (w : World) (x : Int) : Byt (w.alloc (.cells #[.int .u8 x] 5)) (.slice (some ⟨w.heap.size, 0, none⟩) 1 1) [x] := by
  refine ⟨_, _, rfl, ⟨by simp, by simp [maxLen]⟩, (fun h => nomatch h), fun j y hj => ⟨_, _, rfl, ?_⟩⟩
  match j, hj with
  | 0, hj => simp at hj; subst hj; simp

set_option maxRecDepth 100000 in
set_option maxHeartbeats 1000000 in
theorem awake_any (w : World) : Calls Try.prog 7 #[] w fun e w' => e = .returned (.bool true) ∧ Below w.heap.size w w' := by
  go_enter Try.func7, Try.ntmps7
  go_wp2_with fail
  refine (new1 (B := w.heap.size) _ (Nat.le_refl _)).mono ?_; rintro e w1 ⟨rfl, hb1, hl1⟩
  have B1 := hid hb1; clear hb1
  have L1 := hid hl1; clear hl1
  have p1 : putE [] [97] = 0 := by decide
  go_wp2_with fail
  refine (put1 (by exact B1.out.alloc _) _ [97] (by exact byt_one _ _) (by decide) (by decide)).mono ?_; rintro e w2 ⟨rfl, hb2, hl2⟩
  have B2 := hid hb2; clear hb2
  have L2 := hid (L1.out.trans (((Below.refl _ _).alloc L1.out.size _).trans hl2)); clear hl2
  have p2 : putE (putL [] [97]) [98] = 0 := by decide
  go_wp2_with fail
  refine (put1 (by exact B2.out.alloc _) _ [98] (by exact byt_one _ _) (by decide) (by decide)).mono ?_; rintro e w3 ⟨rfl, hb3, hl3⟩
  have B3 := hid hb3; clear hb3
  have L3 := hid (L2.out.trans (((Below.refl _ _).alloc L2.out.size _).trans hl3)); clear hl3
  have p3 : putE (putL (putL [] [97]) [98]) [99] = 0 := by decide
  go_wp2_with fail
  refine (put1 (by exact B3.out.alloc _) _ [99] (by exact byt_one _ _) (by decide) (by decide)).mono ?_; rintro e w4 ⟨rfl, hb4, hl4⟩
  have hpl : putL (putL (putL [] [97]) [98]) [99] = [[97], [98], [99]] := by decide
  rw [hpl] at hb4
  have B4 := hid hb4; clear hb4
  have L4 := hid (L3.out.trans (((Below.refl _ _).alloc L3.out.size _).trans hl4)); clear hl4 hpl
  go_wp2_with fail
  refine (hold1 B4.out (by decide) 0 [97] rfl).mono ?_; rintro e w5 ⟨rfl, hb5, hl5⟩
  have B5 := hid hb5; clear hb5
  have L5 := hid (L4.out.trans hl5); clear hl5
  go_wp2_with fail
  refine (take1 B5.out 1 [99] rfl).mono ?_; rintro e w6 ⟨pa, pc, rfl, hq, hb6, hl6⟩
  have B6 := hid hb6; clear hb6
  have Q6 := hid hq; clear hq
  have L6 := hid (L5.out.trans hl6); clear hl6
  go_wp2_with fail
  refine (same_bytes (by exact Q6.out.kept ((Kept.refl (fun _ => False) _).alloc _) (fun _ _ => id)) (by exact byt_one _ 99)).mono ?_; rintro e w7 ⟨rfl, hk7⟩
  have B7 := hid ((B6.out.alloc _).kept hk7)
  have L7 := hid (L6.out.trans (((Below.refl _ _).alloc L6.out.size _).trans (hk7.fresh (by have := L6.out.size; simp; omega)))); clear hk7
  have h99 : decide ([(99 : Int)] = [99]) = true := by decide
  go_wp2_with fail
  refine (len_any B7.out).mono ?_; rintro e w8 ⟨rfl, rfl⟩
  have hlen : ((without (without [[97], [98], [99]] 0 ++ [[97]]) 1).length : Int) = 2 := by decide
  go_wp2_with fail
  refine (drop_no B7.out 5 (by decide)).mono ?_; rintro e w8 ⟨rfl, rfl⟩
  go_wp2
  go_ret
  exact ⟨rfl, L7.out⟩
end Go.Proofs.Ytoefffnodamocaa
