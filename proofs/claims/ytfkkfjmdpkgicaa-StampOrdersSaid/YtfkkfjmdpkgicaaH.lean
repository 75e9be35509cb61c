/- slices.Values and slices.Collect at stamps. -/
import Derived.Test.YtfkkfjmdpkgicaaG
import Derived.Test.YtfkkfjmdpkgicaaRng
import Derived.RangeFuncNested
import Derived.RangeFuncBound
import Derived.RangeFuncCalls
import Derived.RangeFuncLeaves
import Derived.RangeFuncBox
import Derived.Shelf.Abstract
import Derived.Shelf.RegionOpen
import Derived.TacticsInMore
import Derived.LoopNIn
import Derived.LoopIn
import Derived.Maps.AppendAt
namespace Go.Proofs.Ytfkkfjmdpkgicaa
open Go.RowKit Go.Shelf
attribute [local go_sem] Oper.semAt_some
/-- the list lies in w, below n₀ -/
def LiesB (n₀ : Nat) (w : World) (a : Option Addr) (L : List Sp) : Prop := ∀ i x, L[i]? = some x → ∃ g o, a = some ⟨g, o, none⟩ ∧ g < n₀ ∧ w.cell? ⟨g, o + i * 4, none⟩ = some (.int .u64 x.1) ∧ w.cell? ⟨g, o + i * 4 + 1, none⟩ = some (.int .u8 x.2.1) ∧ w.cell? ⟨g, o + i * 4 + 2, none⟩ = some (.int .u32 x.2.2.1) ∧ w.cell? ⟨g, o + i * 4 + 3, none⟩ = some (.int .u32 x.2.2.2)
set_option maxRecDepth 100000 in
set_option maxHeartbeats 1000000 in
theorem values1_in (F : Fence) (n : Nat) (h10 : F.fn 34) (hro : F.round = none) (hn : 1 ≤ n) (l Bm n₀ : Nat) (a : Option Addr) (N c : Nat) (L : List Sp) (hLN : L.length = N) (hN : N ≤ 1000000) (hc : N ≤ c ∧ c ≤ maxLen) (J Jx : List Sp → World → Prop)
    (hY : ∀ pre x W, J pre W → pre.length < N → YieldAt F (n - 1) Try.prog l #[sv x] W fun e W' =>
      (e = .returned (.bool true) ∧ J (pre ++ [x]) W' ∧ Below n₀ W W') ∨ (e = .returned (.bool false) ∧ Jx (pre ++ [x]) W'))
    (W : World) (hW : n₀ ≤ W.heap.size) (hJ : AbidesFrom W.heap.size J) (hm : W.cell? ⟨Bm, 0, none⟩ = some (.slice a N c)) (hL : LiesB n₀ W a L) (h0 : J [] W) :
    CallsIn F n Try.prog 34 #[.func (.yield l) #[] #[], .pointer (some ⟨Bm, 0, none⟩)] W fun e W' => (∃ v, e = .returned v) ∧
      ((∃ ss : List Sp, ss = L ∧ J ss W') ∨ (∃ pre : List Sp, True ∧ Jx pre W')) := by
  refine callsIn_of_wp Try.func34 rfl h10 ?_ hro
  simp only [Try.ntmps34, List.size_toArray, List.length_cons, List.length_nil, Nat.reduceAdd, Nat.reduceSub, Array.replicate_succ, Array.replicate_zero, List.push_toArray, List.append_toArray, List.nil_append, List.cons_append]
  gi_wp2
  try go_frame
  gi_loopw [4, 7] (fun _ i wr => ∃ k : Nat, k ≤ N ∧ i = .int .i64 k ∧ J (L.take k) wr ∧ Below n₀ W wr) (fun _ i _ => N - (RowKit.intOf i).toNat)
  case atStart => exact ⟨0, Nat.zero_le _, rfl, h0, Below.refl _ _⟩
  case round =>
    obtain ⟨k, hk, rfl, hJk, hb⟩ := hrel
    have HJK := hid hJk; have HB := hid hb; have HLL := hid hL; have HLN := hid hLN; have HY := hid hY
    obtain ⟨hc1, hc2⟩ := hc
    unfold maxLen at hc2
    clear hJk hb hL hLN hY hm h0
    by_cases hlt : k < N
    · have hltI : (k : Int) < (N : Int) := by omega
      obtain ⟨x, hx⟩ : ∃ x, L[k]? = some x := ⟨_, List.getElem?_eq_getElem (by rw [HLN.out]; exact hlt)⟩
      obtain ⟨g, o, rfl, hg, e0, e1, e2, e3⟩ := HLL.out k x hx
      have q0 := (HB.out.cell (p := ⟨g, o + k * 4, none⟩) hg).trans e0
      have q1 := (HB.out.cell (p := ⟨g, o + k * 4 + 1, none⟩) hg).trans e1
      have q2 := (HB.out.cell (p := ⟨g, o + k * 4 + 2, none⟩) hg).trans e2
      have q3 := (HB.out.cell (p := ⟨g, o + k * 4 + 3, none⟩) hg).trans e3
      have HT := hid (show L.take (k + 1) = L.take k ++ [x] by rw [List.take_add_one, hx]; rfl)
      have htl : (L.take k).length < N := by rw [List.length_take, HLN.out]; omega
      obtain ⟨x1, x2, x3, x4⟩ := x
      simp only at q0 q1 q2 q3
      have hJ2 : J (L.take k) (wr.alloc (.cells #[.int .u64 x1, .int .u8 x2, .int .u32 x3, .int .u32 x4] 48)) := hJ (L.take k) wr _ none HJK.out (Kept.grown0 ((Kept.refl _ wr).alloc _) none) (fun r e => by cases e)
      obtain ⟨fn, tmps, assign, body, hy, hR⟩ := HY.out (L.take k) (x1, x2, x3, x4) _ hJ2 htl
      unfold sv at hy
      have HR := hid hR
      have hbz : n₀ ≤ wr.heap.size := Nat.le_trans hW HB.out.size
      have HBZ := hid (HB.out.alloc hbz (.cells #[.int .u64 x1, .int .u8 x2, .int .u32 x3, .int .u32 x4] 48))
      clear hx e0 e1 e2 e3 hJ2 hR hbz htl
      gi_wp2
      refine HR.out.mono ?_
      rintro e W3 (⟨rfl, hJ3, hk3⟩ | ⟨rfl, hJx3⟩)
      · have HB3 := hid (HBZ.out.trans hk3); have HJ3 := hid hJ3
        clear hk3 hJ3
        gi_wp2
        go_roundw
        case rel => exact ⟨k + 1, by omega, by go_num, by rw [HT.out]; exact HJ3.out, HB3.out⟩
        case measure => (simp only [RowKit.intOf]; omega)
      · have HJ3 := hid hJx3
        clear hJx3
        gi_wp2
        refine bodyPost_ret (results_none rfl _ _ _) rfl ?_
        exact ⟨⟨_, rfl⟩, .inr ⟨_, trivial, HJ3.out⟩⟩
    · obtain rfl : k = N := by omega
      have hJL := HJK.out
      rw [List.take_of_length_le (by rw [HLN.out]; exact Nat.le_refl _)] at hJL
      have HJL := hid hJL
      clear hJL
      gi_wp2
      go_end0
      exact ⟨⟨_, rfl⟩, .inl ⟨L, rfl, HJL.out⟩⟩
end Go.Proofs.Ytfkkfjmdpkgicaa
