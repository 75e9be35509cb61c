/- slices.Sorted(maps.Keys(m)) of however many numbers; maps.Clone. -/
import Derived.Test.YtnfdkpjklenllaaDh
import Derived.Test.YtnfdkpjklenllaaIt
import Derived.Test.YtnfdkpjklenllaaLay
import Derived.Sort.OwnSortedInts
import Derived.Shelf.SlMaps.Clone
namespace Go.Proofs.Ytnfdkpjklenllaa
open Go.RowKit
set_option maxHeartbeats 1000000 in
theorem blen64_zero (w : World) : Calls Try.prog 64 #[.int .u64 0] w fun e w' => e = .returned (.int .i64 0) ∧ w = w' := by
  go_enter Try.func64, Try.ntmps64
  go_wp2
  go_ret
  exact ⟨ret_int (by kernel_rfl), rfl⟩
theorem blen_zero (w : World) : Calls Try.prog 53 #[.int .u64 0] w fun e w' => e = .returned (.int .i64 0) ∧ w = w' := by
  go_enter Try.func53, Try.ntmps53
  go_wp2_with fail
  refine (blen64_zero _).mono ?_; rintro e w' ⟨rfl, rfl⟩
  go_wp2
  go_ret
  exact ⟨rfl, rfl⟩
set_option maxHeartbeats 1000000 in
theorem sort_nil (w : World) : Calls Try.prog 49 #[.slice none 0 0] w fun e w' => e = .returned (.tuple #[]) ∧ w = w' := by
  have hins : ∀ w, Calls Try.prog 54 #[.slice none 0 0, .int .i64 0, .int .i64 0] w fun e w' => e = .returned (.tuple #[]) ∧ w = w' := by
    intro w
    go_enter Try.func54, Try.ntmps54
    go_wp2_with fail
    refine wp_loop_rounds 1 ?_
    rw [rounds_succ]
    go_wp2
    go_end0
    exact ⟨rfl, rfl⟩
  have hpdq : ∀ w, Calls Try.prog 52 #[.slice none 0 0, .int .i64 0, .int .i64 0, .int .i64 0] w fun e w' => e = .returned (.tuple #[]) ∧ w = w' := by
    intro w
    go_enter Try.func52, Try.ntmps52
    go_wp2_with fail
    refine wp_loop_rounds 1 ?_
    rw [rounds_succ]
    go_wp2_with fail
    refine (hins _).mono ?_; rintro e w' ⟨rfl, rfl⟩
    clear hins
    go_wp2
    exact bodyPost_ret (results_none rfl _ _ _) rfl ⟨rfl, rfl⟩
  go_enter Try.func49, Try.ntmps49
  go_wp2_with fail
  refine (blen_zero _).mono ?_; rintro e w' ⟨rfl, rfl⟩
  go_wp2_with fail
  refine (hpdq _).mono ?_; rintro e w' ⟨rfl, rfl⟩
  go_wp2
  go_end0
  exact ⟨rfl, rfl⟩
set_option maxHeartbeats 1000000 in
theorem collect_any {w : World} {bm b : Nat} {L : List (Int × Value)} (hm : w.cell? ⟨bm, 0, none⟩ = some (.map (some b))) (hE : MapOf w b (prs L)) (hL : L.length ≤ 1000000) :
    Calls Try.prog 48 #[.func (.func 50) #[] #[.pointer (some ⟨bm, 0, none⟩)]] w fun e w' => ∃ (v : Value) (ss : List Int), e = .returned v ∧ ss.Perm (L.map (·.1)) ∧ w'.ownsRow w.heap.size 3 1 v ss.length (ss.map (Value.int .i64)) ∧ Below w.heap.size w w' := by
  have h := appendSeq_in Fence.wide 4 trivial rfl (by decide) 50 #[.pointer (some ⟨bm, 0, none⟩)] trivial (enters_of Try.func50 (by kernel_rfl) rfl) _ _ L.length hL w
    (keys_stops Fence.wide 3 trivial rfl (by decide) bm b L w (World.block_lt_of_cell? _ _ hm) hm hE)
  have h2 := hid (callsIn_wide.1 h)
  clear h hE
  go_enter Try.func48, Try.ntmps48
  go_wp2_with fail
  refine h2.out.mono ?_
  rintro e w' ⟨v, ss, rfl, hp, hr, hb⟩
  have HP := hid hp; have HR := hid hr; have HB := hid hb
  clear hp hr hb
  go_wp2
  go_ret
  exact ⟨v, ss, rfl, HP.out, HR.out, HB.out⟩
def ordI (l : List Int) : List Int := l.mergeSort (fun x y => decide (x ≤ y))
theorem ordI_len (l : List Int) : (ordI l).length = l.length := List.length_mergeSort l
set_option maxHeartbeats 1000000 in
theorem sorted_all {w : World} {bm b : Nat} {L : List (Int × Value)} (hm : w.cell? ⟨bm, 0, none⟩ = some (.map (some b))) (hE : MapOf w b (prs L)) (hL : L.length ≤ 1000000) :
    Calls Try.prog 45 #[.func (.func 50) #[] #[.pointer (some ⟨bm, 0, none⟩)]] w fun e w' => ∃ (a : Option Addr) (c : Nat) (ss : List Int), e = .returned (.slice a (ordI ss).length c) ∧ ss.Perm (L.map (·.1)) ∧ Own w' 3 1 (.slice a (ordI ss).length c) (ordI ss).length (ints (ordI ss)) ∧ (∀ g, (Value.slice a (ordI ss).length c).ownBlock = some g → w.heap.size ≤ g) ∧ Kept (fun _ => False) w w' := by
  have h2 := hid (collect_any hm hE hL)
  clear hE
  go_enter Try.func45, Try.ntmps45
  go_wp2_with fail
  refine h2.out.mono ?_
  rintro e w1 ⟨v, ss, rfl, hp, hr, hb⟩
  have HP := hid hp
  have HB := hid hb
  have hlen : ss.length ≤ 1000000 := by have := hp.length_eq; rw [List.length_map] at this; omega
  rcases hr.2 with ⟨rfl, hz⟩ | ⟨gb, cap, cur, rfl, hbase, hgb, r1, r2, r3, r4⟩
  · have hss : ss = [] := List.eq_nil_of_length_eq_zero hz
    subst hss
    clear hp hr hb hlen hz
    go_wp2_with fail
    refine (sort_nil w1).mono ?_; rintro e w' ⟨rfl, rfl⟩
    go_wp2
    go_ret
    exact ⟨none, 0, [], by simp [ordI], HP.out, by simpa [ordI, ints] using Own.nil w1 3 1, by simp [Value.ownBlock], Kept.of_below HB.out _⟩
  · have hH : Go.Sort.Holds (Value.int .i64) w1 gb 0 ss.toArray := Go.holds_of_blockI hgb (by rw [← r4, Nat.mul_one])
    have HH := hid hH
    have HG := hid hgb
    have HR := hid (show ss.length ≤ cap ∧ cap ≤ maxLen ∧ cur.size = cap * 1 from ⟨r1, r2, by omega⟩)
    have HBB := hid hbase
    have hgl := row_lt hgb
    have HLN := hid hlen
    have hol := ordI_len ss
    clear hp hr hb hgb r1 r2 r3 r4 hH hbase hlen
    go_wp2_with fail
    refine (Go.Proofs.Any.slices_Sort_int Try.lays189 gb 0 cap ss w1 HH.out hgl (by have := HLN.out; omega)).mono ?_
    rintro e w2 ⟨rfl, nn, os, hw⟩
    have hk : Kept (fun g => g = gb) w1 w2 := by
      have hgr := Go.grownBy_sortedI (w := w1) (g := gb) (n := nn) (os := os) (ss.mergeSort fun x y => decide (x ≤ y)).toArray
      rw [← hw] at hgr
      obtain ⟨q1, q2, q3, q4, q5⟩ := hgr
      exact ⟨q1, q2, q3, q4, fun k hk hne => q5 k hk (fun e => hne (by cases e; rfl))⟩
    have ho : Own w2 3 1 (.slice (some ⟨gb, 0, none⟩) ss.length cap) ss.length (ints (ordI ss)) := by
      have := Go.ownsRow_sortedI (w := w1) (base := 0) (g := gb) (cap := cap) (n := nn) (e := 3) (os := os) (ss := ss) (ts := ordI ss) hol (Nat.zero_le _) HG.out HR.out.1 HR.out.2.1 HR.out.2.2
      rw [hw]
      exact this
    have HO := hid ho
    have HK := hid ((Kept.of_below HB.out (fun _ => False)).trans' hk (fun i e => .inr (by rw [e]; exact HBB.out)))
    have HOL := hid hol
    clear ho hk hw hol
    go_wp2
    go_ret
    refine ⟨some ⟨gb, 0, none⟩, cap, ss, by rw [HOL.out]; rfl, HP.out, by rw [HOL.out]; exact HO.out, fun g hg => ?_, HK.out⟩
    simp [Value.ownBlock] at hg
    have := HBB.out
    omega
end Go.Proofs.Ytnfdkpjklenllaa
