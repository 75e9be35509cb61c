/- Texts of this claim, merged: Key. -/
import Derived.Lib.SlKeysI
import Derived.Test.YtpjhdpfaogdboaaPm1
import Derived.Test.YtpjhdpfaogdboaaPm3
import Derived.Test.YtpjhdpfaogdboaaPm5
import Derived.Test.YtpjhdpfaogdboaaPm6
import Derived.Test.YtpjhdpfaogdboaaPm7
import Derived.Test.YtpjhdpfaogdboaaPm9
import Derived.Test.YtpjhdpfaogdboaaPm16
import Derived.Test.YtpjhdpfaogdboaaPm17
import Derived.Test.YtpjhdpfaogdboaaPm18
import Derived.Test.YtpjhdpfaogdboaaPm19
/- slices.Sorted(maps.Keys(m)) as one contract. -/
namespace Go.Proofs.Ytpjhdpfaogdboaa
set_option linter.unusedSimpArgs false
set_option linter.unusedVariables false
open Go.RowKit

theorem ordered_perm {l l' : List Int} (h : l.Perm l') : ordered l = ordered l' := mergeSort_of_perm_i h
theorem ordered_len (l : List Int) : (ordered l).length = l.length := List.length_mergeSort l
set_option maxHeartbeats 1000000 in
theorem collect_any {w : World} {bm b : Nat} {L : List (Int × Value)} (hm : w.cell? ⟨bm, 0, none⟩ = some (.map (some b))) (hE : MapOf w b (prs L)) (hL : L.length ≤ 1000000) :
    Calls Try.prog 53 #[.func (.func 55) #[] #[.pointer (some ⟨bm, 0, none⟩)]] w fun e w' => ∃ (v : Value) (ss : List Int), e = .returned v ∧ ss.Perm (L.map (·.1)) ∧ w'.ownsRow w.heap.size 26 1 v ss.length (ss.map (Value.int .u32)) ∧ Below w.heap.size w w' := by
  have h := appendSeq_in Fence.wide 4 trivial rfl (by decide) 55 #[.pointer (some ⟨bm, 0, none⟩)] trivial (enters_of Try.func55 (by kernel_rfl) rfl) _ _ L.length hL w
    (keys_stops Fence.wide 3 trivial rfl (by decide) bm b L w (World.block_lt_of_cell? _ _ hm) hm hE)
  have h2 := hid (callsIn_wide.1 h)
  clear h hE
  go_enter Try.func53, Try.ntmps53
  go_wp2_with fail
  refine h2.out.mono ?_
  rintro e w' ⟨v, ss, rfl, hp, hr, hb⟩
  have HP := hid hp; have HR := hid hr; have HB := hid hb
  clear hp hr hb
  go_wp2
  go_ret
  exact ⟨v, ss, rfl, HP.out, HR.out, HB.out⟩
set_option maxHeartbeats 1000000 in
theorem sorted_any {w : World} {bm b : Nat} {L : List (Int × Value)} (hm : w.cell? ⟨bm, 0, none⟩ = some (.map (some b))) (hE : MapOf w b (prs L)) (hL : L.length < 50) :
    Calls Try.prog 32 #[.func (.func 55) #[] #[.pointer (some ⟨bm, 0, none⟩)]] w fun e w' => ∃ (a : Option Addr) (c : Nat), e = .returned (.slice a L.length c) ∧ Own w' 26 1 (.slice a L.length c) L.length ((ordered (L.map (·.1))).map (Value.int .u32)) ∧ (∀ g, (Value.slice a L.length c).ownBlock = some g → w.heap.size ≤ g) ∧ Kept (fun _ => False) w w' := by
  have h2 := hid (collect_any hm hE (by omega))
  clear hE
  go_enter Try.func32, Try.ntmps32
  go_wp2_with fail
  refine h2.out.mono ?_
  rintro e w1 ⟨v, ss, rfl, hp, hr, hb⟩
  have hlen : ss.length = L.length := by simpa using hp.length_eq
  have HO := hid (ordered_perm hp)
  have HB := hid hb
  rcases hr.2 with ⟨rfl, hz⟩ | ⟨gb, cap, cur, rfl, hbase, hgb, r1, r2, r3, r4⟩
  · have hss : ss = [] := List.eq_nil_of_length_eq_zero hz
    subst hss
    have hL0 : L.length = 0 := by simpa using hlen.symm
    have HL0 := hid hL0
    clear hp hr hb hlen hL0 hz
    go_wp2_with fail
    refine (sort_nil w1).mono ?_; rintro e w' ⟨rfl, rfl⟩
    go_wp2
    go_ret
    refine ⟨none, 0, by rw [HL0.out]; rfl, ?_, fun g hg => by simp [Value.ownBlock] at hg, Kept.of_below HB.out _⟩
    rw [HL0.out, ← HO.out]
    have : ordered [] = [] := by simp [ordered]
    rw [this]
    exact Own.nil _ _ _
  · have hS : Srt w1 gb ss.toArray (cur.toList.drop ss.length) := by
      unfold Srt
      rw [hgb]
      congr 2
      apply Array.ext'
      simp only [List.toList_toArray]
      rw [Nat.mul_one] at r4
      have e1 : us ss.toArray = cur.toList.take ss.length := by rw [r4]; simp [us]
      rw [e1, List.take_append_drop]
    have HS := hid hS
    have hls : ss.length < 50 := by omega
    have HR := hid (show ss.length ≤ cap ∧ cap ≤ maxLen ∧ cur.size = cap from ⟨r1, r2, by omega⟩)
    have HL := hid hlen; have HBB := hid hbase
    clear hp hr hb hlen hgb r1 r2 r3 r4 hS
    go_wp2_with fail
    refine (sort_any HS.out cap hls).mono ?_
    rintro e w2 ⟨rfl, hs, hk⟩
    have HS2 := hid hs
    have HK := hid ((Kept.of_below HB.out (fun _ => False)).trans' hk (fun i e => .inr (by rw [e]; exact HBB.out)))
    clear hs hk
    go_wp2
    go_ret
    refine ⟨some ⟨gb, 0, none⟩, cap, by rw [HL.out]; rfl, ?_, fun g hg => by simp [Value.ownBlock] at hg; omega, HK.out⟩
    rw [← HO.out, ← HL.out]
    have hz2 : (us (ordered ss).toArray ++ cur.toList.drop ss.length).length = cap := by
      rw [List.length_append, us_len]
      simp [ordered_len, HR.out.2.2]
      have := HR.out.1
      omega
    have := Own.mk (size := 1) (n := ss.length) (cap := cap) HS2.out HR.out.1 HR.out.2.1 (by simpa using hz2)
    have e2 : ((us (ordered ss).toArray ++ cur.toList.drop ss.length).toArray.toList.take (ss.length * 1)) = (ordered ss).map (Value.int .u32) := by
      rw [List.toList_toArray, Nat.mul_one]
      rw [List.take_left' (by rw [us_len]; simp [ordered_len])]
      simp [us]
    rw [e2] at this
    exact this
end Go.Proofs.Ytpjhdpfaogdboaa
