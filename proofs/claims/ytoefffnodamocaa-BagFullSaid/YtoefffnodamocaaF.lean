/- The law BagFull. -/
import Derived.Test.YtoefffnodamocaaE
namespace Go.Proofs.Ytoefffnodamocaa
open Go.RowKit

set_option maxRecDepth 100000 in
set_option maxHeartbeats 1000000 in
theorem full_walk (W : World) (args : Array Value) (h : RdAll Try.prog W Try.f3.params.toList args.toList) :
    Calls Try.prog 3 args W fun e W' => e = .returned (.bool true) ∧ Below W.heap.size W W' := by
  rw [Try.params3] at h
  obtain ⟨v0, v1, rfl⟩ : ∃ v0 v1, args = #[v0, v1] := by
    rcases args with ⟨_ | ⟨v0, _ | ⟨v1, _ | ⟨v2, l⟩⟩⟩⟩ <;> simp [RdAll] at h
    exact ⟨v0, v1, rfl⟩
  obtain ⟨r0, r1, _⟩ := h
  obtain ⟨a0, len0, cap0, rfl, h0⟩ := r0.slice Try.underlying22
  obtain ⟨iv, rfl, hiv⟩ := r1.int Try.underlying23
  obtain ⟨l, rfl, hb, _⟩ := Rd.byt h0
  have HB := hid hb
  clear hb h0 r0 r1
  have hi0 : 0 ≤ iv ∧ iv ≤ 65535 := by simp [Lit.wf, IntKind.min, IntKind.max, IntKind.signed, IntKind.bits] at hiv; omega
  obtain ⟨hi0, hi1⟩ := hi0
  obtain ⟨m, hm⟩ : ∃ m : Nat, iv.tmod 2000 = (m : Int) ∧ m < 2000 := by
    rw [Int.tmod_eq_emod_of_nonneg hi0]
    exact ⟨(iv % 2000).toNat, by omega, by omega⟩
  obtain ⟨hm, hm2⟩ := hm
  clear hiv
  go_enter Try.func3, Try.ntmps3
  go_wp2_with fail
  refine (awake_any _).mono ?_; rintro e w1 ⟨rfl, hb1⟩
  have L1 := hid hb1; clear hb1
  by_cases e0 : l.length = 0
  · have e0' : ((l.length : Int) == 0) = true := by simp [e0]
    go_wp2
    go_ret
    exact ⟨rfl, L1.out⟩
  · have e0' : ((l.length : Int) == 0) = false := by simp; exact fun h => e0 (by simp [h])
    by_cases e1 : 100 < l.length
    · have e1' : (100 : Int) < (l.length : Int) := by omega
      go_wp2
      go_ret
      exact ⟨rfl, L1.out⟩
    · have e1' : ¬ (100 : Int) < (l.length : Int) := by omega
      have hpe : ∀ L : List (List Int), L.length < 2000 → putE L l = 0 := fun L hL => by unfold putE; rw [if_neg (by omega), if_neg e0, if_neg (by omega)]
      have hpf : ∀ L : List (List Int), L.length = 2000 → putE L l = 10 := fun L hL => by unfold putE; rw [if_neg (by omega), if_neg e0, if_pos (by omega)]
      have hpl : ∀ L : List (List Int), L.length < 2000 → putL L l = L ++ [l] := fun L hL => by unfold putL; rw [if_pos (hpe L hL)]
      have hpg : ∀ L : List (List Int), L.length = 2000 → putL L l = L := fun L hL => by unfold putL; rw [if_neg (by rw [hpf L hL]; decide)]
      have HPE := hid hpe; clear hpe
      have HPF := hid hpf; clear hpf
      have HPL := hid hpl; clear hpl
      have HPG := hid hpg; clear hpg
      go_wp2_with fail
      refine (new1 (B := W.heap.size) _ L1.out.size).mono ?_; rintro e w2 ⟨rfl, hbb, hl2⟩
      have B2 := hid hbb; clear hbb
      have L2 := hid (L1.out.trans hl2); clear hl2
      go_wp2_with fail
      go_loopw [17] (fun i wr => ∃ k : Nat, k ≤ 2000 ∧ i = .int .i64 k ∧ Bag1 50 W.heap.size wr w1.heap.size (List.replicate k l) ∧ Below W.heap.size W wr)
        (fun i _ => 2000 - (intOf i).toNat)
      case atStart => exact ⟨0, Nat.zero_le _, rfl, B2.out, L2.out⟩
      case round =>
        clear B2 L2
        obtain ⟨k, hk, rfl, hbg, hbl⟩ := hrel
        have BG := hid hbg; clear hbg
        have LG := hid hbl; clear hbl
        by_cases hlt : k < 2000
        · have hlt' : (k : Int) < 2000 := by omega
          go_wp2_with fail
          refine (put1 BG.out _ l (by exact HB.out.below LG.out (Nat.le_refl _)) (by omega) (by simp; omega)).mono ?_; rintro e w3 ⟨rfl, hb3, hl3⟩
          rw [HPL.out _ (by simp; omega)] at hb3
          have B3 := hid hb3; clear hb3
          have L3 := hid (LG.out.trans hl3); clear hl3
          rw [HPE.out _ (by simp; omega)]
          go_wp2
          go_roundw
          case rel => exact ⟨k + 1, by omega, by simp, by rw [List.replicate_succ']; exact B3.out, L3.out⟩
          case measure => simp [intOf]; omega
        · obtain rfl : k = 2000 := by omega
          have hg1 : (List.replicate 2000 l).length = 2000 := by simp
          obtain ⟨L, hL⟩ : ∃ L, L = List.replicate 2000 l := ⟨_, rfl⟩
          rw [← hL] at BG hg1
          clear hL
          have hgm := hid (show L[m]? = some (L[m]'(by omega)) by simp)
          have hli : ((L.length : Nat) : Int) = 2000 := by omega
          go_wp2_with fail
          refine (put1 BG.out _ l (by exact HB.out.below LG.out (Nat.le_refl _)) (by omega) (by omega)).mono ?_; rintro e w3 ⟨rfl, hb3, hl3⟩
          rw [HPG.out _ hg1] at hb3
          rw [HPF.out _ hg1]
          have B3 := hid hb3; clear hb3
          have L3 := hid (LG.out.trans hl3); clear hl3
          go_wp2_with fail
          have hL2 : (without L m ++ [L[m]'(by omega)]).length = 2000 := by rw [List.length_append, without_len (by omega)]; simp; omega
          obtain ⟨l2, hl2⟩ : ∃ l2, l2 = without L m ++ [L[m]'(by omega)] := ⟨_, rfl⟩
          refine (hold1 B3.out (by omega) m _ hgm.out).mono ?_; rintro e w4 ⟨rfl, hb4, hl4⟩
          rw [← hl2] at hb4 hL2
          clear hl2
          have B4 := hid hb4; clear hb4
          have L4 := hid (L3.out.trans hl4); clear hl4
          go_wp2_with fail
          refine (put1 B4.out _ l (by exact HB.out.below L4.out (Nat.le_refl _)) (by omega) (by omega)).mono ?_; rintro e w5 ⟨rfl, hb5, hl5⟩
          rw [HPG.out _ hL2] at hb5
          rw [HPF.out _ hL2]
          have B5 := hid hb5; clear hb5
          have L5 := hid (L4.out.trans hl5); clear hl5
          go_wp2_with fail
          refine (drop1 B5.out m (by omega)).mono ?_; rintro e w6 ⟨rfl, hb6, hl6⟩
          have hL3 : (without l2 m).length = 1999 := by rw [without_len (by omega)]; omega
          obtain ⟨l3, hl3⟩ : ∃ l3, l3 = without l2 m := ⟨_, rfl⟩
          rw [← hl3] at hb6 hL3
          clear hl3
          have B6 := hid hb6; clear hb6
          have L6 := hid (L5.out.trans hl6); clear hl6
          go_wp2_with fail
          refine (put1 B6.out _ l (by exact HB.out.below L6.out (Nat.le_refl _)) (by omega) (by omega)).mono ?_; rintro e w7 ⟨rfl, hb7, hl7⟩
          rw [HPL.out _ (by omega)] at hb7
          rw [HPE.out _ (by omega)]
          have B7 := hid hb7; clear hb7
          have L7 := hid (L6.out.trans hl7); clear hl7
          go_wp2_with fail
          refine (len_any B7.out).mono ?_; rintro e w8 ⟨rfl, rfl⟩
          have hln : ((l3 ++ [l]).length : Int) = 2000 := by simp; omega
          rw [hln]
          go_wp2
          go_ret
          exact ⟨rfl, L7.out⟩
end Go.Proofs.Ytoefffnodamocaa
