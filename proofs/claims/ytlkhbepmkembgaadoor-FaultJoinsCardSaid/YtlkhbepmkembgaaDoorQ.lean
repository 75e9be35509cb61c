/- Faults: SameLinks, Links, links. -/
import Derived.Test.YtlkhbepmkembgaaDoorP
namespace Go.Proofs.YtlkhbepmkembgaaDoor
open Go.RowKit
set_option maxHeartbeats 2000000 in
set_option maxRecDepth 100000 in
theorem samelinks_any {W : World} {v u : Value} {A B : List FL} (ha : LL W v A) (hb : LL W u B) :
    Calls Tryd.prog 13 #[v, u] W fun e w' => e = .returned (.bool (decide (A = B))) ∧ Kept (fun _ => False) W w' := by
  have HA := hid ha; have HB := hid hb
  have hmx : A.length ≤ 9223372036854775807 := by obtain ⟨_, _, _, h1, h2, _⟩ := ha; unfold maxLen at h2; omega
  obtain ⟨ao, ac, rfl⟩ := ha.isSlice
  obtain ⟨bo, bc, rfl⟩ := hb.isSlice
  clear ha hb
  by_cases hn : A.length = B.length
  · have hn' : ((A.length : Int) != (B.length : Int)) = false := by simp [hn]
    have HN := hid hn; clear hn
    go_enter Tryd.func13, Tryd.ntmps13
    go_wp2_with fail
    go_loopw [13] (fun i wr => ∃ k : Nat, k ≤ A.length ∧ i = .int .i64 k ∧ Kept (fun _ => False) W wr ∧ A.take k = B.take k) (fun i _ => A.length - (RowKit.intOf i).toNat)
    case atStart => exact ⟨0, Nat.zero_le _, rfl, Kept.refl _ _, by simp⟩
    case round =>
      rename World => wr
      obtain ⟨k, hk, rfl, hkp, hp⟩ := hrel
      have HP := hid hp; clear hp
      have HK := hid hkp; clear hkp
      by_cases hlt : k < A.length
      · have hlB : k < B.length := by have := HN.out; omega
        obtain ⟨l, hl⟩ : ∃ l, A[k]? = some l := ⟨_, List.getElem?_eq_getElem hlt⟩
        obtain ⟨m, hm⟩ : ∃ l, B[k]? = some l := ⟨_, List.getElem?_eq_getElem hlB⟩
        obtain ⟨g, off, c, hv, d0, d1⟩ := ll_at (HA.out.same HK.out) hl
        obtain ⟨g2, off2, c2, hv2, e0, e1⟩ := ll_at (HB.out.same HK.out) hm
        simp only [Value.slice.injEq] at hv hv2
        obtain ⟨rfl, _, rfl⟩ := hv
        obtain ⟨rfl, _, rfl⟩ := hv2
        have HLT := hid hlt
        have hkI : (k : Int) < (A.length : Int) := by omega
        have hkJ : (k : Int) < (B.length : Int) := by omega
        obtain ⟨o1, x1⟩ := l
        obtain ⟨o2, x2⟩ := m
        simp only at d0 d1 e0 e1
        have HT := hid (show o1 = o2 → x1 = x2 → A.take (k + 1) = B.take (k + 1) from fun h1 h2 => by rw [List.take_add_one, List.take_add_one, hl, hm, HP.out, h1, h2])
        have HF := hid (show ¬ (o1 = o2 ∧ x1 = x2) → decide (A = B) = false from fun h => by
          simp only [decide_eq_false_iff_not]
          rintro rfl
          rw [hl] at hm
          simp only [Option.some.injEq, Prod.mk.injEq] at hm
          exact h hm)
        clear hl hm
        by_cases h1 : o1 = o2
        · subst h1
          by_cases h2 : x1 = x2
          · subst h2
            go_wp2_with fail
            refine wp_region_still_lit (by kernel_rfl) (by kernel_rfl) ?_
            simp only [World.drew_eq]
            iterate 9 still_step
            refine wpStill_nil ?_
            go_wp2
            go_roundw
            case rel => exact ⟨k + 1, Nat.succ_le_of_lt HLT.out, by go_num, HK.out.drew, HT.out (by first | rfl | trivial) (by first | rfl | trivial)⟩
            case measure => (simp only [RowKit.intOf]; have hx3 : k < A.length := HLT.out; omega)
          · have h2' : (x1 == x2) = false := by simpa using h2
            have HX := hid (HF.out (fun h => h2 h.2))
            clear h2
            go_wp2_with fail
            refine wp_region_still_lit (by kernel_rfl) (by kernel_rfl) ?_
            simp only [World.drew_eq]
            iterate 9 still_step
            refine wpStill_nil ?_
            go_wp2
            go_ret
            exact ⟨ret_bool HX.out.symm, HK.out.drew⟩
        · have h1' : (o1 == o2) = false := by simpa using h1
          have HX := hid (HF.out (fun h => h1 h.1))
          clear h1
          go_wp2_with fail
          refine wp_region_still_lit (by kernel_rfl) (by kernel_rfl) ?_
          simp only [World.drew_eq]
          iterate 9 still_step
          refine wpStill_nil ?_
          go_wp2
          go_ret
          exact ⟨ret_bool HX.out.symm, HK.out.drew⟩
      · obtain rfl : k = A.length := by omega
        have HX := hid (show decide (A = B) = true by
          have h1 := HP.out
          rw [List.take_length, HN.out, List.take_length] at h1
          simpa using h1)
        have hnn := HN.out
        clear hnn
        go_wp2_with fail
        go_ret
        exact ⟨ret_bool HX.out.symm, HK.out⟩
  · have hn' : ((A.length : Int) != (B.length : Int)) = true := by simp; omega
    have HX := hid (show decide (A = B) = false by simp only [decide_eq_false_iff_not]; rintro rfl; exact hn rfl)
    clear hn
    go_enter Tryd.func13, Tryd.ntmps13
    go_wp2_with fail
    go_ret
    exact ⟨ret_bool HX.out.symm, Kept.refl _ _⟩
end Go.Proofs.YtlkhbepmkembgaaDoor
