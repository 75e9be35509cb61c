/- slices.Delete; Put, Drop, Take, Hold. -/
import Derived.Test.YtoefffnodamocaaA
namespace Go.Proofs.Ytoefffnodamocaa
open Go.RowKit

theorem zero22 (w : World) : (zeroValue 22).run Try.prog w = .ok (.slice none 0 0) w := by kernel_rfl


set_option maxRecDepth 100000 in
set_option maxHeartbeats 1000000 in
theorem del_any {w : World} {v : Value} {n : Nat} {xs : List Value} (h : Own w 22 1 v n xs) (h1 : ∀ u ∈ xs, u.oneCell' = true) (i j : Nat) (hij : i < j) (hj : j ≤ n) :
    Calls Try.prog 21 #[v, .int .i64 i, .int .i64 j] w fun e w' => ∃ cap', e = .returned (.slice (v.ownBlock.map fun g => ⟨g, 0, none⟩) (i + (n - j)) cap') ∧ Own w' 22 1 (.slice (v.ownBlock.map fun g => ⟨g, 0, none⟩) (i + (n - j)) cap') (i + (n - j)) (xs.take i ++ xs.drop j) ∧ Kept (fun k => v.ownBlock = some k) w w' := by
  rcases h.shape with ⟨_, h0, _⟩ | ⟨g, cap, cur, rfl, hg, hnc, hcm, hcs, htk⟩
  · omega
  · have hlen : xs.length = n := by simpa using h.len
    have hsrc : ∀ (off : Nat), (j < n → off = j) → Src w 1 (.slice (some ⟨g, off, none⟩) (n - j) (cap - j)) (n - j) (xs.drop j) := fun off hoff => by
      refine src_row (by simp [hlen]) (fun a u hu => ?_) (fun u hu => h1 u (List.mem_of_mem_drop hu))
      rw [List.getElem?_drop] at hu
      obtain ⟨ha, e⟩ := List.getElem?_eq_some_iff.1 hu
      rw [hoff (by omega), ← e]
      exact h.cells rfl (j + a) ha
    have hcs1 : cur.size = cap := by simpa using hcs
    have hij' : ((i : Int) == (j : Int)) = false := by simp; omega
    have hil : (i : Int) ≤ (j : Int) := by omega
    have hjn : (j : Int) ≤ (n : Int) := by omega
    have hicap : i ≤ cap := by omega
    have HG := hid hg
    have HT := hid htk
    have HS := hid hsrc
    have HX := hid h
    have HL := hid hlen
    have HCS := hid hcs1
    have HC := hid hcs
    clear hg htk hsrc h h1 hlen hcs hcs1
    have HCM := hid hcm; clear hcm
    obtain ⟨oj, hA, hoj⟩ : ∃ oj, (if cap = j then some (⟨g, 0, none⟩ : Addr) else some ⟨g, j, none⟩) = some ⟨g, oj, none⟩ ∧ (j < n → oj = j) := by
      by_cases hcj : cap = j
      · exact ⟨0, by rw [if_pos hcj], fun h => by omega⟩
      · exact ⟨j, by rw [if_neg hcj], fun _ => rfl⟩
    have HOJ := hid hoj; clear hoj
    go_enter Try.func21, Try.ntmps21
    go_wp2_with fail
    refine wp_region_still_tail 6 (by kernel_rfl) (by kernel_rfl) ?_
    simp only [List.take_succ_cons, List.take_zero, List.drop_succ_cons, List.drop_zero, World.drew_eq]
    iterate 6 still_step
    refine wpStill_nil ?_
    change wpList _ _ _ _ _ (World.drew _)
    refine wpList_app_room rfl (.tmp 22) (.tmp 25) 34 rfl 22 (.slice none 0 0) 1 24 Try.underlying34 info22 g i cap cur (by exact HG.out) HC.out HCM.out (by simp [Act.eval, Act.put]) (.slice (some ⟨g, oj, none⟩) (n - j) (cap - j)) (by simp [Act.eval, Act.put]) (n - j) (xs.drop j) (by exact HS.out oj HOJ.out) (by omega) ?_
    intro w1 cur1 hg1 hc1 hk1
    have hcz : cur1.size = cap := by
      have h1 := HL.out; have h2 := HCS.out; have h3 := congrArg List.length hc1.out
      simp at h3; omega
    obtain ⟨w2, cur2, hr, hg2, hc2, hz2, hk2⟩ := run_clear_some (P := Try.prog) w1 34 22 0 (.slice none 0 0) 1 Try.underlying34 zero22 rfl (by simp [Value.cells, Value.oneCell']) g (i + (n - j)) (n - (i + (n - j))) (cap - (i + (n - j))) cur1 hg1.out (by rw [hcz]; omega)
    have HCZ := hid hcz; clear hcz
    have HR := hid hr; clear hr
    have HG2 := hid hg2; clear hg2
    have HC2 := hid hc2; clear hc2
    have HZ2 := hid hz2; clear hz2
    have HK2 := hid hk2; clear hk2
    go_wp2_with fail
    rw [HR.out]
    go_wp2
    go_ret
    refine ⟨cap, rfl, ?_, ?_⟩
    · have ho := Own.mk (n := i + (n - j)) (size := 1) HG2.out (by omega : i + (n - j) ≤ cap) HCM.out (by rw [HZ2.out, HCZ.out, Nat.mul_one])
      have e1 : cur2.toList.take ((i + (n - j)) * 1) = xs.take i ++ xs.drop j := by
        have h1 := HL.out; have h2 := HCS.out; have h3 := HT.out
        rw [HC2.out, hc1.out]
        rw [Nat.mul_one] at h3 ⊢
        have l1 : ((cur.toList.take (i * 1) ++ xs.drop j) ++ cur.toList.drop (i * 1 + (xs.drop j).length)).take (i + (n - j)) = cur.toList.take (i * 1) ++ xs.drop j := by
          rw [List.take_left']
          simp; omega
        rw [l1, List.append_assoc, List.take_left' (by simp; omega), Nat.mul_one, ← h3, List.take_take, Nat.min_eq_left (by omega)]
      rw [e1] at ho
      exact ho
    · exact (hk1.out.of_drew.trans HK2.out).mono (fun i _ h => by subst h; rfl)
end Go.Proofs.Ytoefffnodamocaa
