/- slices.Delete at spans. -/
import Derived.Test.YtglcpiokmieppaaC
import Derived.StillTailTactics
namespace Go.Proofs.Ytglcpiokmieppaa
open Go.RowKit

theorem infoS : (Try.prog.info? 46).map (fun i => (i.zero, i.size, i.bytes)) = some (some (.agg #[.int .u32 0, .int .u32 0]), 2, 8) := by kernel_rfl
theorem zeroS (w : World) : (zeroValue 46).run Try.prog w = .ok (.agg #[.int .u32 0, .int .u32 0]) w := by kernel_rfl
set_option maxRecDepth 100000 in
set_option maxHeartbeats 1000000 in
theorem del_any {w : World} {v : Value} {n : Nat} {xs : List Value} (h : Own w 46 2 v n xs) (h1 : ∀ u ∈ xs, u.oneCell' = true) (i j : Nat) (hij : i < j) (hj : j ≤ n) :
    Calls Try.prog 27 #[v, .int .i64 i, .int .i64 j] w fun e w' => ∃ cap', e = .returned (.slice (v.ownBlock.map fun g => ⟨g, 0, none⟩) (i + (n - j)) cap') ∧ Own w' 46 2 (.slice (v.ownBlock.map fun g => ⟨g, 0, none⟩) (i + (n - j)) cap') (i + (n - j)) (xs.take (i * 2) ++ xs.drop (j * 2)) ∧ Kept (fun k => v.ownBlock = some k) w w' := by
  rcases h.shape with ⟨_, h0, _⟩ | ⟨g, cap, cur, rfl, hg, hnc, hcm, hcs, htk⟩
  · omega
  · have hij' : ((i : Int) == (j : Int)) = false := by simp; omega
    have hil : (i : Int) ≤ (j : Int) := by omega
    have hjn : (j : Int) ≤ (n : Int) := by omega
    have hicap : i ≤ cap := by omega
    have hlen : xs.length = n * 2 := h.len
    have hsrc : ∀ (off : Nat), (j < n → off = j * 2) → Src w 2 (.slice (some ⟨g, off, none⟩) (n - j) (cap - j)) (n - j) (xs.drop (j * 2)) := fun off hoff => by
      refine src_row (by simp [hlen]; omega) (fun a u hu => ?_) (fun u hu => h1 u (List.mem_of_mem_drop hu))
      rw [List.getElem?_drop] at hu
      obtain ⟨ha, e⟩ := List.getElem?_eq_some_iff.1 hu
      rw [hoff (by omega), ← e]
      exact h.cells rfl (j * 2 + a) ha
    obtain ⟨oj, hA, hoj⟩ : ∃ oj, (if cap = j then some (⟨g, 0, none⟩ : Addr) else some ⟨g, j * 2, none⟩) = some ⟨g, oj, none⟩ ∧ (j < n → oj = j * 2) := by
      by_cases hcj : cap = j
      · exact ⟨0, by rw [if_pos hcj], fun h => by omega⟩
      · exact ⟨j * 2, by rw [if_neg hcj], fun _ => rfl⟩
    have HOJ := hid hoj; have HS := hid hsrc; have HL := hid hlen
    have HG := hid hg; have HT := hid htk; have HX := hid h; have HC := hid hcs; have HCM := hid hcm
    clear hg htk hcs h hoj hsrc hlen hcm h1
    go_enter Try.func27, Try.ntmps27
    go_wp2_with fail
    refine wp_region_still_tail 6 (by kernel_rfl) (by kernel_rfl) ?_
    simp only [List.take_succ_cons, List.take_zero, List.drop_succ_cons, List.drop_zero, World.drew_eq]
    iterate 6 still_step
    refine wpStill_nil ?_
    change wpList _ _ _ _ _ (World.drew _)
    refine wpList_app_room rfl (.tmp 22) (.tmp 25) 37 rfl 46 (.agg #[.int .u32 0, .int .u32 0]) 2 8 Try.underlying37 infoS g i cap cur (by exact HG.out) HC.out HCM.out (by simp [Act.eval, Act.put]) (.slice (some ⟨g, oj, none⟩) (n - j) (cap - j)) (by simp [Act.eval, Act.put]) (n - j) (xs.drop (j * 2)) (by exact HS.out oj HOJ.out) (by omega) ?_
    intro w1 cur1 hg1 hc1 hk1
    have hcz : cur1.size = cap * 2 := by
      have h1 := HL.out; have h2 := HC.out; have h3 := congrArg List.length hc1.out
      simp at h3; omega
    obtain ⟨w2, cur2, hr, hg2, hc2, hz2, hk2⟩ := run_clear_some (P := Try.prog) w1 37 46 0 (.agg #[.int .u32 0, .int .u32 0]) 2 Try.underlying37 zeroS rfl (by simp [Value.cells, Value.oneCell']) g ((i + (n - j)) * 2) (n - (i + (n - j))) (cap - (i + (n - j))) cur1 hg1.out (by rw [hcz]; omega)
    have HCZ := hid hcz; clear hcz
    have HR := hid hr; clear hr
    have HG2 := hid hg2; clear hg2
    have HC2 := hid hc2; clear hc2
    have HZ2 := hid hz2; clear hz2
    have HK2 := hid hk2; clear hk2
    go_wp2_with fail
    rw [HR.out]
    go_wp2
    go_ret
    refine ⟨cap, rfl, ?_, ?_⟩
    · have ho := Own.mk (n := i + (n - j)) (size := 2) HG2.out (by omega : i + (n - j) ≤ cap) HCM.out (by rw [HZ2.out, HCZ.out])
      have e1 : cur2.toList.take ((i + (n - j)) * 2) = xs.take (i * 2) ++ xs.drop (j * 2) := by
        have h1 := HL.out; have h2 := HC.out; have h3 := HT.out
        rw [HC2.out, hc1.out]
        have l1 : ((cur.toList.take (i * 2) ++ xs.drop (j * 2)) ++ cur.toList.drop (i * 2 + (xs.drop (j * 2)).length)).take ((i + (n - j)) * 2) = cur.toList.take (i * 2) ++ xs.drop (j * 2) := by
          rw [List.take_left']
          simp; omega
        rw [l1, List.append_assoc, List.take_left' (by simp; omega), ← h3, List.take_take, Nat.min_eq_left (by omega)]
      rw [e1] at ho
      exact ho
    · exact (hk1.out.of_drew.trans HK2.out).mono (fun i _ h => by subst h; rfl)
set_option maxHeartbeats 1000000 in
theorem del_none {w : World} {ao : Option Addr} {n c : Nat} (i : Nat) (hi : i ≤ n) (hn : n ≤ c) (hc : c ≤ maxLen) :
    Calls Try.prog 27 #[.slice ao n c, .int .i64 i, .int .i64 i] w fun e w' => e = .returned (.slice ao n c) ∧ w = w' := by
  have hij : ((i : Int) == (i : Int)) = true := by simp
  have hil : (i : Int) ≤ (n : Int) := by omega
  unfold maxLen at hc
  go_enter Try.func27, Try.ntmps27
  go_wp2
  all_goals
    go_ret
    exact ⟨rfl, rfl⟩
end Go.Proofs.Ytglcpiokmieppaa
