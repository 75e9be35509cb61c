/- SortedFunc, all. -/
import Derived.Test.YtpjhdpfaogdboaaG
namespace Go.Proofs.Ytpjhdpfaogdboaa
set_option linter.unusedSimpArgs false
set_option linter.unusedVariables false
open Go.RowKit Go.Shelf
/-- where the owners lie -/
def obs (A : Tx → Ad) (L : List Ow) : List Nat := L.map fun o => (A o.tx).ob
section
variable {own : Nat → Option Tx} {B : Nat} {w : World} {tb mb : Nat} {L : List Ow} {A : Tx → Ad}
theorem vprs_oent (M : List Ow) : vprs (M.map fun o => (o.tx, (A o.tx).ob)) = M.map (oent A) := by
  unfold vprs oent
  rw [List.map_map]
  rfl
theorem own_at {w : World} {v : Value} {n : Nat} {xs : List Value} {lo : Nat} (h : w.ownsRow lo 65 1 v n xs) (hn : 0 < n) : ∃ g cap, v = .slice (some ⟨g, 0, none⟩) n cap ∧ lo ≤ g ∧ g < w.heap.size ∧ n ≤ cap ∧ cap ≤ maxLen ∧ xs.length = n ∧ ∀ j u, xs[j]? = some u → w.cell? ⟨g, j, none⟩ = some u ∧ w.frozen? ⟨g, j, none⟩ = false := by
  obtain ⟨hl, h | ⟨g, cap, cur, e, hlo, hb, hc, hm, hs, ht⟩⟩ := h
  · omega
  · refine ⟨g, cap, e, hlo, row_lt hb, hc, hm, by omega, fun j u hu => ⟨?_, row_free hb _⟩⟩
    rw [row_cell hb]
    rw [← ht, List.getElem?_take] at hu
    split at hu
    · simpa using hu
    · cases hu
theorem own_nil {w : World} {v : Value} {xs : List Value} {lo : Nat} (h : w.ownsRow lo 65 1 v 0 xs) : ∃ a c, v = .slice a 0 c ∧ c ≤ maxLen ∧ (a = none → c = 0) := by
  obtain ⟨hl, h | ⟨g, cap, cur, e, hlo, hb, hc, hm, hs, ht⟩⟩ := h
  · exact ⟨none, 0, h.1, Nat.zero_le _, fun _ => rfl⟩
  · exact ⟨_, cap, e, hm, fun h => by cases h⟩
set_option maxRecDepth 100000 in
set_option maxHeartbeats 1000000 in
theorem sortedO_any (hb : Tab own B w tb mb L A) {bm : Nat} (hc : w.cell? ⟨bm, 0, none⟩ = some (.map (some mb))) (hL : L.length ≤ 1000000) :
    Calls Try.prog 41 #[.func (.func 62) #[] #[.pointer (some ⟨bm, 0, none⟩)], .func (.func 28) #[] #[]] w fun e w' => ∃ a c, e = .returned (.slice a L.length c) ∧ Lies (fun g => g < w.heap.size) w' 1 (.slice a L.length c) L.length (ptrs (obs A L)) ∧ Kept (fun _ => False) w w' := by
  have HB := hid hb
  obtain ⟨M, hmt, hp⟩ := hb.map
  have hmo : MapOf w mb (vprs (M.map fun o => (o.tx, (A o.tx).ob))) := by
    have h := hmt.mapOf
    rw [List.map_map] at h
    rw [vprs_oent]
    exact h
  have hcv := collectV hc hmo (by rw [List.length_map, hp.length_eq]; exact hL)
  have HCV := hid hcv; have HP := hid hp; have HLN := hid hL
  have HPL := hid hp.length_eq
  clear hb hc hmt hmo hcv hp hL
  go_enter Try.func41, Try.ntmps41
  go_wp2_with fail
  refine (HCV.out).mono ?_
  rintro e w1 ⟨v, ss, rfl, hss, hrow, hbe⟩
  rw [List.map_map] at hss
  obtain ⟨K, hK, hKs⟩ := perm_map_inv (fun o : Ow => (A o.tx).ob) ss L (hss.trans (HP.out.map _))
  have K1 := hid (Kept.of_below hbe (fun _ => False))
  have HK := hid hK
  have hsl : ss.length = L.length := by rw [← hKs, List.length_map, hK.length_eq]
  rw [hsl] at hrow
  have HT1 := hid (HB.out.same K1.out)
  rcases Nat.eq_zero_or_pos L.length with h0 | hpos
  · rw [h0] at hrow
    obtain ⟨a, c, rfl, hcm, hca⟩ := own_nil hrow
    have HCM := hid hcm; have HCA := hid hca
    have HL0 := hid (List.eq_nil_of_length_eq_zero h0)
    clear hrow hss hK hKs hbe hsl h0 hcm hca
    go_wp2_with fail
    refine (AnyF.slices_SortFunc_none (P := Try.prog) (ρ := Try.sortL_ren) { Try.sortL with } a c (.func (.func 28) #[] #[]) w1).mono ?_
    rintro e w2 ⟨rfl, rfl⟩
    go_wp2
    go_ret
    have e0 := HL0.out
    subst e0
    refine ⟨a, c, rfl, ?_, K1.out⟩
    exact ⟨a, c, rfl, Nat.zero_le _, HCM.out, rfl, fun e => ⟨rfl, HCA.out e⟩, fun h => absurd h (Nat.lt_irrefl _), fun u hu => by simp [ptrs, obs] at hu⟩
  · obtain ⟨g, cap, rfl, hlo, hgl, hcc, hcm, hxl, hcells⟩ := own_at hrow hpos
    have HLO := hid hlo; have HGL := hid hgl; have HCC := hid hcc; have HCM := hid hcm
    have hrows : ∀ (j : Nat) (o : Ow), K[j]? = some o → w1.cell? ⟨g, j, none⟩ = some (ptr (A o.tx).ob) ∧ w1.frozen? ⟨g, j, none⟩ = false := fun j o hj => by
      refine hcells j _ ?_
      rw [← hKs, List.map_map, List.getElem?_map, hj]
      rfl
    have hne : ∀ o ∈ L, (A o.tx).ob ≠ g := fun o ho e => by
      have := row_lt (HB.out.ows o ho).obj
      omega
    have hso := sortO_any (cap := cap) HT1.out hK hgl hne HLN.out hrows hpos
    have HSO := hid hso
    have hposI : 0 < (L.length : Int) := by omega
    clear hrow hss hK hKs hbe hsl hlo hgl hcc hcm hxl hcells hrows hne hso
    go_wp2_with fail
    refine (HSO.out).mono ?_
    rintro e w2 ⟨rfl, hcl, hk2⟩
    have HCL := hid hcl; have K2 := hid hk2
    clear hcl hk2
    go_wp2
    go_ret
    refine ⟨_, cap, rfl, ⟨_, cap, rfl, HCC.out, HCM.out, by simp [ptrs, obs], (fun e => nomatch e), fun _ => ⟨g, 0, rfl, fun h => by have := HLO.out; omega, Nat.lt_of_lt_of_le HGL.out K2.out.size, fun j u hu => ?_⟩, fun u hu => ?_⟩, K1.out.trans' K2.out (fun i e => .inr (by rw [e]; exact HLO.out))⟩
    · simp only [ptrs, obs, List.map_map, List.getElem?_map, Option.map_eq_some_iff] at hu
      obtain ⟨o, ho, rfl⟩ := hu
      rw [Nat.zero_add]
      exact HCL.out j o ho
    · simp only [ptrs, obs, List.map_map, List.mem_map] at hu
      obtain ⟨o, _, rfl⟩ := hu
      rfl
set_option maxRecDepth 100000 in
set_option maxHeartbeats 1000000 in
theorem all_any (hb : Tab own B w tb mb L A) (hL : L.length ≤ 1000000) :
    Calls Try.prog 27 #[.pointer (some ⟨tb, 0, none⟩)] w fun e w' => ∃ a c, e = .returned (.slice a L.length c) ∧ Lies (fun g => g < w.heap.size) w' 1 (.slice a L.length c) L.length (ptrs (obs A L)) ∧ Kept (fun _ => False) w w' := by
  have HB := hid hb; have HL := hid hL
  have c0 := hb.cell
  clear hb hL
  have hv : ∀ w, Calls Try.prog 42 #[.map (some mb)] w fun e w' => e = .returned (.func (.func 62) #[] #[.pointer (some ⟨w.heap.size, 0, none⟩)]) ∧ w' = w.alloc (.cells #[.map (some mb)] 61) := vals_any (some mb)
  have HV := hid hv
  clear hv
  go_enter Try.func27, Try.ntmps27
  go_wp2_with fail
  refine (HV.out w).mono ?_
  rintro e w1 ⟨rfl, hw1⟩
  have k1 : Kept (fun _ => False) w w1 := by rw [hw1]; exact (Kept.refl _ _).alloc _
  have b0 : w1.cell? ⟨w.heap.size, 0, none⟩ = some (.map (some mb)) := by rw [hw1]; exact box_new w _ _
  have HS := hid (sortedO_any (HB.out.same k1) b0 HL.out)
  have K1 := hid k1
  clear hw1 k1 b0 c0
  go_wp2_with fail
  refine (HS.out).mono ?_
  rintro e w2 ⟨a, c, rfl, hl, hk2⟩
  have HLI := hid hl; have K2 := hid hk2
  clear hl hk2
  go_wp2
  go_ret
  exact ⟨a, c, rfl, HLI.out.mono (fun g _ hg => by have := K1.out.size; (show g < w1.heap.size); omega), K1.out.trans K2.out⟩
end
end Go.Proofs.Ytpjhdpfaogdboaa
