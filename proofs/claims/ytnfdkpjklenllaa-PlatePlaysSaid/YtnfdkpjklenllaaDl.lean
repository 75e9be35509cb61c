/- SamePlaces; the plate's refusals, and a nil one; one rising list. -/
import Derived.Test.YtnfdkpjklenllaaDk
import Derived.Lib.SlKeysI
namespace Go.Proofs.Ytnfdkpjklenllaa
open Go.RowKit
set_option maxRecDepth 100000 in
set_option maxHeartbeats 1000000 in
theorem same_places {w : World} {a b : Option Addr} {c d : Nat} {l : List Int} (ha : Own w 3 1 (.slice a l.length c) l.length (ints l)) (hb : Own w 3 1 (.slice b l.length d) l.length (ints l)) :
    Calls Try.prog 37 #[.slice a l.length c, .slice b l.length d] w fun e w' => e = .returned (.bool true) ∧ Kept (fun _ => False) w w' := by
  have HA := hid ha; have HB := hid hb
  have hlb : l.length ≤ 9223372036854775807 := by
    rcases ha.shape with ⟨_, h0, _⟩ | ⟨g, cap, cur, e, _, h1, h2, _⟩
    · omega
    · unfold maxLen at h2; omega
  clear ha hb
  have hn' : ((l.length : Int) != (l.length : Int)) = false := by simp
  go_enter Try.func37, Try.ntmps37
  go_wp2_with fail
  clear hn'
  go_loopw [13] (fun i wr => ∃ k : Nat, k ≤ l.length ∧ i = .int .i64 k ∧ Kept (fun _ => False) w wr) (fun i _ => l.length - (intOf i).toNat)
  case atStart => exact ⟨0, Nat.zero_le _, rfl, Kept.refl _ _⟩
  case round =>
    obtain ⟨k, hk, rfl, hkp⟩ := hrel
    have HK := hid hkp; clear hkp
    by_cases hlt : k < l.length
    · have hltI : (k : Int) < (l.length : Int) := by omega
      obtain ⟨x, hx⟩ : ∃ x, l[k]? = some x := ⟨_, List.getElem?_eq_getElem hlt⟩
      obtain ⟨ga, rfl, c1, _⟩ := (HA.out.kept HK.out (fun _ _ h => h)).elI hx
      obtain ⟨gb, rfl, c2, _⟩ := (HB.out.kept HK.out (fun _ _ h => h)).elI hx
      have hx' : (x != x) = false := by simp
      clear hx
      go_wp2_with fail
      refine wp_region_still_lit (by kernel_rfl) (by kernel_rfl) ?_
      simp only [World.drew_eq]
      iterate 9 still_step
      refine wpStill_nil ?_
      go_wp2
      go_roundw
      case rel => exact ⟨k + 1, by omega, by go_num, HK.out.drew⟩
      case measure => (simp only [intOf]; omega)
    · obtain rfl : k = l.length := by omega
      go_wp2
      go_ret
      exact ⟨rfl, HK.out⟩
/-- strictly rising -/
def Up (l : List Int) : Prop := l.Pairwise (· < ·)
theorem ins_mem (p k : Int) : ∀ l : List Int, k ∈ ins p l ↔ k = p ∨ k ∈ l
  | [] => by simp [ins]
  | i :: r => by
    unfold ins
    split
    · rename_i e; subst e; simp
    · split
      · simp
      · rw [List.mem_cons, ins_mem p k r, List.mem_cons]
        constructor
        · rintro (h | h | h)
          · exact .inr (.inl h)
          · exact .inl h
          · exact .inr (.inr h)
        · rintro (h | h | h)
          · exact .inr (.inl h)
          · exact .inl h
          · exact .inr (.inr h)
theorem ins_up (p : Int) : ∀ l : List Int, Up l → Up (ins p l)
  | [], _ => by simp [ins, Up]
  | i :: r, h => by
    unfold Up at h
    rw [List.pairwise_cons] at h
    unfold ins
    split
    · exact List.pairwise_cons.2 h
    · rename_i hne
      split
      · rename_i hlt
        refine List.pairwise_cons.2 ⟨fun y hy => ?_, List.pairwise_cons.2 h⟩
        rcases List.mem_cons.1 hy with rfl | hy
        · exact hlt
        · have := h.1 y hy; omega
      · rename_i hge
        refine List.pairwise_cons.2 ⟨fun y hy => ?_, ins_up p r h.2⟩
        rcases (ins_mem p y r).1 hy with rfl | hy
        · omega
        · exact h.1 y hy
theorem wrD_spec (D : Dpl) : ∀ (l : List DE) (out : List Int), Up out → Up (l.foldl (fun out x => if D.page x.pg = zpg then out else ins x.pg out) out) ∧ ∀ k, k ∈ l.foldl (fun out x => if D.page x.pg = zpg then out else ins x.pg out) out ↔ k ∈ out ∨ ∃ x ∈ l, x.pg = k ∧ D.page k ≠ zpg
  | [], out, h => ⟨h, fun k => by simp⟩
  | x :: l, out, h => by
    rw [List.foldl_cons]
    by_cases hz : D.page x.pg = zpg
    · rw [if_pos hz]
      obtain ⟨h1, h2⟩ := wrD_spec D l out h
      refine ⟨h1, fun k => ?_⟩
      rw [h2 k]
      constructor
      · rintro (h | ⟨y, hy, e⟩)
        · exact .inl h
        · exact .inr ⟨y, by simp [hy], e⟩
      · rintro (h | ⟨y, hy, e1, e2⟩)
        · exact .inl h
        · rcases List.mem_cons.1 hy with rfl | hy
          · subst e1; exact absurd hz e2
          · exact .inr ⟨y, hy, e1, e2⟩
    · rw [if_neg hz]
      obtain ⟨h1, h2⟩ := wrD_spec D l (ins x.pg out) (ins_up x.pg out h)
      refine ⟨h1, fun k => ?_⟩
      rw [h2 k, ins_mem]
      constructor
      · rintro ((h | h) | ⟨y, hy, e⟩)
        · exact .inr ⟨x, by simp, h.symm, by rw [h]; exact hz⟩
        · exact .inl h
        · exact .inr ⟨y, by simp [hy], e⟩
      · rintro (h | ⟨y, hy, e1, e2⟩)
        · exact .inl (.inr h)
        · rcases List.mem_cons.1 hy with rfl | hy
          · exact .inl (.inl e1.symm)
          · exact .inr ⟨y, hy, e1, e2⟩
theorem dfold_none {i : Int} : ∀ (l : List DE) (b : List Int), (∀ x ∈ l, x.pg ≠ i) → dfold l i b = b
  | [], b, _ => rfl
  | x :: l, b, h => by
    unfold dfold
    rw [List.foldl_cons, if_neg (h x (by simp))]
    exact dfold_none l b (fun y hy => h y (by simp [hy]))
/-- both lists of pages are one -/
theorem written_same {D : Dpl} {ss : List Int} (hn : ss.Nodup) (hm : ∀ k, k ∈ ss ↔ D.page k ≠ zpg) : wrD D (D.last ++ D.since) = ordI ss := by
  obtain ⟨h1, h2⟩ := wrD_spec D (D.last ++ D.since) [] List.Pairwise.nil
  have hup : Up (wrD D (D.last ++ D.since)) := h1
  have hmem : ∀ k, k ∈ wrD D (D.last ++ D.since) ↔ k ∈ ss := fun k => by
    rw [hm k]
    refine (h2 k).trans ⟨fun h => ?_, fun h => ?_⟩
    · rcases h with h | ⟨x, _, _, h⟩
      · cases h
      · exact h
    · right
      by_cases he : ∃ x ∈ D.last ++ D.since, x.pg = k
      · obtain ⟨x, hx, e⟩ := he
        exact ⟨x, hx, e, h⟩
      · exfalso
        refine h ?_
        unfold Dpl.page
        exact dfold_none _ _ (fun x hx e => he ⟨x, hx, e⟩)
  have hnd : (wrD D (D.last ++ D.since)).Nodup := hup.imp (fun h => by omega)
  have hp : (wrD D (D.last ++ D.since)).Perm ss := (List.perm_ext_iff_of_nodup hnd hn).2 hmem
  have e1 : ordI (wrD D (D.last ++ D.since)) = ordI ss := mergeSort_of_perm_i hp
  rw [← e1]
  symm
  exact List.mergeSort_of_pairwise (hup.imp (fun h => by simp; omega))
end Go.Proofs.Ytnfdkpjklenllaa
