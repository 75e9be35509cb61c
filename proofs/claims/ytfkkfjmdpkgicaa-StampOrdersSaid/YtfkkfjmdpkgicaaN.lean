/- stamps; same; Eldest. -/
import Derived.Test.YtfkkfjmdpkgicaaM
namespace Go.Proofs.Ytfkkfjmdpkgicaa
open Go.RowKit Go.Shelf
theorem own_cap {w : World} {E s n c : Nat} {a : Option Addr} {xs : List Value} (h : Own w E s (.slice a n c) n xs) (h0 : 0 < n) : n ≤ c ∧ c ≤ 9223372036854775807 := by
  obtain ⟨g, c', e, m1, m2⟩ := h.some_of_pos h0
  simp only [Value.slice.injEq] at e
  unfold maxLen at m2
  omega
theorem kept_drewN' {F : Nat → Prop} (w : World) (n : Nat) : Kept F w (w.drewN n) := ⟨rfl, rfl, rfl, Nat.le_refl _, fun _ _ _ => rfl⟩
set_option maxRecDepth 100000 in
set_option maxHeartbeats 1000000 in
theorem stamps_any {F : Nat → Prop} {w : World} {a : Option Addr} {N c : Nat} {L : List Sp} (h : Lies F w 4 (.slice a N c) N (L.flatMap encS)) (hLN : L.length = N) (hN : N ≤ 1000000) :
    Calls Try.prog 16 #[.slice a N c] w fun e w' => ∃ (a' : Option Addr) (c' : Nat), e = .returned (.slice a' N c') ∧ N + 1 ≤ c' ∧ Own w' 48 4 (.slice a' (N + 1) c') (N + 1) (L.flatMap encS ++ encS (77, 0, 0, 0)) ∧ (∀ b, (Value.slice a' (N + 1) c').ownBlock = some b → w.heap.size ≤ b) ∧ Kept (fun _ => False) w w' := by
  obtain ⟨hc1, hc2⟩ := lies_cap h
  unfold maxLen at hc2
  have HL := hid h; have HN := hid hLN
  clear h hLN
  go_enter Try.func16, Try.ntmps16
  go_wp2_with fail
  go_loopw [3, 8] (fun o i wr => ∃ (k : Nat) (a' : Option Addr) (c' : Nat), i = .int .i64 k ∧ k ≤ N ∧ o = .slice a' k c' ∧ Own wr 48 4 (.slice a' k c') k ((L.take k).flatMap encS) ∧ (∀ b, (Value.slice a' k c').ownBlock = some b → w.heap.size ≤ b) ∧ Kept (fun _ => False) w wr) (fun _ i _ => N - (RowKit.intOf i).toNat)
  case atStart => exact ⟨0, none, 0, rfl, Nat.zero_le _, rfl, Own.nil _ _ _, fun b hb => by simp [Value.ownBlock] at hb, Kept.refl _ _⟩
  case round =>
    rename World => wA
    obtain ⟨k, a', c', rfl, hk, rfl, ho, hf, hkp⟩ := hrel
    have HA := hid ho; have HAF := hid hf; have KA := hid hkp
    clear ho hf hkp
    by_cases hlt : k < N
    · have hltI : (k : Int) < (N : Int) := by omega
      obtain ⟨x, hx⟩ : ∃ x, L[k]? = some x := ⟨_, List.getElem?_eq_getElem (by rw [HN.out]; exact hlt)⟩
      obtain ⟨g, o, rfl, q0, q1, q2, q3⟩ := st_cells HL.out HN.out KA.out hx
      have HT := hid (show (L.take (k + 1)).flatMap encS = (L.take k).flatMap encS ++ encS x by rw [List.take_add_one, hx]; simp)
      obtain ⟨x1, x2, x3, x4⟩ := x
      simp only at q0 q1 q2 q3
      clear hx
      go_wp2_with (at_builtin; refine wpList_app rfl _ _ 50 rfl 48 _ 4 24 Try.underlying50 infoS rfl (by decide) _ k ((L.take k).flatMap encS) rfl (by exact (HA.out.alloc _).alloc _) _ rfl 1 _ (stamp_src _ x1 x2 x3 x4 _ (by simp)) (by unfold maxLen; omega) (by omega) ?_; intro a3 c3 w3 ho3 hk3 hf3 _; have HA3 := hid ho3; have HK3 := hid hk3; have HF3 := hid hf3; clear ho3 hk3 hf3)
      go_roundw
      case rel =>
        refine ⟨k + 1, a3, c3, by go_num, by omega, rfl, by rw [HT.out]; exact HA3.out, fun b hb => ?_, ((KA.out.alloc _).alloc _).trans' HK3.out (fun i hi => .inr (HAF.out i hi))⟩
        rcases HF3.out b hb with h | h
        · exact HAF.out b h
        · simp at h; have := KA.out.size; omega
      case measure => (simp only [RowKit.intOf]; omega)
    · obtain rfl : k = N := by omega
      have hta : (L.take k).flatMap encS = L.flatMap encS := by rw [List.take_of_length_le (by rw [HN.out]; exact Nat.le_refl _)]
      have HTA := hid hta
      clear hta
      rw [HTA.out] at HA
      have hsz := KA.out.size
      go_wp2_with (at_builtin; go_loud (refine wpList_app rfl _ _ 50 rfl 48 _ 4 24 Try.underlying50 infoS rfl (by decide) _ k (L.flatMap encS) rfl (by exact HA.out.alloc _) _ rfl 1 _ (stamp_src _ 77 0 0 0 _ (by simp)) ?aa ?bb ?_; (case aa => (unfold maxLen; omega)); (case bb => omega); intro a3 c3 w3 ho3 hk3 hf3 _; have hcc := own_cap ho3 (Nat.succ_pos k); have hkc : k ≤ c3 := Nat.le_of_succ_le hcc.1; have HA3 := hid ho3; have HK3 := hid hk3; have HF3 := hid hf3; clear ho3 hk3 hf3))
      go_ret
      refine ⟨a3, c3, rfl, hcc.1, HA3.out, fun b hb => ?_, (KA.out.alloc _).trans' HK3.out (fun i hi => .inr (HAF.out i hi))⟩
      rcases HF3.out b hb with h | h
      · exact HAF.out b h
      · simp at h; omega
set_option maxRecDepth 100000 in
set_option maxHeartbeats 1000000 in
theorem same_yes {F : Nat → Prop} {w : World} {a b : Option Addr} {N c d : Nat} {L : List Sp} (ha : Lies F w 4 (.slice a N c) N (L.flatMap encS)) (hb : Lies F w 4 (.slice b N d) N (L.flatMap encS)) (hLN : L.length = N) (hN : N ≤ 1000000) :
    Calls Try.prog 20 #[.slice a N c, .slice b N d] w fun e w' => e = .returned (.bool true) ∧ Kept (fun _ => False) w w' := by
  obtain ⟨m1, m2⟩ := lies_cap ha
  obtain ⟨m3, m4⟩ := lies_cap hb
  unfold maxLen at m2 m4
  have HA := hid ha; have HB := hid hb; have HN := hid hLN
  clear ha hb hLN
  go_enter Try.func20, Try.ntmps20
  go_wp2_with fail
  go_loopw [13] (fun i wr => ∃ k : Nat, k ≤ N ∧ i = .int .i64 k ∧ Kept (fun _ => False) w wr) (fun i _ => N - (RowKit.intOf i).toNat)
  case atStart => exact ⟨0, Nat.zero_le _, rfl, Kept.refl _ _⟩
  case round =>
    rename World => wA
    obtain ⟨k, hk, rfl, hkp⟩ := hrel
    have K := hid hkp
    clear hkp
    by_cases hlt : k < N
    · have hkI : (k : Int) < (N : Int) := by omega
      obtain ⟨x, hx⟩ : ∃ x, L[k]? = some x := ⟨_, List.getElem?_eq_getElem (by rw [HN.out]; exact hlt)⟩
      obtain ⟨g1, o1, rfl, q0, q1, q2, q3⟩ := st_cells HA.out HN.out K.out hx
      obtain ⟨g2, o2, rfl, r0, r1, r2, r3⟩ := st_cells HB.out HN.out K.out hx
      obtain ⟨x1, x2, x3, x4⟩ := x
      simp only at q0 q1 q2 q3 r0 r1 r2 r3
      clear hx
      go_wp2_with fail
      go_quiet (fail)
      have K1 := hid (K.out.trans (kept_drewN' wA nq))
      go_wp2
      go_roundw
      case rel => exact ⟨k + 1, by omega, by go_num, K1.out⟩
      case measure => (simp only [RowKit.intOf]; omega)
    · go_wp2
      go_ret
      exact ⟨rfl, K.out⟩
end Go.Proofs.Ytfkkfjmdpkgicaa
