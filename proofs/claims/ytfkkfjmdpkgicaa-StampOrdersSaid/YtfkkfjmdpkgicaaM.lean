/- stamps, back, same. -/
import Derived.Test.YtfkkfjmdpkgicaaL
import Derived.BigQuiet
import Derived.Deep.QuietTactic
namespace Go.Proofs.Ytfkkfjmdpkgicaa
open Go.RowKit Go.Shelf
theorem encS_one (L : List Sp) : ∀ u ∈ L.flatMap encS, u.oneCell' = true := by
  intro u hu
  simp only [List.mem_flatMap, encS] at hu
  obtain ⟨x, _, hx⟩ := hu
  simp at hx
  rcases hx with rfl | rfl | rfl | rfl <;> rfl
theorem st_cells {F : Nat → Prop} {w w' : World} {a : Option Addr} {N c : Nat} {L : List Sp} (h : Lies F w 4 (.slice a N c) N (L.flatMap encS)) (hL : L.length = N) (hk : Kept (fun _ => False) w w') {i : Nat} {x : Sp} (hx : L[i]? = some x) :
    ∃ g o, a = some ⟨g, o, none⟩ ∧ w'.cell? ⟨g, o + i * 4, none⟩ = some (.int .u64 x.1) ∧ w'.cell? ⟨g, o + i * 4 + 1, none⟩ = some (.int .u8 x.2.1) ∧ w'.cell? ⟨g, o + i * 4 + 2, none⟩ = some (.int .u32 x.2.2.1) ∧ w'.cell? ⟨g, o + i * 4 + 3, none⟩ = some (.int .u32 x.2.2.2) := by
  obtain ⟨g, o, e, hg, e0, e1, e2, e3⟩ := Lies.liesB (h.same hk) hL i x hx
  exact ⟨g, o, e, e0, e1, e2, e3⟩
theorem stamp_src (w : World) (x1 x2 x3 x4 : Int) (T : TypeId) {b : Nat} (hb : w.heap.size = b) : Src (w.alloc (.cells #[.int .u64 x1, .int .u8 x2, .int .u32 x3, .int .u32 x4] T)) 4 (.slice (some ⟨b, 0, none⟩) 1 1) 1 [.int .u64 x1, .int .u8 x2, .int .u32 x3, .int .u32 x4] := by
  subst hb
  exact src_row rfl (fun j u hu => by rw [row_cell (row_new w _)]; simpa using hu) (by simp [Value.oneCell'])
theorem lies_cap {F : Nat → Prop} {w : World} {a : Option Addr} {N c k : Nat} {news : List Value} (h : Lies F w k (.slice a N c) N news) : N ≤ c ∧ c ≤ maxLen := by
  obtain ⟨_, _, e, h1, h2, _⟩ := h
  simp only [Value.slice.injEq] at e
  obtain ⟨_, _, rfl⟩ := e
  exact ⟨h1, h2⟩
theorem infoR : (Try.prog.info? 46).map (fun i => (i.zero, i.size, i.bytes)) = some (some (sv (0, 0, 0, 0)), 4, 24) := by kernel_rfl
set_option maxRecDepth 100000 in
set_option maxHeartbeats 1000000 in
theorem back_any {F : Nat → Prop} {w : World} {a : Option Addr} {N c : Nat} {L : List Sp} (h : Lies F w 4 (.slice a N c) N (L.flatMap encS)) (hLN : L.length = N) (hN : N ≤ 1000000) :
    Calls Try.prog 21 #[.slice a N c] w fun e w' => ∃ (a' : Option Addr) (c' : Nat), e = .returned (.slice a' N c') ∧ Own w' 46 4 (.slice a' N c') N (L.flatMap encS) ∧ Kept (fun _ => False) w w' := by
  obtain ⟨hc1, hc2⟩ := lies_cap h
  unfold maxLen at hc2
  have HL := hid h; have HN := hid hLN
  clear h hLN
  go_enter Try.func21, Try.ntmps21
  go_wp2_with fail
  go_loopw [3, 8] (fun o i wr => ∃ (k : Nat) (a' : Option Addr) (c' : Nat), i = .int .i64 k ∧ k ≤ N ∧ o = .slice a' k c' ∧ Own wr 46 4 (.slice a' k c') k ((L.take k).flatMap encS) ∧ (∀ b, (Value.slice a' k c').ownBlock = some b → w.heap.size ≤ b) ∧ Kept (fun _ => False) w wr) (fun _ i _ => N - (RowKit.intOf i).toNat)
  case atStart => exact ⟨0, none, 0, rfl, Nat.zero_le _, rfl, Own.nil _ _ _, fun b hb => by simp [Value.ownBlock] at hb, Kept.refl _ _⟩
  case round =>
    rename World => wA
    obtain ⟨k, a', c', rfl, hk, rfl, ho, hf, hkp⟩ := hrel
    have HA := hid ho; have HAF := hid hf; have KA := hid hkp
    clear ho hf hkp
    by_cases hlt : k < N
    · have hltI : (k : Int) < (N : Int) := by omega
      obtain ⟨x, hx⟩ : ∃ x, L[k]? = some x := ⟨_, List.getElem?_eq_getElem (by rw [HN.out]; exact hlt)⟩
      obtain ⟨g, o, rfl, q0, q1, q2, q3⟩ := st_cells HL.out HN.out KA.out hx
      have HT := hid (show (L.take (k + 1)).flatMap encS = (L.take k).flatMap encS ++ encS x by rw [List.take_add_one, hx]; simp)
      obtain ⟨x1, x2, x3, x4⟩ := x
      simp only at q0 q1 q2 q3
      clear hx
      go_wp2_with (at_builtin; refine wpList_app rfl _ _ 41 rfl 46 _ 4 24 Try.underlying41 infoR rfl (by decide) _ k ((L.take k).flatMap encS) rfl (by exact (HA.out.alloc _).alloc _) _ rfl 1 _ (stamp_src _ x1 x2 x3 x4 _ (by simp)) (by unfold maxLen; omega) (by omega) ?_; intro a3 c3 w3 ho3 hk3 hf3 _; have HA3 := hid ho3; have HK3 := hid hk3; have HF3 := hid hf3; clear ho3 hk3 hf3)
      go_roundw
      case rel =>
        refine ⟨k + 1, a3, c3, by go_num, by omega, rfl, by rw [HT.out]; exact HA3.out, fun b hb => ?_, ((KA.out.alloc _).alloc _).trans' HK3.out (fun i hi => .inr (HAF.out i hi))⟩
        rcases HF3.out b hb with h | h
        · exact HAF.out b h
        · simp at h; have := KA.out.size; omega
      case measure => (simp only [RowKit.intOf]; omega)
    · obtain rfl : k = N := by omega
      have hta : (L.take k).flatMap encS = L.flatMap encS := by rw [List.take_of_length_le (by rw [HN.out]; exact Nat.le_refl _)]
      have HTA := hid hta
      clear hta
      go_wp2
      go_ret
      exact ⟨a', c', rfl, by rw [← HTA.out]; exact HA.out, KA.out⟩
end Go.Proofs.Ytfkkfjmdpkgicaa
