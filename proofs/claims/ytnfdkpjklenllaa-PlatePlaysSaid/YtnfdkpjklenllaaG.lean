/- Arm, On, Ops, Len; fate, pages. -/
import Derived.Test.YtnfdkpjklenllaaF
import Derived.Test.YtnfdkpjklenllaaZer
namespace Go.Proofs.Ytnfdkpjklenllaa
open Go.RowKit

set_option maxHeartbeats 1000000 in
theorem arm_ok {F : Nat → Prop} {w : World} {b mb cap : Nat} {ao : Option Addr} {S : Plt} (h : PlIn F w b mb ao cap S) (hoff : S.off = false) (n : Int) (hn : 0 ≤ n) :
    Calls Try.prog 12 #[.pointer (some ⟨b, 0, none⟩), .int .i64 n] w fun e w' => e = .returned (.int .i64 0) ∧ PlIn F w' b mb ao cap { S with armed := n } ∧ Kept (fun g => g = b) w w' := by
  have H := hid h; clear h
  have HO := hid hoff; clear hoff
  have hn' : ¬ n < 0 := by omega
  go_enter Try.func12, Try.ntmps12
  go_wp2_with fail
  refine (check_any ⟨_, _, _, H.out⟩).mono ?_
  rintro e w1 ⟨rfl, hk1⟩
  have he : S.err = 0 := by simp [Plt.err, HO.out]
  rw [he]
  have H1 := hid (H.out.kept hk1 (fun _ _ _ h => h))
  have HK1 := hid hk1
  clear hk1 he
  obtain ⟨c0, c1, c2, c3, c4, c5⟩ := cells6 H1.out.r
  have f4 := row_free H1.out.r 4
  have r4 := row_set H1.out.r 4 (.int .i64 n)
  have k4 := (Kept.refl (fun g => g = b) w1).setCell (p := ⟨b, 4, none⟩) (.inl rfl) (.int .i64 n)
  have HP := hid (H1.out.set k4 { S with armed := n } (by rw [r4]; rfl) rfl rfl)
  have HK := hid ((HK1.out.mono (G := fun g => g = b) (fun _ _ h => h.elim)).trans k4)
  clear r4 k4 c0 c1 c2 c3 c5
  go_wp2
  go_ret
  exact ⟨rfl, HP.out, HK.out⟩
set_option maxHeartbeats 1000000 in
theorem arm_off {F : Nat → Prop} {w : World} {b : Nat} {S : Plt} (h : PlAt F w b S) (hoff : S.off = true) (n : Int) (hn : 0 ≤ n) :
    Calls Try.prog 12 #[.pointer (some ⟨b, 0, none⟩), .int .i64 n] w fun e w' => e = .returned (.int .i64 11) ∧ Kept (fun _ => False) w w' := by
  have H := hid h; clear h
  have HO := hid hoff; clear hoff
  have hn' : ¬ n < 0 := by omega
  go_enter Try.func12, Try.ntmps12
  go_wp2_with fail
  refine (check_any H.out).mono ?_
  rintro e w1 ⟨rfl, hk1⟩
  have he : S.err = 11 := by simp [Plt.err, HO.out]
  rw [he]
  have HK1 := hid hk1
  clear hk1 he
  go_wp2
  go_ret
  exact ⟨rfl, HK1.out⟩
set_option maxHeartbeats 1000000 in
theorem on_any {F : Nat → Prop} {w : World} {b : Nat} {S : Plt} (h : PlAt F w b S) :
    Calls Try.prog 18 #[.pointer (some ⟨b, 0, none⟩)] w fun e w' => e = .returned (.bool (!S.off)) ∧ w' = w := by
  obtain ⟨mb, ao, cap, h⟩ := h
  obtain ⟨c0, c1, c2, c3, c4, c5⟩ := cells6 h.r
  clear h c0 c1 c2 c4 c5
  go_enter Try.func18, Try.ntmps18
  go_wp2
  go_ret
  exact ⟨rfl, rfl⟩
set_option maxHeartbeats 1000000 in
theorem ops_any {F : Nat → Prop} {w : World} {b : Nat} {S : Plt} (h : PlAt F w b S) :
    Calls Try.prog 20 #[.pointer (some ⟨b, 0, none⟩)] w fun e w' => e = .returned (.int .i64 S.ops) ∧ w' = w := by
  obtain ⟨mb, ao, cap, h⟩ := h
  obtain ⟨c0, c1, c2, c3, c4, c5⟩ := cells6 h.r
  clear h c0 c1 c2 c3 c4
  go_enter Try.func20, Try.ntmps20
  go_wp2
  go_ret
  exact ⟨rfl, rfl⟩
set_option maxHeartbeats 1000000 in
theorem len_any {F : Nat → Prop} {w : World} {b : Nat} {S : Plt} (h : PlAt F w b S) :
    Calls Try.prog 28 #[.pointer (some ⟨b, 0, none⟩)] w fun e w' => e = .returned (.int .i64 S.n) ∧ w' = w := by
  obtain ⟨mb, ao, cap, h⟩ := h
  obtain ⟨c0, c1, c2, c3, c4, c5⟩ := cells6 h.r
  clear h c1 c2 c3 c4 c5
  go_enter Try.func28, Try.ntmps28
  go_wp2
  go_ret
  exact ⟨rfl, rfl⟩

theorem infoFate : (Try.prog.info? 38).map (·.size) = some 1 := by kernel_rfl
set_option maxHeartbeats 1000000 in
theorem fate_any {w : World} {v : Value} {l : List Int} (h : Bts w v l) (hl : l.length ≤ 140737488351232) :
    Calls Try.prog 15 #[v] w fun e w' => ∃ pa pc, e = .returned (.agg #[.slice pa l.length pc]) ∧ Byt w' (.slice pa l.length pc) l ∧ (∀ g, (Value.slice pa l.length pc).ownBlock = some g → w.heap.size ≤ g) ∧ Kept (fun _ => False) w w' := by
  have H := hid h; clear h
  have HL := hid hl; clear hl
  go_enter Try.func15, Try.ntmps15
  have HN := hid (row_new w (.cells #[.slice none 0 0] 38))
  go_wp2_with fail
  refine (twin_any (H.out.kept ((Kept.refl (fun _ => False) w).alloc _) (fun _ _ h => h)) HL.out).mono ?_
  rintro e w1 ⟨pa, pc, rfl, ho, hf, hk⟩
  have HO := hid ho; have HF := hid hf; have HK := hid hk
  have HB := hid ((hk.block _ (row_lt HN.out) (fun h => h)).trans HN.out)
  clear ho hf hk
  have HS := hid (show (w1.setCell ⟨w.heap.size, 0, none⟩ (.slice pa l.length pc)).heap[w.heap.size]? = some (.cells #[.slice pa l.length pc] 38 (0, 0)) from row_set HB.out 0 (.slice pa l.length pc))
  have c0 := row_cell HB.out 0
  have f0 := row_free HB.out 0
  simp at c0
  go_wp2
  refine bodyPost_ret (results_row (fn := Try.f15) rfl (by rfl) HS.out Try.underlying38 rfl (by exact infoFate)) rfl ?_
  refine ⟨_, _, rfl, ?_, fun g hg => ?_, ?_⟩
  · refine Byt.kept HO.out.byt ((Kept.refl (fun g => g = w.heap.size) w1).setCell (p := ⟨w.heap.size, 0, none⟩) (.inl rfl) _) (fun g hg e => ?_)
    have := HF.out g hg
    simp at this; omega
  · have := HF.out g hg
    simp at this; omega
  · exact (((Kept.refl (fun _ => False) w).alloc _).trans HK.out).setCell (p := ⟨w.heap.size, 0, none⟩) (.inr (Nat.le_refl _)) _
end Go.Proofs.Ytnfdkpjklenllaa
