/- slices.Clone at items; what a Put makes: plain. -/
import Derived.Test.YtfmohmlpcielnaaE
import Derived.Lib.SliceRun
namespace Go.Proofs.Ytfmohmlpcielnaa
open Go.RowKit

set_option maxRecDepth 100000 in
set_option maxHeartbeats 1000000 in
theorem clone_any {w : World} {ad : Option Addr} {m c : Nat} {news : List Value} (hx : Src w 2 (.slice ad m c) m news) (hm : m ≤ 8796093022208) :
    Calls Try.prog 26 #[.slice ad m c] w fun e w' => ∃ a' c', e = .returned (.slice a' m c') ∧ Seg w' 33 2 (.slice a' m c') m news ∧ (∀ g, (Value.slice a' m c').ownBlock = some g → w.heap.size ≤ g) ∧ Kept (fun _ => False) w w' := by
  have he := fun w => Lib.run_eql_slice_nil (P := Try.prog) w
  cases ad with
  | none =>
    obtain ⟨_, _, e, hl, h0, _⟩ := hx
    simp only [Value.slice.injEq] at e
    obtain ⟨rfl, _, rfl⟩ := e
    obtain ⟨rfl, rfl⟩ := h0 rfl
    obtain rfl : news = [] := List.eq_nil_of_length_eq_zero (by simpa using hl)
    go_enter Try.func26, Try.ntmps26
    go_wp2
    go_ret
    exact ⟨_, _, rfl, Seg.nil _ _ _, by simp [Value.ownBlock], Kept.refl _ _⟩
  | some a =>
    have HX := hid (hx.kept ((Kept.refl (fun _ => False) w).alloc (.cells #[] 33)) (fun _ _ h => h))
    clear hx
    go_enter Try.func26, Try.ntmps26
    go_wp2_with (at_builtin; refine wpList_app rfl (.tmp 5) (.tmp 6) 29 rfl 33 (.agg #[.int .u64 0, .int .u64 0]) 2 16 Try.underlying29 infoS rfl (by decide) (.slice (some ⟨w.heap.size, 0, none⟩) 0 0) 0 [] rfl (by exact own_empty _ _ _) (.slice (some a) m c) rfl m news (by exact HX.out) (by unfold maxLen; omega) (by omega) ?_; intro a1 c1 w1 ho1 hk1 hf1 _; have HO1 := hid ho1; have HK1 := hid hk1; have HF1 := hid hf1; clear ho1 hk1 hf1)
    go_ret
    have ho := HO1.out
    have hf := HF1.out
    rw [Nat.zero_add] at ho hf
    refine ⟨a1, c1, rfl, by simpa using ho.seg, fun k hk => ?_, ((Kept.refl _ _).alloc _).trans' HK1.out (fun i hi => .inr (by simp [Value.ownBlock] at hi; omega))⟩
    rcases hf k hk with h | h
    · simp [Value.ownBlock] at h; omega
    · simp at h; omega
end Go.Proofs.Ytfmohmlpcielnaa
