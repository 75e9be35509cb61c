/- The document's Elder. -/
import Derived.Test.YtfkkfjmdpkgicaaU
namespace Go.Proofs.Ytfkkfjmdpkgicaa
open Go.RowKit Go.Shelf
set_option maxRecDepth 100000 in
set_option maxHeartbeats 2000000 in
theorem elder_any (x y : Sp) (W : World) : Calls Try.prog 15 #[sv x, sv y] W fun e w' => e = .returned (.bool (decide (eldS x y))) ∧ Kept (fun _ => False) W w' := by
  obtain ⟨x1, x2, x3, x4⟩ := x
  obtain ⟨y1, y2, y3, y4⟩ := y
  unfold sv
  simp only [eldS]
  have htw := two_new W (.cells #[.int .u64 x1, .int .u8 x2, .int .u32 x3, .int .u32 x4] 46) (.cells #[.int .u64 y1, .int .u8 y2, .int .u32 y3, .int .u32 y4] 46)
  have hk := ((Kept.refl (fun _ => False) W).alloc (.cells #[.int .u64 x1, .int .u8 x2, .int .u32 x3, .int .u32 x4] 46)).alloc (.cells #[.int .u64 y1, .int .u8 y2, .int .u32 y3, .int .u32 y4] 46)
  obtain ⟨w1, hw1⟩ : ∃ w1, (W.alloc (.cells #[.int .u64 x1, .int .u8 x2, .int .u32 x3, .int .u32 x4] 46)).alloc (.cells #[.int .u64 y1, .int .u8 y2, .int .u32 y3, .int .u32 y4] 46) = w1 := ⟨_, rfl⟩
  rw [hw1] at htw hk
  obtain ⟨xb, hxb⟩ : ∃ b, W.heap.size = b := ⟨_, rfl⟩
  rw [hxb] at htw
  obtain ⟨c0, c1, c2, c3⟩ := cells4' htw.1
  obtain ⟨d0, d1, d2, d3⟩ := cells4' htw.2
  have K := hid hk
  clear htw hk
  by_cases h1 : x1 = y1
  · subst h1
    by_cases h2 : x2 = y2
    · subst h2
      by_cases h3 : x3 = y3
      · subst h3
        go_enter Try.func15, Try.ntmps15
        go_wp2_with fail
        go_ret
        exact ⟨by simp, K.out⟩
      · have g3 : (x3 != y3) = true := by simpa using h3
        go_enter Try.func15, Try.ntmps15
        go_wp2_with fail
        go_ret
        exact ⟨by simp [h3], K.out⟩
    · have g2 : (x2 != y2) = true := by simpa using h2
      go_enter Try.func15, Try.ntmps15
      go_wp2_with fail
      go_ret
      exact ⟨by simp [h2], K.out⟩
  · have g1 : (x1 != y1) = true := by simpa using h1
    go_enter Try.func15, Try.ntmps15
    go_wp2_with fail
    go_ret
    exact ⟨by simp [h1], K.out⟩
end Go.Proofs.Ytfkkfjmdpkgicaa
