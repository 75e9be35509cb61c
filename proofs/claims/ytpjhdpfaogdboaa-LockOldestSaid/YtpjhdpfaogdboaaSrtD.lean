/- heapSort; the scan for a sorted row. -/
import Derived.Test.YtpjhdpfaogdboaaSrtC
namespace Go.Proofs.Ytpjhdpfaogdboaa
set_option linter.unusedSimpArgs false
set_option linter.unusedVariables false
open Go.RowKit
open Go.Sort (swp ltInt)

theorem size_siftDown : ∀ (n hi f r : Nat) (d : Array Int), hi - r ≤ n → (Go.Sort.siftDown ltInt hi f r d).size = d.size := by
  intro n
  induction n with
  | zero => intro hi f r d h; rw [siftDown_end (by omega)]
  | succ n ih =>
    intro hi f r d h
    by_cases hc : 2 * r + 1 < hi
    · obtain ⟨c, hcc⟩ : ∃ c, c = if 2 * r + 1 + 1 < hi ∧ ls d (f + (2 * r + 1)) (f + (2 * r + 1) + 1) = true then 2 * r + 2 else 2 * r + 1 := ⟨_, rfl⟩
      have hrc : r < c := by rw [hcc]; split <;> omega
      rw [siftDown_step hc hcc]
      split
      · rw [ih _ _ _ _ (by omega), size_swp]
      · rfl
    · rw [siftDown_end hc]
theorem sift_size (hi f r : Nat) (d : Array Int) : (Go.Sort.siftDown ltInt hi f r d).size = d.size := size_siftDown _ _ _ _ _ (Nat.le_refl _)
set_option maxRecDepth 100000 in
set_option maxHeartbeats 1000000 in
theorem heap_any {w : World} {g : Nat} {d : Array Int} {tl : List Value} (h : Srt w g d tl) {N : Nat} (hN : d.size = N) (cap : Nat) {a b : Nat} (hab : a < b) (hb : b ≤ N) (hd : N < 50) :
    Calls Try.prog 77 #[.slice (some ⟨g, 0, none⟩) N cap, .int .i64 a, .int .i64 b] w (SrtEnd w g tl (Go.Sort.heapSort ltInt d a b)) := by
  have H := hid h; have HN := hid hN
  clear h hN
  obtain ⟨L, hbL⟩ : ∃ L, b = a + L := ⟨b - a, by omega⟩
  have hL : 0 < L ∧ a + L ≤ N := by omega
  obtain ⟨M, hM⟩ : ∃ M, (L - 1) / 2 = M := ⟨_, rfl⟩
  have hM2 : M < L := by omega
  have e0 : (b : Int) - (a : Int) = (L : Int) := by omega
  have e1 : ((L : Int) - 1) / 2 = (M : Int) := by omega
  have E1 := hid e1
  have hdef : Hid (Go.Sort.heapSort ltInt d a b = Go.Sort.heapPop ltInt a L (Go.Sort.heapBuild ltInt L a (M + 1) d)) := by
    refine hid ?_
    unfold Go.Sort.heapSort
    rw [hbL, Nat.add_sub_cancel_left, hM]
  clear hM hbL
  go_enter Try.func77, Try.ntmps77
  go_wp2_with fail
  go_loopw [9] (fun i wr => ∃ (z : Int) (k : Nat) (dk : Array Int), i = .int .i64 z ∧ z + 1 = (k : Int) ∧ k ≤ M + 1 ∧ dk.size = N ∧ Srt wr g dk tl ∧ Kept (fun k => k = g) w wr ∧ Go.Sort.heapBuild ltInt L a k dk = Go.Sort.heapBuild ltInt L a (M + 1) d) (fun i _ => (intOf i + 1).toNat)
  case atStart => exact ⟨M, M + 1, d, by rw [E1.out], by omega, Nat.le_refl _, HN.out, H.out, Kept.refl _ _, rfl⟩
  case round =>
    rename World => wA
    obtain ⟨z, k, dk, rfl, hz, hk, hsz, hs, hkp, heq⟩ := hrel
    have HS := hid hs; have HK := hid hkp; have HE := hid heq; have HZ := hid hsz
    clear hs hkp heq hsz H e0 e1
    by_cases hlt : 0 < k
    · obtain ⟨m, rfl⟩ : ∃ m : Nat, k = m + 1 := ⟨k - 1, by omega⟩
      obtain rfl : z = (m : Int) := by omega
      clear hz
      go_wp2_with fail
      refine ((sift_any HS.out HZ.out cap (lo := m) (hi := L) (f := a) (by omega) (by omega) hd)).mono ?_
      rintro e w' ⟨rfl, hs, hk2⟩
      have HS3 := hid hs; have HK3 := hid (HK.out.trans hk2)
      clear hs hk2
      go_wp2
      go_roundw
      case rel => exact ⟨(m : Int) - 1, m, _, rfl, by omega, by omega, by rw [sift_size]; exact HZ.out, HS3.out, HK3.out, by rw [← HE.out, Go.Sort.heapBuild]⟩
      case measure => (simp [intOf]; try omega)
    · obtain rfl : k = 0 := by omega
      obtain rfl : z = -1 := by omega
      clear hz
      go_wp2_with fail
      have HB : Hid (dk = Go.Sort.heapBuild ltInt L a (M + 1) d) := by rw [← HE.out, Go.Sort.heapBuild]; exact rfl
      go_loopw [10] (fun i wr => ∃ (z : Int) (k : Nat) (dp : Array Int), i = .int .i64 z ∧ z + 1 = (k : Int) ∧ k ≤ L ∧ dp.size = N ∧ Srt wr g dp tl ∧ Kept (fun k => k = g) w wr ∧ Go.Sort.heapPop ltInt a k dp = Go.Sort.heapSort ltInt d a b) (fun i _ => (intOf i + 1).toNat)
      case atStart => exact ⟨(L : Int) - 1, L, dk, rfl, by omega, Nat.le_refl _, HZ.out, HS.out, HK.out, by rw [hdef.out, ← HB.out]⟩
      case round =>
        rename World => wB
        obtain ⟨z, k, dp, rfl, hz, hk, hsz, hs, hkp, heq⟩ := hrel
        have HS2 := hid hs; have HK2 := hid hkp; have HE2 := hid heq; have HZ2 := hid hsz
        clear hs hkp heq HS HK HE
        by_cases hlt : 0 < k
        · obtain ⟨m, rfl⟩ : ∃ m : Nat, k = m + 1 := ⟨k - 1, by omega⟩
          obtain rfl : z = (m : Int) := by omega
          obtain ⟨p, hp⟩ : ∃ p, p = a + m := ⟨_, rfl⟩
          have e1 : (a : Int) + (m : Int) = (p : Int) := by omega
          have hpN : p < N := by omega
          have HP := hid hp
          have c0 := HS2.out.cell (i := a) (by omega)
          have c1 := HS2.out.cell (i := p) (by omega)
          have f0 := HS2.out.free a
          have f1 := HS2.out.free p
          have haN : a < N := by omega
          clear hz hp
          obtain ⟨v', c2⟩ : ∃ v', (wB.setCell ⟨g, a, none⟩ (.int .u32 (nt dp p))).cell? ⟨g, p, none⟩ = some v' := ⟨_, (HS2.out.put a (nt dp p) (by omega)).cell (i := p) (by simp; omega)⟩
          go_wp2_with fail
          go_region
          obtain ⟨h1, h2⟩ := HS2.out.swapd (i := a) (j := p) (by omega) (by omega)
          have HS5 := hid h1; have HK5 := hid (HK2.out.trans h2)
          obtain ⟨wD, hwD⟩ : ∃ wD, ((wB.setCell ⟨g, a, none⟩ (.int .u32 (nt dp p))).setCell ⟨g, p, none⟩ (.int .u32 (nt dp a))).drew = wD := ⟨_, rfl⟩
          rw [hwD] at HS5 HK5 ⊢
          clear h1 h2 c0 c1 c2 f0 f1 hwD
          have HZ5 := hid (show (swp dp a p).size = N by rw [size_swp]; exact HZ2.out)
          go_wp2_with fail
          refine ((sift_any HS5.out HZ5.out cap (lo := 0) (hi := m) (f := a) (by omega) (by omega) hd)).mono ?_
          rintro e w' ⟨rfl, hs, hk2⟩
          have HS3 := hid hs; have HK3 := hid (HK5.out.trans hk2)
          clear hs hk2
          go_wp2
          go_roundw
          case rel => exact ⟨(m : Int) - 1, m, _, rfl, by omega, by omega, by rw [sift_size]; exact HZ5.out, HS3.out, HK3.out, by rw [← HE2.out, Go.Sort.heapPop, ← HP.out]⟩
          case measure => (simp [intOf]; try omega)
        · obtain rfl : k = 0 := by omega
          obtain rfl : z = -1 := by omega
          clear hz
          go_wp2
          go_end0
          exact ⟨rfl, by rw [← HE2.out, Go.Sort.heapPop]; exact HS2.out, HK2.out⟩
end Go.Proofs.Ytpjhdpfaogdboaa
