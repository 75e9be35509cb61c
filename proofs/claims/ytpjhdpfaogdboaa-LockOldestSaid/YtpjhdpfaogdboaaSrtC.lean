/- insertionSort, siftDown, heapSort. -/
import Derived.Test.YtpjhdpfaogdboaaSrtB
namespace Go.Proofs.Ytpjhdpfaogdboaa
set_option linter.unusedSimpArgs false
set_option linter.unusedVariables false
open Go.RowKit
open Go.Sort (swp ltInt)

def SrtEnd (w : World) (g : Nat) (tl : List Value) (d' : Array Int) (e : Ending) (w' : World) : Prop := e = .returned (.tuple #[]) ∧ Srt w' g d' tl ∧ Kept (fun k => k = g) w w'
theorem insInner_yes {a m : Nat} {d : Array Int} (h : a < m + 1) (hl : ls d (m + 1) m = true) : Go.Sort.insInner ltInt a (m + 1) d = Go.Sort.insInner ltInt a m (swp d (m + 1) m) := by
  rw [Go.Sort.insInner, ls_eq, hl, if_pos (by simpa using h)]
theorem insInner_no {a j : Nat} {d : Array Int} (h : ∀ m, j = m + 1 → a < m + 1 → ls d (m + 1) m = false) : Go.Sort.insInner ltInt a j d = d := by
  cases j with
  | zero => rw [Go.Sort.insInner]
  | succ m =>
    rw [Go.Sort.insInner, ls_eq]
    split
    · rename_i hc
      simp only [gt_iff_lt, Bool.and_eq_true, decide_eq_true_eq] at hc
      rw [h m rfl hc.1] at hc
      exact absurd hc.2 (by decide)
    · rfl
theorem insOuter_step {a b i : Nat} {d : Array Int} (h : i < b) : Go.Sort.insOuter ltInt a b i d = Go.Sort.insOuter ltInt a b (i + 1) (Go.Sort.insInner ltInt a i d) := by
  rw [Go.Sort.insOuter, if_pos h]
theorem insOuter_end {a b i : Nat} {d : Array Int} (h : ¬ i < b) : Go.Sort.insOuter ltInt a b i d = d := by
  rw [Go.Sort.insOuter, if_neg h]
/-- behind a swap that a region has drawn -/
theorem Srt.swapd {w : World} {g : Nat} {d : Array Int} {tl : List Value} (h : Srt w g d tl) {i j : Nat} (hi : i < d.size) (hj : j < d.size) :
    Srt ((w.setCell ⟨g, i, none⟩ (.int .u32 (nt d j))).setCell ⟨g, j, none⟩ (.int .u32 (nt d i))).drew g (swp d i j) tl ∧ Kept (fun k => k = g) w ((w.setCell ⟨g, i, none⟩ (.int .u32 (nt d j))).setCell ⟨g, j, none⟩ (.int .u32 (nt d i))).drew :=
  ⟨h.swap hi hj, (kept_swap w).drew⟩
theorem Srt.drewN {w : World} {g : Nat} {d : Array Int} {tl : List Value} (h : Srt w g d tl) (n : Nat) : Srt (w.drewN n) g d tl := h
set_option maxRecDepth 100000 in
set_option maxHeartbeats 1000000 in
theorem ins_any {w : World} {g : Nat} {d : Array Int} {tl : List Value} (h : Srt w g d tl) {N : Nat} (hN : d.size = N) (cap : Nat) {a b : Nat} (hab : a ≤ b) (hb : b ≤ N) (hd : N < 50) :
    Calls Try.prog 76 #[.slice (some ⟨g, 0, none⟩) N cap, .int .i64 a, .int .i64 b] w (SrtEnd w g tl (Go.Sort.insertionSort ltInt d a b)) := by
  have H := hid h; have HN := hid hN
  clear h hN
  go_enter Try.func76, Try.ntmps76
  go_wp2_with fail
  go_loopw [6] (fun i wr => ∃ (k : Nat) (dk : Array Int), i = .int .i64 k ∧ a + 1 ≤ k ∧ (k ≤ b ∨ k = a + 1) ∧ dk.size = N ∧ Srt wr g dk tl ∧ Kept (fun k => k = g) w wr ∧ Go.Sort.insOuter ltInt a b k dk = Go.Sort.insertionSort ltInt d a b) (fun i _ => b - (intOf i).toNat)
  case atStart => exact ⟨a + 1, d, by go_num, Nat.le_refl _, .inr rfl, HN.out, H.out, Kept.refl _ _, rfl⟩
  case round =>
    rename World => wA
    obtain ⟨k, dk, rfl, hk, hkb, hsz, hs, hkp, heq⟩ := hrel
    have HS := hid hs; have HK := hid hkp; have HE := hid heq; have HZ := hid hsz
    clear hs hkp heq H
    by_cases hlt : k < b
    · have hkd : k < dk.size := by omega
      clear hsz
      go_wp2_with fail
      go_loopw [7] (fun j wr => ∃ (jn : Nat) (dj : Array Int), j = .int .i64 jn ∧ a ≤ jn ∧ jn ≤ k ∧ dj.size = N ∧ Srt wr g dj tl ∧ Kept (fun k => k = g) wA wr ∧ Go.Sort.insInner ltInt a jn dj = Go.Sort.insInner ltInt a k dk) (fun j _ => (intOf j).toNat)
      case atStart => exact ⟨k, dk, rfl, by omega, Nat.le_refl _, HZ.out, HS.out, Kept.refl _ _, rfl⟩
      case round =>
        rename World => wB
        obtain ⟨jn, dj, rfl, hja, hjk, hsz, hs, hkp, heq⟩ := hrel
        have HS2 := hid hs; have HK2 := hid hkp; have HE2 := hid heq; have HZ2 := hid hsz
        clear hs hkp heq
        by_cases hj : a < jn
        · obtain ⟨m, rfl⟩ : ∃ m, jn = m + 1 := ⟨jn - 1, by omega⟩
          have c0 := HS2.out.cell (i := m + 1) (by omega)
          have c1 := HS2.out.cell (i := m) (by omega)
          have f0 := HS2.out.free (m + 1)
          have f1 := HS2.out.free m
          have hjd : m + 1 < dj.size := by omega
          clear hsz
          obtain ⟨t, ht⟩ : ∃ t, ls dj (m + 1) m = t := ⟨_, rfl⟩
          have HT := hid ht; clear ht
          have hdec : decide ((a : Int) < (m : Int) + 1) = true := by simp; omega
          go_wp2_with fail
          go_quiet ((go_at_call 82; exact Calls.quiet_of_same (less_any _ _ _ _)))
          have HS3 := hid (HS2.out.drewN nq)
          have HK3 := hid (HK2.out.trans (kept_drewN wB nq))
          obtain ⟨wC, hwC⟩ : ∃ wC, wB.drewN nq = wC := ⟨_, rfl⟩
          rw [hwC] at HS3 HK3 ⊢
          rw [HT.out]
          clear c0 c1 f0 f1 hwC hdec
          cases t with
          | true =>
            have c0 := HS3.out.cell (i := m + 1) (by omega)
            have c1 := HS3.out.cell (i := m) (by omega)
            have f0 := HS3.out.free (m + 1)
            have f1 := HS3.out.free m
            go_wp2_with fail
            go_region
            obtain ⟨h1, h2⟩ := HS3.out.swapd (i := m + 1) (j := m) (by omega) (by omega)
            have HS4 := hid h1; have HK4 := hid (HK3.out.trans h2)
            clear h1 h2 c0 c1 f0 f1
            go_wp2
            go_roundw
            case rel => exact ⟨m, _, by go_num, by omega, by omega, by rw [size_swp]; exact HZ2.out, HS4.out, HK4.out, by rw [← HE2.out, insInner_yes (by omega) HT.out]⟩
            case measure => (simp [intOf]; try omega)
          | false =>
            go_wp2_with fail
            go_roundw
            case rel => exact ⟨k + 1, dj, by go_num, by omega, .inl (by omega), HZ2.out, HS3.out, HK.out.trans HK3.out, by rw [← HE.out, insOuter_step hlt, ← HE2.out, insInner_no (fun m' e _ => by cases e; exact HT.out)]⟩
            case measure => (simp [intOf]; try omega)
        · obtain rfl : jn = a := by omega
          have hdec : decide ((jn : Int) < (jn : Int)) = false := by simp
          go_wp2_with fail
          go_quiet ((go_at_call 82; exact Calls.quiet_of_same (less_any _ _ _ _)))
          go_wp2_with fail
          go_roundw
          case rel => exact ⟨k + 1, dj, by go_num, by omega, .inl (by omega), HZ2.out, HS2.out.drewN nq, (HK.out.trans HK2.out).trans (kept_drewN _ nq), by rw [← HE.out, insOuter_step hlt, ← HE2.out, insInner_no (fun m' e h => by omega)]⟩
          case measure => (simp [intOf]; try omega)
    · go_wp2
      go_end0
      exact ⟨rfl, by rw [← HE.out, insOuter_end hlt]; exact HS.out, HK.out⟩
/-! ### the heap -/
theorem siftDown_step {hi f r c : Nat} {d : Array Int} (hc : 2 * r + 1 < hi) (e : c = if 2 * r + 1 + 1 < hi ∧ ls d (f + (2 * r + 1)) (f + (2 * r + 1) + 1) = true then 2 * r + 2 else 2 * r + 1) :
    Go.Sort.siftDown ltInt hi f r d = if ls d (f + r) (f + c) = true then Go.Sort.siftDown ltInt hi f c (swp d (f + r) (f + c)) else d := by
  rw [Go.Sort.siftDown, dif_neg (by omega)]
  simp only [ls_eq]
  by_cases h : 2 * r + 1 + 1 < hi ∧ ls d (f + (2 * r + 1)) (f + (2 * r + 1) + 1) = true
  · rw [if_pos h] at e
    subst e
    rw [if_pos (by simpa using h), dif_pos (by omega)]
    cases ls d (f + r) (f + (2 * r + 2)) <;> simp
  · rw [if_neg h] at e
    subst e
    rw [if_neg (by simpa using h)]
    cases ls d (f + r) (f + (2 * r + 1)) <;> simp
theorem siftDown_end {hi f r : Nat} {d : Array Int} (hc : ¬ 2 * r + 1 < hi) : Go.Sort.siftDown ltInt hi f r d = d := by
  rw [Go.Sort.siftDown, dif_pos (by omega)]
set_option maxRecDepth 100000 in
set_option maxHeartbeats 1000000 in
theorem sift_any {w : World} {g : Nat} {d : Array Int} {tl : List Value} (h : Srt w g d tl) {N : Nat} (hN : d.size = N) (cap : Nat) {lo hi f : Nat} (hf : f + hi ≤ N) (hlo : lo ≤ N) (hd : N < 50) :
    Calls Try.prog 95 #[.slice (some ⟨g, 0, none⟩) N cap, .int .i64 lo, .int .i64 hi, .int .i64 f] w (SrtEnd w g tl (Go.Sort.siftDown ltInt hi f lo d)) := by
  have H := hid h; have HN := hid hN
  clear h hN
  go_enter Try.func95, Try.ntmps95
  go_wp2_with fail
  go_loopw [8] (fun r wr => ∃ (k : Nat) (dk : Array Int), r = .int .i64 k ∧ k ≤ N ∧ dk.size = N ∧ Srt wr g dk tl ∧ Kept (fun k => k = g) w wr ∧ Go.Sort.siftDown ltInt hi f k dk = Go.Sort.siftDown ltInt hi f lo d) (fun r _ => N - (intOf r).toNat)
  case atStart => exact ⟨lo, d, rfl, hlo, HN.out, H.out, Kept.refl _ _, rfl⟩
  case round =>
    rename World => wA
    obtain ⟨k, dk, rfl, hk, hsz, hs, hkp, heq⟩ := hrel
    have HS := hid hs; have HK := hid hkp; have HE := hid heq
    clear hs hkp heq H
    by_cases hlt : 2 * k + 1 < hi
    · obtain ⟨c, hc⟩ : ∃ c, c = if 2 * k + 1 + 1 < hi ∧ ls dk (f + (2 * k + 1)) (f + (2 * k + 1) + 1) = true then 2 * k + 2 else 2 * k + 1 := ⟨_, rfl⟩
      have hst := siftDown_step hlt hc
      have hcb : k < c ∧ c < hi := by rw [hc]; split <;> omega
      have HST := hid hst
      have HC := hid hc
      clear hst hc
      obtain ⟨p0, hp0⟩ : ∃ p, p = f + k := ⟨_, rfl⟩
      obtain ⟨c1, hc1⟩ : ∃ p, p = 2 * k + 1 := ⟨_, rfl⟩
      obtain ⟨p1, hp1⟩ : ∃ p, p = f + c1 := ⟨_, rfl⟩
      obtain ⟨c2, hc2⟩ : ∃ p, p = c1 + 1 := ⟨_, rfl⟩
      obtain ⟨p2, hp2⟩ : ∃ p, p = f + c2 := ⟨_, rfl⟩
      have hch : c1 < hi := by omega
      have hchd : decide ((hi : Int) ≤ (c1 : Int)) = false := by simp; omega
      have e1 : 2 * (k : Int) + 1 = (c1 : Int) := by omega
      have e2 : (c1 : Int) + 1 = (c2 : Int) := by omega
      have e3 : (f : Int) + (c1 : Int) = (p1 : Int) := by omega
      have e4 : (f : Int) + (c2 : Int) = (p2 : Int) := by omega
      have e5 : (p1 : Int) + 1 = (p2 : Int) := by omega
      have e6 : (f : Int) + (k : Int) = (p0 : Int) := by omega
      have P0 := hid hp0; have C1 := hid hc1; have P1 := hid hp1; have C2 := hid hc2; have P2 := hid hp2
      have g0 : p0 < N ∧ p1 < N ∧ (c2 < hi → p2 < N) := by omega
      have g1 : c1 ≤ N ∧ c2 ≤ N + 1 := by omega
      have hcc : c = if c2 < hi ∧ ls dk p1 p2 = true then c2 else c1 := by
        rw [HC.out, hp1, hp2, hc2, hc1]
        rfl
      rw [← hp0] at HST
      have HCC := hid hcc
      clear hp0 hc1 hp1 hc2 hp2 hcc
      have a0 := HS.out.cell (i := p0) (by omega)
      have a1 := HS.out.cell (i := p1) (by omega)
      have f0 := HS.out.free p0
      have f1 := HS.out.free p1
      by_cases h2 : c2 < hi
      · have a2 := HS.out.cell (i := p2) (by omega)
        have f2 := HS.out.free p2
        have hdec : decide ((c2 : Int) < (hi : Int)) = true := by simp; omega
        have hg2 := g0.2.2 h2
        obtain ⟨t, ht⟩ : ∃ t, ls dk p1 p2 = t := ⟨_, rfl⟩
        have HT := hid ht; clear ht
        go_wp2_with fail
        go_quiet ((go_at_call 82; exact Calls.quiet_of_same (less_any _ _ _ _)))
        rw [HT.out]
        have HS3 := hid (HS.out.drewN nq)
        have HK3 := hid (HK.out.trans (kept_drewN wA nq))
        obtain ⟨wC, hwC⟩ : ∃ wC, wA.drewN nq = wC := ⟨_, rfl⟩
        rw [hwC] at HS3 HK3 ⊢
        clear a0 a1 a2 f0 f1 f2 hwC
        cases t with
        | true =>
          have EC := hid (show c = c2 by rw [HCC.out, if_pos ⟨h2, HT.out⟩])
          obtain ⟨u, hu⟩ : ∃ u, ls dk p0 p2 = u := ⟨_, rfl⟩
          have HU := hid hu; clear hu
          have b0 := HS3.out.cell (i := p0) (by omega)
          have b1 := HS3.out.cell (i := p2) (by omega)
          go_wp2_with fail
          go_quiet ((go_at_call 82; exact Calls.quiet_of_same (less_any _ _ _ _)))
          rw [HU.out]
          have HS4 := hid (HS3.out.drewN nq)
          have HK4 := hid (HK3.out.trans (kept_drewN wC nq))
          obtain ⟨wD, hwD⟩ : ∃ wD, wC.drewN nq = wD := ⟨_, rfl⟩
          rw [hwD] at HS4 HK4 ⊢
          clear b0 b1 hwD
          have hfc : f + c = p2 := by rw [EC.out]; exact P2.out.symm
          have HFC := hid hfc; clear hfc
          cases u with
          | true =>
            have b0 := HS4.out.cell (i := p0) (by omega)
            have b1 := HS4.out.cell (i := p2) (by omega)
            have f0 := HS4.out.free p0
            have f1 := HS4.out.free p2
            go_wp2_with fail
            go_region
            obtain ⟨h1, h2⟩ := HS4.out.swapd (i := p0) (j := p2) (by omega) (by omega)
            have HS5 := hid h1; have HK5 := hid (HK4.out.trans h2)
            clear h1 h2 b0 b1 f0 f1
            go_wp2
            go_roundw
            case rel => exact ⟨c2, _, rfl, by omega, by rw [size_swp]; exact hsz, HS5.out, HK5.out, by rw [← HE.out, HST.out, HFC.out, HU.out, if_pos rfl, EC.out]⟩
            case measure => (have hc := EC.out; simp [intOf]; omega)
          | false =>
            go_wp2
            go_end0
            exact ⟨rfl, by rw [← HE.out, HST.out, HFC.out, HU.out, if_neg (by decide)]; exact HS4.out, HK4.out⟩
        | false =>
          have EC := hid (show c = c1 by rw [HCC.out, if_neg (by rw [HT.out]; simp)])
          obtain ⟨u, hu⟩ : ∃ u, ls dk p0 p1 = u := ⟨_, rfl⟩
          have HU := hid hu; clear hu
          have b0 := HS3.out.cell (i := p0) (by omega)
          have b1 := HS3.out.cell (i := p1) (by omega)
          go_wp2_with fail
          go_quiet ((go_at_call 82; exact Calls.quiet_of_same (less_any _ _ _ _)))
          rw [HU.out]
          have HS4 := hid (HS3.out.drewN nq)
          have HK4 := hid (HK3.out.trans (kept_drewN wC nq))
          obtain ⟨wD, hwD⟩ : ∃ wD, wC.drewN nq = wD := ⟨_, rfl⟩
          rw [hwD] at HS4 HK4 ⊢
          clear b0 b1 hwD
          have hfc : f + c = p1 := by rw [EC.out]; exact P1.out.symm
          have HFC := hid hfc; clear hfc
          cases u with
          | true =>
            have b0 := HS4.out.cell (i := p0) (by omega)
            have b1 := HS4.out.cell (i := p1) (by omega)
            have f0 := HS4.out.free p0
            have f1 := HS4.out.free p1
            go_wp2_with fail
            go_region
            obtain ⟨h1, h2⟩ := HS4.out.swapd (i := p0) (j := p1) (by omega) (by omega)
            have HS5 := hid h1; have HK5 := hid (HK4.out.trans h2)
            clear h1 h2 b0 b1 f0 f1
            go_wp2
            go_roundw
            case rel => exact ⟨c1, _, rfl, by omega, by rw [size_swp]; exact hsz, HS5.out, HK5.out, by rw [← HE.out, HST.out, HFC.out, HU.out, if_pos rfl, EC.out]⟩
            case measure => (have hc := EC.out; simp [intOf]; omega)
          | false =>
            go_wp2
            go_end0
            exact ⟨rfl, by rw [← HE.out, HST.out, HFC.out, HU.out, if_neg (by decide)]; exact HS4.out, HK4.out⟩
      · have hdec : decide ((c2 : Int) < (hi : Int)) = false := by simp; omega
        go_wp2_with fail
        go_quiet ((go_at_call 82; exact Calls.quiet_of_same (less_any _ _ _ _)))
        have HS3 := hid (HS.out.drewN nq)
        have HK3 := hid (HK.out.trans (kept_drewN wA nq))
        obtain ⟨wC, hwC⟩ : ∃ wC, wA.drewN nq = wC := ⟨_, rfl⟩
        rw [hwC] at HS3 HK3 ⊢
        clear a0 a1 f0 f1 hwC
        have EC := hid (show c = c1 by rw [HCC.out, if_neg (by omega)])
        obtain ⟨u, hu⟩ : ∃ u, ls dk p0 p1 = u := ⟨_, rfl⟩
        have HU := hid hu; clear hu
        have b0 := HS3.out.cell (i := p0) (by omega)
        have b1 := HS3.out.cell (i := p1) (by omega)
        go_wp2_with fail
        go_quiet ((go_at_call 82; exact Calls.quiet_of_same (less_any _ _ _ _)))
        rw [HU.out]
        have HS4 := hid (HS3.out.drewN nq)
        have HK4 := hid (HK3.out.trans (kept_drewN wC nq))
        obtain ⟨wD, hwD⟩ : ∃ wD, wC.drewN nq = wD := ⟨_, rfl⟩
        rw [hwD] at HS4 HK4 ⊢
        clear b0 b1 hwD
        have hfc : f + c = p1 := by rw [EC.out]; exact P1.out.symm
        have HFC := hid hfc; clear hfc
        cases u with
        | true =>
          have b0 := HS4.out.cell (i := p0) (by omega)
          have b1 := HS4.out.cell (i := p1) (by omega)
          have f0 := HS4.out.free p0
          have f1 := HS4.out.free p1
          go_wp2_with fail
          go_region
          obtain ⟨h1, h2⟩ := HS4.out.swapd (i := p0) (j := p1) (by omega) (by omega)
          have HS5 := hid h1; have HK5 := hid (HK4.out.trans h2)
          clear h1 h2 b0 b1 f0 f1
          go_wp2
          go_roundw
          case rel => exact ⟨c1, _, rfl, by omega, by rw [size_swp]; exact hsz, HS5.out, HK5.out, by rw [← HE.out, HST.out, HFC.out, HU.out, if_pos rfl, EC.out]⟩
          case measure => (have hc := EC.out; simp [intOf]; omega)
        | false =>
          go_wp2
          go_end0
          exact ⟨rfl, by rw [← HE.out, HST.out, HFC.out, HU.out, if_neg (by decide)]; exact HS4.out, HK4.out⟩
    · have hlt2 : ¬ 2 * (k : Int) + 1 < (hi : Int) := by omega
      go_wp2
      go_end0
      exact ⟨rfl, by rw [← HE.out, siftDown_end hlt]; exact HS.out, HK.out⟩
end Go.Proofs.Ytpjhdpfaogdboaa
