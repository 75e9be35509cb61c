/- The scans; partialInsertionSort of fewer than 50; partitionEqual. -/
import Derived.Test.YtpjhdpfaogdboaaSrtD
namespace Go.Proofs.Ytpjhdpfaogdboaa
set_option linter.unusedSimpArgs false
set_option linter.unusedVariables false
open Go.RowKit
open Go.Sort (swp ltInt)

section
variable {p : Int → Bool} {d : Array Int} {i j b : Nat}
theorem scanUp_yes (h : i ≤ j) (hp : p d[i]! = true) : Go.Sort.scanUp p d j i = Go.Sort.scanUp p d j (i + 1) := by
  rw [Go.Sort.scanUp, hp]; simp [h]
theorem scanUp_no (h : i ≤ j → p d[i]! = false) : Go.Sort.scanUp p d j i = i := by
  rw [Go.Sort.scanUp]
  split
  · rename_i hc
    simp only [Bool.and_eq_true, decide_eq_true_eq] at hc
    rw [h hc.1] at hc
    exact absurd hc.2 (by decide)
  · rfl
theorem scanDown_yes (hi : 1 ≤ i) (h : i ≤ j) (hp : p d[j]! = true) : Go.Sort.scanDown p d i j = Go.Sort.scanDown p d i (j - 1) := by
  cases j with
  | zero => omega
  | succ j => rw [Go.Sort.scanDown, hp]; simp [h]
theorem scanDown_no (h : i ≤ j → p d[j]! = false) : Go.Sort.scanDown p d i j = j := by
  cases j with
  | zero => rw [Go.Sort.scanDown]
  | succ j =>
    rw [Go.Sort.scanDown]
    split
    · rename_i hc
      simp only [Bool.and_eq_true, decide_eq_true_eq] at hc
      rw [h hc.1] at hc
      exact absurd hc.2 (by decide)
    · rfl
theorem scanSorted_yes (h : i < b) (hp : ls d i (i - 1) = false) : Go.Sort.scanSorted ltInt d b i = Go.Sort.scanSorted ltInt d b (i + 1) := by
  rw [Go.Sort.scanSorted, ls_eq, hp]; simp [h]
theorem scanSorted_no (h : i < b → ls d i (i - 1) = true) : Go.Sort.scanSorted ltInt d b i = i := by
  rw [Go.Sort.scanSorted, ls_eq]
  split
  · rename_i hc
    simp only [Bool.and_eq_true, decide_eq_true_eq, Bool.not_eq_true'] at hc
    rw [h hc.1] at hc
    exact absurd hc.2 (by decide)
  · rfl
end
set_option maxRecDepth 100000 in
set_option maxHeartbeats 1000000 in
theorem pins_any {w : World} {g : Nat} {d : Array Int} {tl : List Value} (h : Srt w g d tl) {N : Nat} (hN : d.size = N) (cap : Nat) {a b : Nat} (hab : a < b) (hb : b ≤ N) (hd : N < 50) :
    Calls Try.prog 81 #[.slice (some ⟨g, 0, none⟩) N cap, .int .i64 a, .int .i64 b] w fun e w' => e = .returned (.bool (Go.Sort.partialInsertionSort ltInt d a b).2) ∧ (Go.Sort.partialInsertionSort ltInt d a b).1 = d ∧ Kept (fun _ => False) w w' := by
  have H := hid h; have HN := hid hN
  clear h hN
  have hdef : Hid (Go.Sort.partialInsertionSort ltInt d a b = (d, decide (Go.Sort.scanSorted ltInt d b (a + 1) = b))) := by
    refine hid ?_
    unfold Go.Sort.partialInsertionSort
    rw [Go.Sort.partialIns]
    simp only []
    split
    · rename_i h; rw [decide_eq_true h]
    · rename_i h; rw [if_pos (by omega), decide_eq_false h]
  go_enter Try.func81, Try.ntmps81
  go_wp2_with fail
  refine wp_loop_rounds 1 ?_
  rw [rounds_succ]
  go_wp2_with fail
  go_loopw [7] (fun i wr => ∃ k : Nat, i = .int .i64 k ∧ a + 1 ≤ k ∧ k ≤ b ∧ Srt wr g d tl ∧ Kept (fun _ => False) w wr ∧ Go.Sort.scanSorted ltInt d b k = Go.Sort.scanSorted ltInt d b (a + 1)) (fun i _ => b - (intOf i).toNat)
  case atStart => exact ⟨a + 1, by go_num, Nat.le_refl _, by omega, H.out, Kept.refl _ _, rfl⟩
  case round =>
    rename World => wA
    obtain ⟨k, rfl, hk, hkb, hs, hkp, heq⟩ := hrel
    have HS := hid hs; have HK := hid hkp; have HE := hid heq
    have HNN := HN.out
    clear hs hkp heq H
    by_cases hlt : k < b
    · obtain ⟨m, rfl⟩ : ∃ m, k = m + 1 := ⟨k - 1, by omega⟩
      have c0 := HS.out.cell (i := m + 1) (by omega)
      have c1 := HS.out.cell (i := m) (by omega)
      have hmN : m + 1 < N := by omega
      clear HNN
      have hdec : decide ((m : Int) + 1 < (b : Int)) = true := by simp; omega
      have hne : ((m : Int) + 1 == (b : Int)) = false := by simp; omega
      have h50 : (b : Int) - (a : Int) < 50 := by omega
      obtain ⟨t, ht⟩ : ∃ t, ls d (m + 1) m = t := ⟨_, rfl⟩
      have HT := hid ht; clear ht
      go_wp2_with fail
      go_quiet ((go_at_call 82; exact Calls.quiet_of_same (less_any _ _ _ _)))
      rw [HT.out]
      cases t with
      | true =>
        go_wp2
        go_ret
        rw [hdef.out]
        refine ⟨ret_bool (Eq.symm ?_), rfl, HK.out.trans (kept_drewN _ nq)⟩
        rw [decide_eq_false_iff_not, ← HE.out, scanSorted_no (fun _ => by simpa using HT.out)]
        omega
      | false =>
        go_wp2
        go_roundw
        case rel => exact ⟨m + 1 + 1, by go_num, by omega, by omega, HS.out.drewN nq, HK.out.trans (kept_drewN _ nq), by rw [← HE.out, ← scanSorted_yes hlt (by simpa using HT.out)]⟩
        case measure => (simp [intOf]; try omega)
    · obtain rfl : k = b := by omega
      clear HNN
      have hdec : decide ((k : Int) < (k : Int)) = false := by simp
      have hne : ((k : Int) == (k : Int)) = true := by simp
      go_wp2_with fail
      go_quiet ((go_at_call 82; exact Calls.quiet_of_same (less_any _ _ _ _)))
      go_wp2
      go_ret
      rw [hdef.out]
      refine ⟨ret_bool (Eq.symm ?_), rfl, HK.out.trans (kept_drewN _ nq)⟩
      rw [decide_eq_true_eq, ← HE.out, scanSorted_no (fun h => by omega)]
theorem partEq_step {a i j i2 j2 : Nat} {d : Array Int} (h1 : Go.Sort.scanUp (fun x => !ltInt d[a]! x) d j i = i2) (h2 : Go.Sort.scanDown (fun x => ltInt d[a]! x) d i2 j = j2) (hi : i ≤ i2) (hj : j2 ≤ j) :
    Go.Sort.partEqLoop ltInt a i j d = if i2 > j2 then (i2, d) else Go.Sort.partEqLoop ltInt a (i2 + 1) (j2 - 1) (swp d i2 j2) := by
  rw [Go.Sort.partEqLoop, h1, h2]
  by_cases h : i2 > j2
  · rw [if_pos h, if_pos h]
  · rw [if_neg h, if_neg h, dif_pos (by omega)]
set_option maxRecDepth 100000 in
set_option maxHeartbeats 2000000 in
theorem peq_any {w : World} {g : Nat} {d : Array Int} {tl : List Value} (h : Srt w g d tl) {N : Nat} (hN : d.size = N) (cap : Nat) {a b pv : Nat} (hap : a ≤ pv) (hpb : pv < b) (hb : b ≤ N) (hd : N < 50) :
    Calls Try.prog 83 #[.slice (some ⟨g, 0, none⟩) N cap, .int .i64 a, .int .i64 b, .int .i64 pv] w fun e w' => e = .returned (.int .i64 (Go.Sort.partitionEqual ltInt d a b pv).1) ∧ Srt w' g (Go.Sort.partitionEqual ltInt d a b pv).2 tl ∧ Kept (fun k => k = g) w w' := by
  have H := hid h; have HN := hid hN
  have c0 := h.cell (i := a) (by omega)
  have c1 := h.cell (i := pv) (by omega)
  have f0 := h.free a
  have f1 := h.free pv
  have haN : a < N ∧ pv < N := by omega
  obtain ⟨v', c2⟩ : ∃ v', (w.setCell ⟨g, a, none⟩ (.int .u32 (nt d pv))).cell? ⟨g, pv, none⟩ = some v' := ⟨_, (h.put a (nt d pv) (by omega)).cell (i := pv) (by simp; omega)⟩
  clear h hN
  go_enter Try.func83, Try.ntmps83
  go_wp2_with fail
  go_region
  obtain ⟨h1, h2⟩ := H.out.swapd (i := a) (j := pv) (by have := HN.out; omega) (by have := HN.out; omega)
  have HS := hid h1; have HK := hid h2
  have HZ := hid (show (swp d a pv).size = N by rw [size_swp]; exact HN.out)
  have hdef : Hid (Go.Sort.partitionEqual ltInt d a b pv = Go.Sort.partEqLoop ltInt a (a + 1) (b - 1) (swp d a pv)) := hid rfl
  obtain ⟨d1, hd1⟩ : ∃ d1, swp d a pv = d1 := ⟨_, rfl⟩
  obtain ⟨w1, hw1⟩ : ∃ w1, ((w.setCell ⟨g, a, none⟩ (.int .u32 (nt d pv))).setCell ⟨g, pv, none⟩ (.int .u32 (nt d a))).drew = w1 := ⟨_, rfl⟩
  rw [hw1] at HS HK ⊢
  rw [hd1] at HS HZ hdef
  clear h1 h2 c0 c1 c2 f0 f1 hw1 hd1 H HN
  obtain ⟨q, hq⟩ : ∃ q, b = q + 1 := ⟨b - 1, by omega⟩
  have HQ := hid hq
  have hqb : q < b ∧ q < N ∧ a ≤ q := by omega
  have e1 : (b : Int) - 1 = (q : Int) := by omega
  clear hq
  go_wp2_with fail
  clear e1
  go_loopw [9, 10] (fun i j wr => ∃ (k m : Nat) (dk : Array Int), i = .int .i64 k ∧ j = .int .i64 m ∧ a + 1 ≤ k ∧ k ≤ m + 1 ∧ m ≤ q ∧ dk.size = N ∧ Srt wr g dk tl ∧ Kept (fun k => k = g) w wr ∧ Go.Sort.partEqLoop ltInt a k m dk = Go.Sort.partitionEqual ltInt d a b pv) (fun i j _ => N + (intOf j).toNat - (intOf i).toNat)
  case atStart => exact ⟨a + 1, q, d1, by go_num, rfl, Nat.le_refl _, by omega, Nat.le_refl _, HZ.out, HS.out, HK.out, by rw [hdef.out, HQ.out]; rfl⟩
  case round =>
    rename World => wA
    obtain ⟨k, m, dk, rfl, rfl, hk, hkm, hmq, hsz, hs, hkp, heq⟩ := hrel
    have HS1 := hid hs; have HK1 := hid hkp; have HE := hid heq; have HZ1 := hid hsz
    clear hs hkp heq hsz HS HK HZ hdef
    go_wp2_with fail
    go_loopw [9] (fun i wr => ∃ u : Nat, i = .int .i64 u ∧ k ≤ u ∧ u ≤ m + 1 ∧ Srt wr g dk tl ∧ Kept (fun _ => False) wA wr ∧ Go.Sort.scanUp (fun x => !ltInt dk[a]! x) dk m u = Go.Sort.scanUp (fun x => !ltInt dk[a]! x) dk m k) (fun i _ => m + 1 - (intOf i).toNat)
    case atStart => exact ⟨k, rfl, Nat.le_refl _, hkm, HS1.out, Kept.refl _ _, rfl⟩
    case round =>
      rename World => wB
      obtain ⟨u, rfl, hku, hum, hs, hkp, heq⟩ := hrel
      have HS2 := hid hs; have HK2 := hid hkp; have HE2 := hid heq
      clear hs hkp heq
      have hZ := HZ1.out
      by_cases hlt : u ≤ m
      · have c0 := HS2.out.cell (i := a) (by omega)
        have c1 := HS2.out.cell (i := u) (by omega)
        have huN : u < N := by omega
        clear hZ
        have hdec : decide ((u : Int) ≤ (m : Int)) = true := by simp; omega
        obtain ⟨t, ht⟩ : ∃ t, ls dk a u = t := ⟨_, rfl⟩
        have HT := hid ht; clear ht
        go_wp2_with fail
        go_quiet ((go_at_call 82; exact Calls.quiet_of_same (less_any _ _ _ _)))
        rw [HT.out]
        clear c0 c1
        have HS3 := hid (HS2.out.drewN nq)
        have HK3 := hid (HK2.out.trans (kept_drewN wB nq))
        obtain ⟨wC, hwC⟩ : ∃ wC, wB.drewN nq = wC := ⟨_, rfl⟩
        rw [hwC] at HS3 HK3 ⊢
        clear hwC
        cases t with
        | false =>
          go_wp2
          go_roundw
          case rel => exact ⟨u + 1, by go_num, by omega, by omega, HS3.out, HK3.out, by rw [← HE2.out, ← scanUp_yes hlt (by rw [ls_eq, HT.out]; rfl)]⟩
          case measure => (simp [intOf]; try omega)
        | true =>
          have HU := hid (show Go.Sort.scanUp (fun x => !ltInt dk[a]! x) dk m k = u by rw [← HE2.out, scanUp_no (fun _ => by rw [ls_eq, HT.out]; rfl)])
          go_wp2_with fail
          go_loopw [10] (fun j wr => ∃ v : Nat, j = .int .i64 v ∧ u ≤ v + 1 ∧ v ≤ m ∧ Srt wr g dk tl ∧ Kept (fun _ => False) wA wr ∧ Go.Sort.scanDown (fun x => ltInt dk[a]! x) dk u v = Go.Sort.scanDown (fun x => ltInt dk[a]! x) dk u m) (fun j _ => (intOf j).toNat)
          case atStart => exact ⟨m, rfl, hum, Nat.le_refl _, HS3.out, HK3.out, rfl⟩
          case round =>
            rename World => wD
            obtain ⟨v, rfl, huv, hvm, hs, hkp, heq⟩ := hrel
            have HS4 := hid hs; have HK4 := hid hkp; have HE4 := hid heq
            clear hs hkp heq HS3 HK3 HS2 HK2 HE2
            have hZ := HZ1.out
            by_cases hlv : u ≤ v
            · have c0 := HS4.out.cell (i := a) (by omega)
              have c1 := HS4.out.cell (i := v) (by omega)
              have hvN : v < N := by omega
              clear hZ
              have hdec : decide ((u : Int) ≤ (v : Int)) = true := by simp; omega
              obtain ⟨t, ht⟩ : ∃ t, ls dk a v = t := ⟨_, rfl⟩
              have HT4 := hid ht; clear ht
              go_wp2_with fail
              go_quiet ((go_at_call 82; exact Calls.quiet_of_same (less_any _ _ _ _)))
              rw [HT4.out]
              clear c0 c1
              have HS5 := hid (HS4.out.drewN nq)
              have HK5 := hid (HK4.out.trans (kept_drewN wD nq))
              obtain ⟨wE, hwE⟩ : ∃ wE, wD.drewN nq = wE := ⟨_, rfl⟩
              rw [hwE] at HS5 HK5 ⊢
              clear hwE
              cases t with
              | true =>
                obtain ⟨z, hz⟩ : ∃ z : Nat, v = z + 1 := ⟨v - 1, by omega⟩
                subst hz
                go_wp2
                go_roundw
                case rel => exact ⟨z, by go_num, by omega, by omega, HS5.out, HK5.out, by rw [← HE4.out, scanDown_yes (by omega) hlv (by rw [ls_eq, HT4.out])]; rfl⟩
                case measure => (simp [intOf]; try omega)
              | false =>
                have HV := hid (show Go.Sort.scanDown (fun x => ltInt dk[a]! x) dk u m = v by rw [← HE4.out, scanDown_no (fun _ => by rw [ls_eq, HT4.out])])
                have HP := hid (partEq_step HU.out HV.out hku hvm)
                have hne : u < v := by
                  rcases Nat.lt_or_ge u v with h | h
                  · exact h
                  · have e : u = v := by omega
                    have h1 := HT.out; rw [e, HT4.out] at h1; cases h1
                have c0 := HS5.out.cell (i := u) (by have := HZ1.out; omega)
                have c1 := HS5.out.cell (i := v) (by have := HZ1.out; omega)
                have f0 := HS5.out.free u
                have f1 := HS5.out.free v
                have huN : u < N := by omega
                obtain ⟨v', c2⟩ : ∃ v', (wE.setCell ⟨g, u, none⟩ (.int .u32 (nt dk v))).cell? ⟨g, v, none⟩ = some v' := ⟨_, (HS5.out.put u (nt dk v) (by have := HZ1.out; omega)).cell (i := v) (by simp; have := HZ1.out; omega)⟩
                obtain ⟨z, hz⟩ : ∃ z : Nat, v = z + 1 := ⟨v - 1, by omega⟩
                have hgt : decide ((v : Int) < (u : Int)) = false := by simp; omega
                have hvz : (v : Int) - 1 = (z : Int) := by omega
                have HVZ := hid hz
                clear hz
                go_wp2_with fail
                go_region
                obtain ⟨h1, h2⟩ := HS5.out.swapd (i := u) (j := v) (by have := HZ1.out; omega) (by have := HZ1.out; omega)
                have HS6 := hid h1; have HK6 := hid ((HK1.out.trans (HK5.out.mono (fun _ _ h => h.elim))).trans h2)
                clear h1 h2 c0 c1 c2 f0 f1
                go_wp2
                go_roundw
                case rel => exact ⟨u + 1, z, _, by go_num, rfl, by omega, by have := HVZ.out; omega, by have := HVZ.out; omega, by rw [size_swp]; exact HZ1.out, HS6.out, HK6.out, by rw [← HE.out, HP.out, if_neg (by omega), HVZ.out]; rfl⟩
                case measure => (have := HVZ.out; simp [intOf]; try omega)
            · obtain ⟨u2, hu2⟩ : ∃ u2, v + 1 = u2 := ⟨_, rfl⟩
              have hvu : u = v + 1 := by omega
              have HVU := hid hvu
              clear hZ hvu hu2
              have hdec : decide ((u : Int) ≤ (v : Int)) = false := by simp; omega
              have hgt : decide ((v : Int) < (u : Int)) = true := by simp; omega
              have HV := hid (show Go.Sort.scanDown (fun x => ltInt dk[a]! x) dk u m = v by rw [← HE4.out, scanDown_no (fun h => by omega)])
              have HP := hid (partEq_step HU.out HV.out hku hvm)
              go_wp2_with fail
              go_quiet ((go_at_call 82; exact Calls.quiet_of_same (less_any _ _ _ _)))
              go_wp2
              go_ret
              rw [← HE.out, HP.out, if_pos (by omega)]
              exact ⟨rfl, HS4.out.drewN nq, (HK1.out.trans (HK4.out.mono (fun _ _ h => h.elim))).trans (kept_drewN _ nq)⟩
      · clear hZ
        have hdec : decide ((u : Int) ≤ (m : Int)) = false := by simp; omega
        go_wp2_with fail
        go_quiet ((go_at_call 82; exact Calls.quiet_of_same (less_any _ _ _ _)))
        have HS3 := hid (HS2.out.drewN nq)
        have HK3 := hid (HK2.out.trans (kept_drewN wB nq))
        obtain ⟨wC, hwC⟩ : ∃ wC, wB.drewN nq = wC := ⟨_, rfl⟩
        rw [hwC] at HS3 HK3 ⊢
        clear hwC
        have HU := hid (show Go.Sort.scanUp (fun x => !ltInt dk[a]! x) dk m k = u by rw [← HE2.out, scanUp_no (fun h => by omega)])
        go_wp2_with fail
        go_loopw [10] (fun j wr => ∃ v : Nat, j = .int .i64 v ∧ u ≤ v + 1 ∧ v ≤ m ∧ Srt wr g dk tl ∧ Kept (fun _ => False) wA wr ∧ Go.Sort.scanDown (fun x => ltInt dk[a]! x) dk u v = Go.Sort.scanDown (fun x => ltInt dk[a]! x) dk u m) (fun j _ => (intOf j).toNat)
        case atStart => exact ⟨m, rfl, hum, Nat.le_refl _, HS3.out, HK3.out, rfl⟩
        case round =>
          rename World => wD
          obtain ⟨v, rfl, huv, hvm, hs, hkp, heq⟩ := hrel
          have HS4 := hid hs; have HK4 := hid hkp; have HE4 := hid heq
          clear hs hkp heq HS3 HK3 HS2 HK2 HE2
          have hZ := HZ1.out
          have hlv : ¬ u ≤ v := by omega
          obtain ⟨u2, hu2⟩ : ∃ u2, v + 1 = u2 := ⟨_, rfl⟩
          have hvu : u = v + 1 := by omega
          have HVU := hid hvu
          clear hZ hvu hu2
          have hdec : decide ((u : Int) ≤ (v : Int)) = false := by simp; omega
          have hgt : decide ((v : Int) < (u : Int)) = true := by simp; omega
          have HV := hid (show Go.Sort.scanDown (fun x => ltInt dk[a]! x) dk u m = v by rw [← HE4.out, scanDown_no (fun h => by omega)])
          have HP := hid (partEq_step HU.out HV.out hku hvm)
          go_wp2_with fail
          go_quiet ((go_at_call 82; exact Calls.quiet_of_same (less_any _ _ _ _)))
          go_wp2
          go_ret
          rw [← HE.out, HP.out, if_pos (by omega)]
          exact ⟨rfl, HS4.out.drewN nq, (HK1.out.trans (HK4.out.mono (fun _ _ h => h.elim))).trans (kept_drewN _ nq)⟩
end Go.Proofs.Ytpjhdpfaogdboaa
