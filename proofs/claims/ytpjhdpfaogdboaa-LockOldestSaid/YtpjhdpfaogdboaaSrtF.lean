/- partition (printed by tools/part.py). -/
import Derived.Test.YtpjhdpfaogdboaaSrtE
namespace Go.Proofs.Ytpjhdpfaogdboaa
set_option linter.unusedSimpArgs false
set_option linter.unusedVariables false
open Go.RowKit
open Go.Sort (swp ltInt)

theorem part_step {a i j i2 j2 : Nat} {d : Array Int} (h1 : Go.Sort.scanUp (fun x => ltInt x d[a]!) d j i = i2) (h2 : Go.Sort.scanDown (fun x => !ltInt x d[a]!) d i2 j = j2) (hi : i ≤ i2) (hj : j2 ≤ j) :
    Go.Sort.partLoop ltInt a i j d = if i2 > j2 then (j2, d) else Go.Sort.partLoop ltInt a (i2 + 1) (j2 - 1) (swp d i2 j2) := by
  rw [Go.Sort.partLoop, h1, h2]
  by_cases h : i2 > j2
  · rw [if_pos h, if_pos h]
  · rw [if_neg h, if_neg h, dif_pos (by omega)]
theorem part_def {a b pv q i j : Nat} {d d1 : Array Int} {r : Nat × Bool × Array Int} (hr : Go.Sort.partition ltInt d a b pv = r) (hd : swp d a pv = d1) (hq : b = q + 1) (h1 : Go.Sort.scanUp (fun x => ltInt x d1[a]!) d1 q (a + 1) = i) (h2 : Go.Sort.scanDown (fun x => !ltInt x d1[a]!) d1 i q = j) :
    r = if i > j then (j, true, swp d1 j a) else ((Go.Sort.partLoop ltInt a (i + 1) (j - 1) (swp d1 i j)).1, false, swp (Go.Sort.partLoop ltInt a (i + 1) (j - 1) (swp d1 i j)).2 (Go.Sort.partLoop ltInt a (i + 1) (j - 1) (swp d1 i j)).1 a) := by
  subst hq
  rw [← hr]
  unfold Go.Sort.partition
  simp only [hd, Nat.add_sub_cancel, h1, h2]
set_option maxRecDepth 100000 in
set_option maxHeartbeats 4000000 in
theorem part_any {w : World} {g : Nat} {d : Array Int} {tl : List Value} (h : Srt w g d tl) {N : Nat} (hN : d.size = N) (cap : Nat) {a b pv : Nat} (hap : a ≤ pv) (hpb : pv < b) (hb : b ≤ N) (hd : N < 50) :
    Calls Try.prog 84 #[.slice (some ⟨g, 0, none⟩) N cap, .int .i64 a, .int .i64 b, .int .i64 pv] w fun e w' => e = .returned (.tuple #[.int .i64 (Go.Sort.partition ltInt d a b pv).1, .bool (Go.Sort.partition ltInt d a b pv).2.1]) ∧ Srt w' g (Go.Sort.partition ltInt d a b pv).2.2 tl ∧ Kept (fun k => k = g) w w' := by
  have HSw := hid h; have HZd := hid hN
  have haN : a < N ∧ pv < N := by omega
  clear h hN
  obtain ⟨q, hq⟩ : ∃ q, b = q + 1 := ⟨b - 1, by omega⟩
  have HQ := hid hq
  have hqb : q < b ∧ q < N ∧ a ≤ q := by omega
  have e1 : (b : Int) - 1 = (q : Int) := by omega
  clear hq
  go_enter Try.func84, Try.ntmps84
  have c0 := HSw.out.cell (i := a) (by have := HZd.out; omega)
  have c1 := HSw.out.cell (i := pv) (by have := HZd.out; omega)
  have f0 := HSw.out.free a
  have f1 := HSw.out.free pv
  obtain ⟨v', c2⟩ : ∃ v', (w.setCell ⟨g, a, none⟩ (.int .u32 (nt d pv))).cell? ⟨g, pv, none⟩ = some v' := ⟨_, (HSw.out.put a (nt d pv) (by have := HZd.out; omega)).cell (i := pv) (by simp; have := HZd.out; omega)⟩
  go_wp2_with fail
  go_region
  obtain ⟨h1, h2⟩ := HSw.out.swapd (i := a) (j := pv) (by have := HZd.out; omega) (by have := HZd.out; omega)
  have HSw1 := hid h1; have HKw1 := hid ((Kept.refl (fun k => k = g) w).trans h2)
  have HZd0 := hid (show (swp d a pv).size = N by rw [size_swp]; exact HZd.out)
  obtain ⟨w1, ho⟩ : ∃ x, ((w.setCell ⟨g, a, none⟩ (.int .u32 (nt d pv))).setCell ⟨g, pv, none⟩ (.int .u32 (nt d a))).drew = x := ⟨_, rfl⟩
  rw [ho] at HSw1 HKw1 ⊢
  clear h1 h2 c0 c1 c2 f0 f1 ho
  obtain ⟨d1, hd1⟩ : ∃ x, swp d a pv = x := ⟨_, rfl⟩
  rw [hd1] at HSw1 HZd0
  have HD1 := hid hd1; have HZd1 := hid HZd0.out
  clear hd1 HZd0
  go_wp2_with fail
  clear e1
  have hk1 : a + 1 ≤ q + 1 := by omega
  go_wp2_with fail
  go_loopw [10] (fun i wr => ∃ u : Nat, i = .int .i64 u ∧ (a + 1) ≤ u ∧ u ≤ q + 1 ∧ Srt wr g d1 tl ∧ Kept (fun _ => False) w1 wr ∧ Go.Sort.scanUp (fun x => ltInt x d1[a]!) d1 q u = Go.Sort.scanUp (fun x => ltInt x d1[a]!) d1 q (a + 1)) (fun i _ => q + 1 - (intOf i).toNat)
  case atStart => exact ⟨(a + 1), by first | rfl | go_num, Nat.le_refl _, by omega, HSw1.out, Kept.refl _ _, rfl⟩
  case round =>
    rename World => wu1
    obtain ⟨u1, rfl, hlu1, huh1, hs, hkp, heq⟩ := hrel
    have HSu1 := hid hs; have HKu1 := hid hkp; have HEu1 := hid heq
    clear hs hkp heq HSw1
    by_cases hlt1 : u1 ≤ q
    · have c0 := HSu1.out.cell (i := a) (by have := HZd1.out; omega)
      have c1 := HSu1.out.cell (i := u1) (by have := HZd1.out; omega)
      have huN1 : u1 < N := by omega
      have hdec : decide ((u1 : Int) ≤ (q : Int)) = true := by simp; omega
      obtain ⟨t, ht⟩ : ∃ t, ls d1 u1 a = t := ⟨_, rfl⟩
      have HTu1 := hid ht; clear ht
      go_wp2_with fail
      go_quiet ((go_at_call 82; exact Calls.quiet_of_same (less_any _ _ _ _)))
      rw [HTu1.out]
      clear c0 c1 hdec
      have HSx1 := hid (HSu1.out.drewN nq)
      have HKx1 := hid (HKu1.out.trans (kept_drewN wu1 nq))
      obtain ⟨x1, hx⟩ : ∃ x, wu1.drewN nq = x := ⟨_, rfl⟩
      rw [hx] at HSx1 HKx1 ⊢
      clear hx HSu1 HKu1
      cases t with
      | true =>
        go_wp2
        go_roundw
        case rel => exact ⟨u1 + 1, by go_num, by omega, by omega, HSx1.out, HKx1.out, by rw [← HEu1.out, ← scanUp_yes hlt1 (by rw [ls_eq, HTu1.out])]⟩
        case measure => (simp [intOf]; try omega)
      | false =>
        have HU1 := hid (show Go.Sort.scanUp (fun x => ltInt x d1[a]!) d1 q (a + 1) = u1 by rw [← HEu1.out, scanUp_no (fun _ => by rw [ls_eq, HTu1.out])])
        go_wp2_with fail
        go_loopw [11] (fun j wr => ∃ v : Nat, j = .int .i64 v ∧ u1 ≤ v + 1 ∧ v ≤ q ∧ Srt wr g d1 tl ∧ Kept (fun _ => False) x1 wr ∧ Go.Sort.scanDown (fun x => !ltInt x d1[a]!) d1 u1 v = Go.Sort.scanDown (fun x => !ltInt x d1[a]!) d1 u1 q) (fun j _ => (intOf j).toNat)
        case atStart => exact ⟨q, rfl, by omega, Nat.le_refl _, HSx1.out, Kept.refl _ _, rfl⟩
        case round =>
          rename World => wv2
          obtain ⟨v2, rfl, huv2, hvh2, hs, hkp, heq⟩ := hrel
          have HSv2 := hid hs; have HKv2 := hid hkp; have HEv2 := hid heq
          clear hs hkp heq HSx1
          by_cases hlv2 : u1 ≤ v2
          · have c0 := HSv2.out.cell (i := a) (by have := HZd1.out; omega)
            have c1 := HSv2.out.cell (i := v2) (by have := HZd1.out; omega)
            have hvN2 : v2 < N := by omega
            have hdec : decide ((u1 : Int) ≤ (v2 : Int)) = true := by simp; omega
            obtain ⟨t, ht⟩ : ∃ t, ls d1 v2 a = t := ⟨_, rfl⟩
            have HTv2 := hid ht; clear ht
            go_wp2_with fail
            go_quiet ((go_at_call 82; exact Calls.quiet_of_same (less_any _ _ _ _)))
            rw [HTv2.out]
            clear c0 c1 hdec
            have HSy2 := hid (HSv2.out.drewN nq)
            have HKy2 := hid (HKv2.out.trans (kept_drewN wv2 nq))
            obtain ⟨y2, hy⟩ : ∃ y, wv2.drewN nq = y := ⟨_, rfl⟩
            rw [hy] at HSy2 HKy2 ⊢
            clear hy HSv2 HKv2
            cases t with
            | false =>
              obtain ⟨z, hz⟩ : ∃ z : Nat, v2 = z + 1 := ⟨v2 - 1, by omega⟩
              subst hz
              go_wp2
              go_roundw
              case rel => exact ⟨z, by go_num, by omega, by omega, HSy2.out, HKy2.out, by rw [← HEv2.out, scanDown_yes (by omega) hlv2 (by rw [ls_eq, HTv2.out]; rfl)]; rfl⟩
              case measure => (simp [intOf]; try omega)
            | true =>
              have HV2 := hid (show Go.Sort.scanDown (fun x => !ltInt x d1[a]!) d1 u1 q = v2 by rw [← HEv2.out, scanDown_no (fun _ => by rw [ls_eq, HTv2.out]; rfl)])
              have hne : u1 < v2 := by
                rcases Nat.lt_or_ge u1 v2 with h | h
                · exact h
                · have e : u1 = v2 := by omega
                  have h1 := HTu1.out; rw [e, HTv2.out] at h1; cases h1
              have hgt : decide ((v2 : Int) < (u1 : Int)) = false := by simp; omega
              obtain ⟨z, hz⟩ : ∃ z : Nat, v2 = z + 1 := ⟨v2 - 1, by omega⟩
              have hvz : (v2 : Int) - 1 = (z : Int) := by omega
              have hzb : u1 + 1 ≤ z + 1 ∧ z ≤ q := by omega
              have HVZ := hid hz
              clear hz
              have c0 := HSy2.out.cell (i := u1) (by have := HZd1.out; omega)
              have c1 := HSy2.out.cell (i := v2) (by have := HZd1.out; omega)
              have f0 := HSy2.out.free u1
              have f1 := HSy2.out.free v2
              obtain ⟨v', c2⟩ : ∃ v', (y2.setCell ⟨g, u1, none⟩ (.int .u32 (nt d1 v2))).cell? ⟨g, v2, none⟩ = some v' := ⟨_, (HSy2.out.put u1 (nt d1 v2) (by have := HZd1.out; omega)).cell (i := v2) (by simp; have := HZd1.out; omega)⟩
              go_wp2_with fail
              go_region
              obtain ⟨h1, h2⟩ := HSy2.out.swapd (i := u1) (j := v2) (by have := HZd1.out; omega) (by have := HZd1.out; omega)
              have HSwf := hid h1; have HKwf := hid ((HKw1.out.trans ((HKx1.out.trans HKy2.out).mono (fun _ _ h => h.elim))).trans h2)
              have HZdf := hid (show (swp d1 u1 v2).size = N by rw [size_swp]; exact HZd1.out)
              obtain ⟨wf, ho⟩ : ∃ x, ((y2.setCell ⟨g, u1, none⟩ (.int .u32 (nt d1 v2))).setCell ⟨g, v2, none⟩ (.int .u32 (nt d1 u1))).drew = x := ⟨_, rfl⟩
              rw [ho] at HSwf HKwf ⊢
              clear h1 h2 c0 c1 c2 f0 f1 ho
              obtain ⟨R, hR⟩ : ∃ R, Go.Sort.partLoop ltInt a (u1 + 1) z (swp d1 u1 v2) = R := ⟨_, rfl⟩
              have HR := hid hR
              have HDEF : Hid (Go.Sort.partition ltInt d a b pv = (R.1, false, swp R.2 R.1 a)) := by
                refine hid ?_
                rw [part_def rfl HD1.out HQ.out HU1.out HV2.out, if_neg (by omega)]
                rw [show v2 - 1 = z by have := HVZ.out; omega, hR]
              clear hR
              go_wp2_with fail
              go_loopw [10, 11] (fun i j wr => ∃ (k0 m0 : Nat) (dk : Array Int), i = .int .i64 k0 ∧ j = .int .i64 m0 ∧ a + 1 ≤ k0 ∧ k0 ≤ m0 + 1 ∧ m0 ≤ q ∧ dk.size = N ∧ Srt wr g dk tl ∧ Kept (fun k => k = g) w wr ∧ Go.Sort.partLoop ltInt a k0 m0 dk = R) (fun i j _ => N + (intOf j).toNat - (intOf i).toNat)
              case atStart => exact ⟨_, z, _, by go_num, rfl, by omega, by omega, by omega, HZdf.out, HSwf.out, HKwf.out, HR.out⟩
              case round =>
                rename World => wo
                obtain ⟨k0, m0, dk, rfl, rfl, hk0, hkm0, hmq0, hsz, hs, hkp, heq⟩ := hrel
                have HSwo := hid hs; have HKwo := hid hkp; have HEo := hid heq; have HZdk := hid hsz
                clear hs hkp heq hsz HSwf HKwf HR
                go_wp2_with fail
                go_loopw [10] (fun i wr => ∃ u : Nat, i = .int .i64 u ∧ k0 ≤ u ∧ u ≤ m0 + 1 ∧ Srt wr g dk tl ∧ Kept (fun _ => False) wo wr ∧ Go.Sort.scanUp (fun x => ltInt x dk[a]!) dk m0 u = Go.Sort.scanUp (fun x => ltInt x dk[a]!) dk m0 k0) (fun i _ => m0 + 1 - (intOf i).toNat)
                case atStart => exact ⟨k0, by first | rfl | go_num, Nat.le_refl _, by omega, HSwo.out, Kept.refl _ _, rfl⟩
                case round =>
                  rename World => wu4
                  obtain ⟨u4, rfl, hlu4, huh4, hs, hkp, heq⟩ := hrel
                  have HSu4 := hid hs; have HKu4 := hid hkp; have HEu4 := hid heq
                  clear hs hkp heq HSwo
                  by_cases hlt4 : u4 ≤ m0
                  · have c0 := HSu4.out.cell (i := a) (by have := HZdk.out; omega)
                    have c1 := HSu4.out.cell (i := u4) (by have := HZdk.out; omega)
                    have huN4 : u4 < N := by omega
                    have hdec : decide ((u4 : Int) ≤ (m0 : Int)) = true := by simp; omega
                    obtain ⟨t, ht⟩ : ∃ t, ls dk u4 a = t := ⟨_, rfl⟩
                    have HTu4 := hid ht; clear ht
                    go_wp2_with fail
                    go_quiet ((go_at_call 82; exact Calls.quiet_of_same (less_any _ _ _ _)))
                    rw [HTu4.out]
                    clear c0 c1 hdec
                    have HSx4 := hid (HSu4.out.drewN nq)
                    have HKx4 := hid (HKu4.out.trans (kept_drewN wu4 nq))
                    obtain ⟨x4, hx⟩ : ∃ x, wu4.drewN nq = x := ⟨_, rfl⟩
                    rw [hx] at HSx4 HKx4 ⊢
                    clear hx HSu4 HKu4
                    cases t with
                    | true =>
                      go_wp2
                      go_roundw
                      case rel => exact ⟨u4 + 1, by go_num, by omega, by omega, HSx4.out, HKx4.out, by rw [← HEu4.out, ← scanUp_yes hlt4 (by rw [ls_eq, HTu4.out])]⟩
                      case measure => (simp [intOf]; try omega)
                    | false =>
                      have HU4 := hid (show Go.Sort.scanUp (fun x => ltInt x dk[a]!) dk m0 k0 = u4 by rw [← HEu4.out, scanUp_no (fun _ => by rw [ls_eq, HTu4.out])])
                      go_wp2_with fail
                      go_loopw [11] (fun j wr => ∃ v : Nat, j = .int .i64 v ∧ u4 ≤ v + 1 ∧ v ≤ m0 ∧ Srt wr g dk tl ∧ Kept (fun _ => False) x4 wr ∧ Go.Sort.scanDown (fun x => !ltInt x dk[a]!) dk u4 v = Go.Sort.scanDown (fun x => !ltInt x dk[a]!) dk u4 m0) (fun j _ => (intOf j).toNat)
                      case atStart => exact ⟨m0, rfl, by omega, Nat.le_refl _, HSx4.out, Kept.refl _ _, rfl⟩
                      case round =>
                        rename World => wv5
                        obtain ⟨v5, rfl, huv5, hvh5, hs, hkp, heq⟩ := hrel
                        have HSv5 := hid hs; have HKv5 := hid hkp; have HEv5 := hid heq
                        clear hs hkp heq HSx4
                        by_cases hlv5 : u4 ≤ v5
                        · have c0 := HSv5.out.cell (i := a) (by have := HZdk.out; omega)
                          have c1 := HSv5.out.cell (i := v5) (by have := HZdk.out; omega)
                          have hvN5 : v5 < N := by omega
                          have hdec : decide ((u4 : Int) ≤ (v5 : Int)) = true := by simp; omega
                          obtain ⟨t, ht⟩ : ∃ t, ls dk v5 a = t := ⟨_, rfl⟩
                          have HTv5 := hid ht; clear ht
                          go_wp2_with fail
                          go_quiet ((go_at_call 82; exact Calls.quiet_of_same (less_any _ _ _ _)))
                          rw [HTv5.out]
                          clear c0 c1 hdec
                          have HSy5 := hid (HSv5.out.drewN nq)
                          have HKy5 := hid (HKv5.out.trans (kept_drewN wv5 nq))
                          obtain ⟨y5, hy⟩ : ∃ y, wv5.drewN nq = y := ⟨_, rfl⟩
                          rw [hy] at HSy5 HKy5 ⊢
                          clear hy HSv5 HKv5
                          cases t with
                          | false =>
                            obtain ⟨z, hz⟩ : ∃ z : Nat, v5 = z + 1 := ⟨v5 - 1, by omega⟩
                            subst hz
                            go_wp2
                            go_roundw
                            case rel => exact ⟨z, by go_num, by omega, by omega, HSy5.out, HKy5.out, by rw [← HEv5.out, scanDown_yes (by omega) hlv5 (by rw [ls_eq, HTv5.out]; rfl)]; rfl⟩
                            case measure => (simp [intOf]; try omega)
                          | true =>
                            have HV5 := hid (show Go.Sort.scanDown (fun x => !ltInt x dk[a]!) dk u4 m0 = v5 by rw [← HEv5.out, scanDown_no (fun _ => by rw [ls_eq, HTv5.out]; rfl)])
                            have hne : u4 < v5 := by
                              rcases Nat.lt_or_ge u4 v5 with h | h
                              · exact h
                              · have e : u4 = v5 := by omega
                                have h1 := HTu4.out; rw [e, HTv5.out] at h1; cases h1
                            have hgt : decide ((v5 : Int) < (u4 : Int)) = false := by simp; omega
                            have HP := hid (part_step HU4.out HV5.out hlu4 hvh5)
                            obtain ⟨z, hz⟩ : ∃ z : Nat, v5 = z + 1 := ⟨v5 - 1, by omega⟩
                            have hvz : (v5 : Int) - 1 = (z : Int) := by omega
                            have HVZ := hid hz
                            clear hz
                            have c0 := HSy5.out.cell (i := u4) (by have := HZdk.out; omega)
                            have c1 := HSy5.out.cell (i := v5) (by have := HZdk.out; omega)
                            have f0 := HSy5.out.free u4
                            have f1 := HSy5.out.free v5
                            obtain ⟨v', c2⟩ : ∃ v', (y5.setCell ⟨g, u4, none⟩ (.int .u32 (nt dk v5))).cell? ⟨g, v5, none⟩ = some v' := ⟨_, (HSy5.out.put u4 (nt dk v5) (by have := HZdk.out; omega)).cell (i := v5) (by simp; have := HZdk.out; omega)⟩
                            go_wp2_with fail
                            go_region
                            obtain ⟨h1, h2⟩ := HSy5.out.swapd (i := u4) (j := v5) (by have := HZdk.out; omega) (by have := HZdk.out; omega)
                            have HSwe5 := hid h1; have HKwe5 := hid ((HKwo.out.trans ((HKx4.out.trans HKy5.out).mono (fun _ _ h => h.elim))).trans h2)
                            have HZde5 := hid (show (swp dk u4 v5).size = N by rw [size_swp]; exact HZdk.out)
                            obtain ⟨we5, ho⟩ : ∃ x, ((y5.setCell ⟨g, u4, none⟩ (.int .u32 (nt dk v5))).setCell ⟨g, v5, none⟩ (.int .u32 (nt dk u4))).drew = x := ⟨_, rfl⟩
                            rw [ho] at HSwe5 HKwe5 ⊢
                            clear h1 h2 c0 c1 c2 f0 f1 ho
                            go_wp2
                            go_roundw
                            case rel => exact ⟨u4 + 1, z, _, by go_num, rfl, by omega, by have := HVZ.out; omega, by have := HVZ.out; omega, HZde5.out, HSwe5.out, HKwe5.out, by rw [← HEo.out, HP.out, if_neg (by omega), HVZ.out]; rfl⟩
                            case measure => (have := HVZ.out; simp [intOf]; try omega)
                        · have hno5 : ¬ u4 ≤ v5 := hlv5
                          have hdec : decide ((u4 : Int) ≤ (v5 : Int)) = false := by simp; omega
                          go_wp2_with fail
                          go_quiet ((go_at_call 82; exact Calls.quiet_of_same (less_any _ _ _ _)))
                          clear hdec
                          have HSy5 := hid (HSv5.out.drewN nq)
                          have HKy5 := hid (HKv5.out.trans (kept_drewN wv5 nq))
                          obtain ⟨y5, hy⟩ : ∃ y, wv5.drewN nq = y := ⟨_, rfl⟩
                          rw [hy] at HSy5 HKy5 ⊢
                          clear hy HSv5 HKv5
                          have HV5 := hid (show Go.Sort.scanDown (fun x => !ltInt x dk[a]!) dk u4 m0 = v5 by rw [← HEv5.out, scanDown_no (fun h => by omega)])
                          have hgt : decide ((v5 : Int) < (u4 : Int)) = true := by simp; omega
                          have HP := hid (part_step HU4.out HV5.out hlu4 hvh5)
                          have c0 := HSy5.out.cell (i := v5) (by have := HZdk.out; omega)
                          have c1 := HSy5.out.cell (i := a) (by have := HZdk.out; omega)
                          have f0 := HSy5.out.free v5
                          have f1 := HSy5.out.free a
                          obtain ⟨v', c2⟩ : ∃ v', (y5.setCell ⟨g, v5, none⟩ (.int .u32 (nt dk a))).cell? ⟨g, a, none⟩ = some v' := ⟨_, (HSy5.out.put v5 (nt dk a) (by have := HZdk.out; omega)).cell (i := a) (by simp; have := HZdk.out; omega)⟩
                          go_wp2_with fail
                          go_region
                          obtain ⟨h1, h2⟩ := HSy5.out.swapd (i := v5) (j := a) (by have := HZdk.out; omega) (by have := HZdk.out; omega)
                          have HSwe5 := hid h1; have HKwe5 := hid ((HKwo.out.trans ((HKx4.out.trans HKy5.out).mono (fun _ _ h => h.elim))).trans h2)
                          have HZde5 := hid (show (swp dk v5 a).size = N by rw [size_swp]; exact HZdk.out)
                          obtain ⟨we5, ho⟩ : ∃ x, ((y5.setCell ⟨g, v5, none⟩ (.int .u32 (nt dk a))).setCell ⟨g, a, none⟩ (.int .u32 (nt dk v5))).drew = x := ⟨_, rfl⟩
                          rw [ho] at HSwe5 HKwe5 ⊢
                          clear h1 h2 c0 c1 c2 f0 f1 ho
                          go_wp2
                          go_ret2
                          have he : Go.Sort.partLoop ltInt a k0 m0 dk = (v5, dk) := by rw [HP.out, if_pos (by omega)]
                          rw [HDEF.out, ← HEo.out, he]
                          exact ⟨rfl, HSwe5.out, HKwe5.out⟩
                  · have hdec : decide ((u4 : Int) ≤ (m0 : Int)) = false := by simp; omega
                    go_wp2_with fail
                    go_quiet ((go_at_call 82; exact Calls.quiet_of_same (less_any _ _ _ _)))
                    clear hdec
                    have HSx4 := hid (HSu4.out.drewN nq)
                    have HKx4 := hid (HKu4.out.trans (kept_drewN wu4 nq))
                    obtain ⟨x4, hx⟩ : ∃ x, wu4.drewN nq = x := ⟨_, rfl⟩
                    rw [hx] at HSx4 HKx4 ⊢
                    clear hx HSu4 HKu4
                    have HU4 := hid (show Go.Sort.scanUp (fun x => ltInt x dk[a]!) dk m0 k0 = u4 by rw [← HEu4.out, scanUp_no (fun h => by omega)])
                    go_wp2_with fail
                    go_loopw [11] (fun j wr => ∃ v : Nat, j = .int .i64 v ∧ u4 ≤ v + 1 ∧ v ≤ m0 ∧ Srt wr g dk tl ∧ Kept (fun _ => False) x4 wr ∧ Go.Sort.scanDown (fun x => !ltInt x dk[a]!) dk u4 v = Go.Sort.scanDown (fun x => !ltInt x dk[a]!) dk u4 m0) (fun j _ => (intOf j).toNat)
                    case atStart => exact ⟨m0, rfl, by omega, Nat.le_refl _, HSx4.out, Kept.refl _ _, rfl⟩
                    case round =>
                      rename World => wv6
                      obtain ⟨v6, rfl, huv6, hvh6, hs, hkp, heq⟩ := hrel
                      have HSv6 := hid hs; have HKv6 := hid hkp; have HEv6 := hid heq
                      clear hs hkp heq HSx4
                      · have hno6 : ¬ u4 ≤ v6 := by omega
                        have hdec : decide ((u4 : Int) ≤ (v6 : Int)) = false := by simp; omega
                        go_wp2_with fail
                        go_quiet ((go_at_call 82; exact Calls.quiet_of_same (less_any _ _ _ _)))
                        clear hdec
                        have HSy6 := hid (HSv6.out.drewN nq)
                        have HKy6 := hid (HKv6.out.trans (kept_drewN wv6 nq))
                        obtain ⟨y6, hy⟩ : ∃ y, wv6.drewN nq = y := ⟨_, rfl⟩
                        rw [hy] at HSy6 HKy6 ⊢
                        clear hy HSv6 HKv6
                        have HV6 := hid (show Go.Sort.scanDown (fun x => !ltInt x dk[a]!) dk u4 m0 = v6 by rw [← HEv6.out, scanDown_no (fun h => by omega)])
                        have hgt : decide ((v6 : Int) < (u4 : Int)) = true := by simp; omega
                        have HP := hid (part_step HU4.out HV6.out hlu4 hvh6)
                        have c0 := HSy6.out.cell (i := v6) (by have := HZdk.out; omega)
                        have c1 := HSy6.out.cell (i := a) (by have := HZdk.out; omega)
                        have f0 := HSy6.out.free v6
                        have f1 := HSy6.out.free a
                        obtain ⟨v', c2⟩ : ∃ v', (y6.setCell ⟨g, v6, none⟩ (.int .u32 (nt dk a))).cell? ⟨g, a, none⟩ = some v' := ⟨_, (HSy6.out.put v6 (nt dk a) (by have := HZdk.out; omega)).cell (i := a) (by simp; have := HZdk.out; omega)⟩
                        go_wp2_with fail
                        go_region
                        obtain ⟨h1, h2⟩ := HSy6.out.swapd (i := v6) (j := a) (by have := HZdk.out; omega) (by have := HZdk.out; omega)
                        have HSwe6 := hid h1; have HKwe6 := hid ((HKwo.out.trans ((HKx4.out.trans HKy6.out).mono (fun _ _ h => h.elim))).trans h2)
                        have HZde6 := hid (show (swp dk v6 a).size = N by rw [size_swp]; exact HZdk.out)
                        obtain ⟨we6, ho⟩ : ∃ x, ((y6.setCell ⟨g, v6, none⟩ (.int .u32 (nt dk a))).setCell ⟨g, a, none⟩ (.int .u32 (nt dk v6))).drew = x := ⟨_, rfl⟩
                        rw [ho] at HSwe6 HKwe6 ⊢
                        clear h1 h2 c0 c1 c2 f0 f1 ho
                        go_wp2
                        go_ret2
                        have he : Go.Sort.partLoop ltInt a k0 m0 dk = (v6, dk) := by rw [HP.out, if_pos (by omega)]
                        rw [HDEF.out, ← HEo.out, he]
                        exact ⟨rfl, HSwe6.out, HKwe6.out⟩
          · have hno2 : ¬ u1 ≤ v2 := hlv2
            have hdec : decide ((u1 : Int) ≤ (v2 : Int)) = false := by simp; omega
            go_wp2_with fail
            go_quiet ((go_at_call 82; exact Calls.quiet_of_same (less_any _ _ _ _)))
            clear hdec
            have HSy2 := hid (HSv2.out.drewN nq)
            have HKy2 := hid (HKv2.out.trans (kept_drewN wv2 nq))
            obtain ⟨y2, hy⟩ : ∃ y, wv2.drewN nq = y := ⟨_, rfl⟩
            rw [hy] at HSy2 HKy2 ⊢
            clear hy HSv2 HKv2
            have HV2 := hid (show Go.Sort.scanDown (fun x => !ltInt x d1[a]!) d1 u1 q = v2 by rw [← HEv2.out, scanDown_no (fun h => by omega)])
            have hgt : decide ((v2 : Int) < (u1 : Int)) = true := by simp; omega
            have c0 := HSy2.out.cell (i := v2) (by have := HZd1.out; omega)
            have c1 := HSy2.out.cell (i := a) (by have := HZd1.out; omega)
            have f0 := HSy2.out.free v2
            have f1 := HSy2.out.free a
            obtain ⟨v', c2⟩ : ∃ v', (y2.setCell ⟨g, v2, none⟩ (.int .u32 (nt d1 a))).cell? ⟨g, a, none⟩ = some v' := ⟨_, (HSy2.out.put v2 (nt d1 a) (by have := HZd1.out; omega)).cell (i := a) (by simp; have := HZd1.out; omega)⟩
            go_wp2_with fail
            go_region
            obtain ⟨h1, h2⟩ := HSy2.out.swapd (i := v2) (j := a) (by have := HZd1.out; omega) (by have := HZd1.out; omega)
            have HSwe2 := hid h1; have HKwe2 := hid ((HKw1.out.trans ((HKx1.out.trans HKy2.out).mono (fun _ _ h => h.elim))).trans h2)
            have HZde2 := hid (show (swp d1 v2 a).size = N by rw [size_swp]; exact HZd1.out)
            obtain ⟨we2, ho⟩ : ∃ x, ((y2.setCell ⟨g, v2, none⟩ (.int .u32 (nt d1 a))).setCell ⟨g, a, none⟩ (.int .u32 (nt d1 v2))).drew = x := ⟨_, rfl⟩
            rw [ho] at HSwe2 HKwe2 ⊢
            clear h1 h2 c0 c1 c2 f0 f1 ho
            go_wp2
            go_ret2
            rw [part_def rfl HD1.out HQ.out HU1.out HV2.out, if_pos (by omega)]
            exact ⟨rfl, HSwe2.out, HKwe2.out⟩
    · have hdec : decide ((u1 : Int) ≤ (q : Int)) = false := by simp; omega
      go_wp2_with fail
      go_quiet ((go_at_call 82; exact Calls.quiet_of_same (less_any _ _ _ _)))
      clear hdec
      have HSx1 := hid (HSu1.out.drewN nq)
      have HKx1 := hid (HKu1.out.trans (kept_drewN wu1 nq))
      obtain ⟨x1, hx⟩ : ∃ x, wu1.drewN nq = x := ⟨_, rfl⟩
      rw [hx] at HSx1 HKx1 ⊢
      clear hx HSu1 HKu1
      have HU1 := hid (show Go.Sort.scanUp (fun x => ltInt x d1[a]!) d1 q (a + 1) = u1 by rw [← HEu1.out, scanUp_no (fun h => by omega)])
      go_wp2_with fail
      go_loopw [11] (fun j wr => ∃ v : Nat, j = .int .i64 v ∧ u1 ≤ v + 1 ∧ v ≤ q ∧ Srt wr g d1 tl ∧ Kept (fun _ => False) x1 wr ∧ Go.Sort.scanDown (fun x => !ltInt x d1[a]!) d1 u1 v = Go.Sort.scanDown (fun x => !ltInt x d1[a]!) d1 u1 q) (fun j _ => (intOf j).toNat)
      case atStart => exact ⟨q, rfl, by omega, Nat.le_refl _, HSx1.out, Kept.refl _ _, rfl⟩
      case round =>
        rename World => wv3
        obtain ⟨v3, rfl, huv3, hvh3, hs, hkp, heq⟩ := hrel
        have HSv3 := hid hs; have HKv3 := hid hkp; have HEv3 := hid heq
        clear hs hkp heq HSx1
        · have hno3 : ¬ u1 ≤ v3 := by omega
          have hdec : decide ((u1 : Int) ≤ (v3 : Int)) = false := by simp; omega
          go_wp2_with fail
          go_quiet ((go_at_call 82; exact Calls.quiet_of_same (less_any _ _ _ _)))
          clear hdec
          have HSy3 := hid (HSv3.out.drewN nq)
          have HKy3 := hid (HKv3.out.trans (kept_drewN wv3 nq))
          obtain ⟨y3, hy⟩ : ∃ y, wv3.drewN nq = y := ⟨_, rfl⟩
          rw [hy] at HSy3 HKy3 ⊢
          clear hy HSv3 HKv3
          have HV3 := hid (show Go.Sort.scanDown (fun x => !ltInt x d1[a]!) d1 u1 q = v3 by rw [← HEv3.out, scanDown_no (fun h => by omega)])
          have hgt : decide ((v3 : Int) < (u1 : Int)) = true := by simp; omega
          have c0 := HSy3.out.cell (i := v3) (by have := HZd1.out; omega)
          have c1 := HSy3.out.cell (i := a) (by have := HZd1.out; omega)
          have f0 := HSy3.out.free v3
          have f1 := HSy3.out.free a
          obtain ⟨v', c2⟩ : ∃ v', (y3.setCell ⟨g, v3, none⟩ (.int .u32 (nt d1 a))).cell? ⟨g, a, none⟩ = some v' := ⟨_, (HSy3.out.put v3 (nt d1 a) (by have := HZd1.out; omega)).cell (i := a) (by simp; have := HZd1.out; omega)⟩
          go_wp2_with fail
          go_region
          obtain ⟨h1, h2⟩ := HSy3.out.swapd (i := v3) (j := a) (by have := HZd1.out; omega) (by have := HZd1.out; omega)
          have HSwe3 := hid h1; have HKwe3 := hid ((HKw1.out.trans ((HKx1.out.trans HKy3.out).mono (fun _ _ h => h.elim))).trans h2)
          have HZde3 := hid (show (swp d1 v3 a).size = N by rw [size_swp]; exact HZd1.out)
          obtain ⟨we3, ho⟩ : ∃ x, ((y3.setCell ⟨g, v3, none⟩ (.int .u32 (nt d1 a))).setCell ⟨g, a, none⟩ (.int .u32 (nt d1 v3))).drew = x := ⟨_, rfl⟩
          rw [ho] at HSwe3 HKwe3 ⊢
          clear h1 h2 c0 c1 c2 f0 f1 ho
          go_wp2
          go_ret2
          rw [part_def rfl HD1.out HQ.out HU1.out HV3.out, if_pos (by omega)]
          exact ⟨rfl, HSwe3.out, HKwe3.out⟩
end Go.Proofs.Ytpjhdpfaogdboaa
