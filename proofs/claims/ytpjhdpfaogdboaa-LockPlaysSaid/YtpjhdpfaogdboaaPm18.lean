/- Texts of this claim, merged: SrtH, SrtI. -/
import Derived.Deep.CutBlock
import Derived.Test.YtpjhdpfaogdboaaPm1
import Derived.Test.YtpjhdpfaogdboaaPm3
import Derived.Test.YtpjhdpfaogdboaaPm5
import Derived.Test.YtpjhdpfaogdboaaPm6
import Derived.Test.YtpjhdpfaogdboaaPm7
import Derived.Test.YtpjhdpfaogdboaaPm16
import Derived.Test.YtpjhdpfaogdboaaPm17
/- pdqsort of fewer than 50 numbers; slices.Sort. -/
namespace Go.Proofs.Ytpjhdpfaogdboaa
set_option linter.unusedSimpArgs false
set_option linter.unusedVariables false
open Go.RowKit
open Go.Sort (swp ltInt pdq)

/-- what is left of a round of pdqsort behind the look for a sorted row -/
def pdqRest (d1 : Array Int) (a b p l1 : Nat) (wb wp : Bool) : Array Int :=
  if a > 0 && !ltInt d1[a - 1]! d1[p]! then
    match Go.Sort.partitionEqual ltInt d1 a b p with
    | (mid, d4) => if _h : a < mid ∧ mid ≤ b then pdq ltInt d4 mid b l1 wb wp else d4
  else
    match Go.Sort.partition ltInt d1 a b p with
    | (mid, ap, d4) =>
      if _h : a ≤ mid ∧ mid < b then
        if mid - a < b - mid then
          pdq ltInt (pdq ltInt d4 a mid l1 true true) (mid + 1) b l1 (decide (mid - a ≥ (b - a) / 8)) ap
        else
          pdq ltInt (pdq ltInt d4 (mid + 1) b l1 true true) a mid l1 (decide (b - mid ≥ (b - a) / 8)) ap
      else d4
theorem pdq_small {d : Array Int} {a b l : Nat} {wb wp : Bool} (h : b - a ≤ 12) : pdq ltInt d a b l wb wp = Go.Sort.insertionSort ltInt d a b := by
  rw [pdq, if_pos h]
theorem pdq_heap {d : Array Int} {a b : Nat} {wb wp : Bool} (h : ¬ b - a ≤ 12) : pdq ltInt d a b 0 wb wp = Go.Sort.heapSort ltInt d a b := by
  rw [pdq, if_neg h, if_pos rfl]
theorem pdq_round {d d1 : Array Int} {a b l l1 p : Nat} {wb wp : Bool} {hint : Go.Sort.Hint} {r : Bool} (h : ¬ b - a ≤ 12) (hl : ¬ l = 0) (hd : (if !wb then Go.Sort.breakPatterns d a b else d) = d1) (hl1 : (if !wb then l - 1 else l) = l1)
    (hc : Go.Sort.choosePivot ltInt d1 a b = (p, hint)) (hn : hint ≠ .decreasing) (hpi : (if wb && wp && hint = .increasing then Go.Sort.partialInsertionSort ltInt d1 a b else (d1, false)) = (d1, r)) :
    pdq ltInt d a b l wb wp = if r = true then d1 else pdqRest d1 a b p l1 wb wp := by
  rw [pdq, if_neg h, if_neg hl]
  simp only [hd, hl1, hc, if_neg hn, hpi]
  rfl
theorem rest_eq {d1 d4 : Array Int} {a b p l1 mid : Nat} {wb wp : Bool} (h0 : 0 < a) (h1 : ls d1 (a - 1) p = false) (h2 : Go.Sort.partitionEqual ltInt d1 a b p = (mid, d4)) (h3 : a < mid ∧ mid ≤ b) : pdqRest d1 a b p l1 wb wp = pdq ltInt d4 mid b l1 wb wp := by
  unfold pdqRest
  rw [ls_eq, h1, if_pos (by simp; omega), h2]
  simp only [dif_pos h3]
theorem rest_part {d1 d4 : Array Int} {a b p l1 mid : Nat} {wb wp ap : Bool} (h0 : 0 < a → ls d1 (a - 1) p = true) (h2 : Go.Sort.partition ltInt d1 a b p = (mid, ap, d4)) (h3 : a ≤ mid ∧ mid < b) : pdqRest d1 a b p l1 wb wp =
    if mid - a < b - mid then pdq ltInt (pdq ltInt d4 a mid l1 true true) (mid + 1) b l1 (decide (mid - a ≥ (b - a) / 8)) ap
    else pdq ltInt (pdq ltInt d4 (mid + 1) b l1 true true) a mid l1 (decide (b - mid ≥ (b - a) / 8)) ap := by
  unfold pdqRest
  rw [ls_eq, if_neg (by by_cases h : 0 < a <;> simp [h0, h]), h2]
  simp only [dif_pos h3]
theorem peq_range {d : Array Int} {a b p : Nat} (h1 : a ≤ p) (h2 : p < b) (hb : b ≤ d.size) : a < (Go.Sort.partitionEqual ltInt d a b p).1 ∧ (Go.Sort.partitionEqual ltInt d a b p).1 ≤ b ∧ (Go.Sort.partitionEqual ltInt d a b p).2.size = d.size := by
  have := Go.Sort.partEqLoop_spec ltInt a b _ (a + 1) (b - 1) (swp d a p) (Nat.le_refl _) (by omega) (by omega) (by omega) (by rw [size_swp]; exact hb) (fun t h1 h2 => by omega) (fun t h1 h2 => by omega)
  exact ⟨this.1, this.2.1, this.2.2.1.1.trans (size_swp _ _ _)⟩
theorem part_range {d : Array Int} {a b p : Nat} (h1 : a ≤ p) (h2 : p < b) (hb : b ≤ d.size) : a ≤ (Go.Sort.partition ltInt d a b p).1 ∧ (Go.Sort.partition ltInt d a b p).1 < b ∧ (Go.Sort.partition ltInt d a b p).2.2.size = d.size := by
  have := Go.Sort.partition_holds (lt := ltInt) Go.Sort.swo_ltInt d a b p h1 h2 hb
  exact ⟨this.1, this.2.1, this.2.2.1.1⟩
def PdqEnd (w : World) (g N : Nat) (tl : List Value) (d' : Array Int) (e : Ending) (w' : World) : Prop := e = .returned (.tuple #[]) ∧ d'.size = N ∧ Srt w' g d' tl ∧ Kept (fun k => k = g) w w'
/-- behind the scattering -/
def CutA (w wx : World) (g N : Nat) (tl : List Value) (d : Array Int) (a b lk L : Nat) (wb wp : Bool) (l x4 x5 x6 x7 x8 x9 x10 : Value) : Prop :=
  ∃ (l1 : Nat) (d1 : Array Int), l = .int .i64 l1 ∧ x4 = undef ∧ x5 = undef ∧ x6 = undef ∧ x7 = undef ∧ x8 = .bool wb ∧ x9 = .bool wp ∧ x10 = .int .i64 L ∧ l1 ≤ 100 ∧ d1.size = N ∧ Srt wx g d1 tl ∧ Kept (fun k => k = g) w wx ∧ (if !wb then Go.Sort.breakPatterns d a b else d) = d1 ∧ (if !wb then lk - 1 else lk) = l1
/-- behind the look for a sorted row -/
def CutB (w wx : World) (g : Nat) (tl : List Value) (d1 : Array Int) (a b p l1 : Nat) (wb wp : Bool) (D : Array Int) : Prop :=
  Srt wx g d1 tl ∧ Kept (fun k => k = g) w wx ∧ pdqRest d1 a b p l1 wb wp = D
set_option maxRecDepth 100000 in
set_option maxHeartbeats 4000000 in
theorem pdq_any (n : Nat) : ∀ {w : World} {g : Nat} {d : Array Int} {tl : List Value} (h : Srt w g d tl) {N : Nat} (hN : d.size = N) (cap : Nat) {a b l : Nat} (hab : a ≤ b) (hb : b ≤ N) (hd : N < 50) (hl : l ≤ 100) (hn : b - a ≤ n),
    Calls Try.prog 71 #[.slice (some ⟨g, 0, none⟩) N cap, .int .i64 a, .int .i64 b, .int .i64 l] w (PdqEnd w g N tl (pdq ltInt d a b l true true)) := by
  induction n using Nat.strongRecOn with
  | ind n ih =>
    intro w g d tl h N hN cap a b l hab hb hd hl hn
    have H := hid h; have HN := hid hN; have IH := hid ih
    clear h hN ih
    go_enter Try.func71, Try.ntmps71
    go_wp2_with fail
    go_loopw [1, 2, 3, 8, 9] (fun xa xb xl xwb xwp wr => ∃ (ak bk lk : Nat) (wb wp : Bool) (dk : Array Int), xa = .int .i64 ak ∧ xb = .int .i64 bk ∧ xl = .int .i64 lk ∧ xwb = .bool wb ∧ xwp = .bool wp ∧ ak ≤ bk ∧ bk ≤ N ∧ bk - ak ≤ n ∧ lk ≤ 100 ∧ dk.size = N ∧ Srt wr g dk tl ∧ Kept (fun k => k = g) w wr ∧ pdq ltInt dk ak bk lk wb wp = pdq ltInt d a b l true true) (fun xa xb _ _ _ _ => (intOf xb - intOf xa).toNat)
    case atStart => exact ⟨a, b, l, true, true, d, rfl, rfl, rfl, rfl, rfl, hab, hb, hn, hl, HN.out, H.out, Kept.refl _ _, rfl⟩
    case round =>
      rename World => wA
      obtain ⟨ak, bk, lk, wb, wp, dk, rfl, rfl, rfl, rfl, rfl, habk, hbk, hnk, hlk, hsz, hs, hkp, heq⟩ := hrel
      have HS := hid hs; have HK := hid hkp; have HE := hid heq; have HZ := hid hsz
      clear hs hkp heq hsz H HN
      obtain ⟨D, hD⟩ : ∃ D, pdq ltInt d a b l true true = D := ⟨_, rfl⟩
      have HD := hid hD
      rw [hD] at HE
      obtain ⟨L, hL⟩ : ∃ L, L = bk - ak := ⟨_, rfl⟩
      have eL : (bk : Int) - (ak : Int) = (L : Int) := by omega
      have hLb : L ≤ N ∧ L + ak ≤ bk ∧ bk ≤ L + ak := by omega
      have HL := hid hL
      clear hD hL
      by_cases h12 : L ≤ 12
      · go_wp2_with fail
        refine (ins_any HS.out HZ.out cap habk hbk hd).mono ?_
        rintro e w' ⟨rfl, hs, hk⟩
        have HS1 := hid hs; have HK1 := hid (HK.out.trans hk)
        clear hs hk
        go_wp2
        go_end0
        rw [HD.out, ← HE.out, pdq_small (by rw [← HL.out]; exact h12)]
        exact ⟨rfl, (Go.Sort.insertionSort_holds Go.Sort.swo_ltInt dk ak bk habk (by rw [HZ.out]; exact hbk)).1.1.trans HZ.out, HS1.out, HK1.out⟩
      · by_cases hl0 : lk = 0
        · subst hl0
          go_wp2_with fail
          refine (heap_any HS.out HZ.out cap (by omega) hbk hd).mono ?_
          rintro e w' ⟨rfl, hs, hk⟩
          have HS1 := hid hs; have HK1 := hid (HK.out.trans hk)
          clear hs hk
          go_wp2
          go_end0
          rw [HD.out, ← HE.out, pdq_heap (by rw [← HL.out]; exact h12)]
          exact ⟨rfl, (Go.Sort.heapSort_holds Go.Sort.swo_ltInt dk ak bk habk (by rw [HZ.out]; exact hbk)).1.1.trans HZ.out, HS1.out, HK1.out⟩
        · have hl0' : ((lk : Int) == 0) = false := by simp; omega
          go_upto_if 35 with fail
          go_cut [3, 4, 5, 6, 7, 8, 9, 10] from 3 to 41 (fun l x4 x5 x6 x7 x8 x9 x10 wx => CutA w wx g N tl dk ak bk lk L wb wp l x4 x5 x6 x7 x8 x9 x10)
          case first =>
            cases wb with
            | true =>
              go_wp2_with fail
              go_meet
              exact ⟨lk, dk, rfl, rfl, rfl, rfl, rfl, rfl, rfl, rfl, hlk, HZ.out, HS.out, HK.out, rfl, rfl⟩
            | false =>
              go_wp2_with fail
              refine (break_any HS.out HZ.out cap (by omega) hbk hd).mono ?_
              rintro e w' ⟨rfl, hs, hk⟩
              have HS1 := hid hs; have HK1 := hid (HK.out.trans hk)
              obtain ⟨l1, hl1⟩ : ∃ l1, l1 = lk - 1 := ⟨_, rfl⟩
              have el : (lk : Int) - 1 = (l1 : Int) := by omega
              have hl1b : l1 ≤ 100 := by omega
              have HL1 := hid hl1
              clear hs hk hl1
              go_wp2_with fail
              go_meet
              exact ⟨l1, _, rfl, rfl, rfl, rfl, rfl, rfl, rfl, rfl, hl1b, (Go.Sort.breakPatterns_holds dk ak bk habk (by rw [HZ.out]; exact hbk)).1.trans HZ.out, HS1.out, HK1.out, rfl, HL1.out.symm⟩
          case rest =>
            clear HS HK HZ
            obtain ⟨l1, d1, rfl, rfl, rfl, rfl, rfl, rfl, rfl, rfl, hl1, hsz, hs, hkp, hd1, hl1e⟩ := hcut
            have HS := hid hs; have HK := hid hkp; have HZ := hid hsz; have HD1 := hid hd1; have HL1 := hid hl1e
            have HLK := hid hl0
            clear hs hkp hsz hd1 hl1e hl0 hl0'
            have HPR := hid (Go.Sort.choosePivot_holds ltInt d1 ak bk (by omega))
            go_wp2_with fail
            refine (pivot_any HS.out HZ.out cap (by omega) hbk hd).mono ?_
            rintro e w1 ⟨rfl, hn0, hk⟩
            obtain ⟨⟨p, hint⟩, hc⟩ : ∃ c, Go.Sort.choosePivot ltInt d1 ak bk = c := ⟨_, rfl⟩
            rw [hc] at HPR hn0 ⊢
            have hp := HPR.out
            dsimp only at hp hn0 ⊢
            have HS1 := hid (HS.out.kept hk (fun h => h)); have HK1 := hid (HK.out.trans (hk.mono (fun _ _ h => h.elim))); have HC := hid hc; have HN0 := hid hn0
            clear hk hc hn0 HPR HS HK
            obtain ⟨hi, hhi⟩ : ∃ hi, hintN hint = hi := ⟨_, rfl⟩
            have HHI := hid hhi
            have hi2 : (hi == 2) = false := by
              rw [← hhi]; cases hint with
              | unknown => rfl
              | increasing => rfl
              | decreasing => exact absurd rfl HN0.out
            rw [hhi]
            clear hhi
            go_upto_region 15 with fail
            obtain ⟨c, hcc⟩ : ∃ c, (wb && wp && decide (hint = .increasing)) = c := ⟨_, rfl⟩
            go_cut [68] from 61 to 68 (fun x wx => x = .bool c ∧ w1 = wx)
            case first =>
              cases wb with
              | false =>
                go_wp2_with fail
                go_meet
                exact ⟨by rw [← hcc]; rfl, rfl⟩
              | true =>
                cases wp with
                | false =>
                  go_wp2_with fail
                  go_meet
                  exact ⟨by rw [← hcc]; rfl, rfl⟩
                | true =>
                  have hi1 : (hi == 1) = c := by
                    rw [← hcc, ← HHI.out]; cases hint with
                    | unknown => rfl
                    | increasing => rfl
                    | decreasing => exact absurd rfl HN0.out
                  clear hcc
                  go_wp2_with fail
                  go_meet
                  exact ⟨rfl, rfl⟩
            case rest =>
              obtain ⟨rfl, rfl⟩ := hcut
              have HCC := hid hcc
              clear hcc
              go_upto_if 68 with fail
              go_cut [] from 69 to 72 (fun wx => CutB w wx g tl d1 ak bk p l1 wb wp D)
              case first =>
                cases c with
                | false =>
                  go_wp2_with fail
                  go_meet
                  refine ⟨HS1.out, HK1.out, ?_⟩
                  have := pdq_round (by rw [← HL.out]; exact h12) HLK.out HD1.out HL1.out HC.out HN0.out (r := false) (wp := wp) (by rw [HCC.out]; rfl)
                  rw [HE.out] at this
                  simpa using this.symm
                | true =>
                  go_wp2_with fail
                  refine (pins_any HS1.out HZ.out cap (by omega) hbk hd).mono ?_
                  rintro e w2 ⟨rfl, hp1, hk⟩
                  obtain ⟨r, hr⟩ : ∃ r, (Go.Sort.partialInsertionSort ltInt d1 ak bk).2 = r := ⟨_, rfl⟩
                  rw [hr]
                  have HS2 := hid (HS1.out.kept hk (fun h => h)); have HK2 := hid (HK1.out.trans (hk.mono (fun _ _ h => h.elim)))
                  have HPD := hid (pdq_round (by rw [← HL.out]; exact h12) HLK.out HD1.out HL1.out HC.out HN0.out (r := r) (wp := wp) (by rw [HCC.out, ← hr, if_pos rfl]; exact Prod.ext hp1 rfl))
                  clear hp1 hk hr
                  cases r with
                  | true =>
                    go_wp2
                    go_end0
                    have := HPD.out
                    rw [HE.out, if_pos trivial] at this
                    rw [HD.out, this]
                    exact ⟨rfl, HZ.out, HS2.out, HK2.out⟩
                  | false =>
                    go_wp2_with fail
                    go_meet
                    refine ⟨HS2.out, HK2.out, ?_⟩
                    have := HPD.out
                    rw [HE.out] at this
                    simpa using this.symm
              case rest =>
                clear HS1 HK1 HCC HD1 HL1 HC HN0 HHI hi2
                obtain ⟨hs, hkp, hre⟩ := hcut
                have HS2 := hid hs; have HK2 := hid hkp; have HRE := hid hre
                clear hs hkp hre
                obtain ⟨t, ht⟩ : ∃ t, (decide (0 < ak) && !(ls d1 (ak - 1) p)) = t := ⟨_, rfl⟩
                have HZ1 := HZ.out
                have c0 := HS2.out.cell (i := p) (by omega)
                have hpN : p < N := by omega
                go_upto_region 17 with fail
                go_cut [87] from 73 to 87 (fun x wx => x = .bool t ∧ Srt wx g d1 tl ∧ Kept (fun k => k = g) w wx)
                case first =>
                  by_cases h0 : 0 < ak
                  · obtain ⟨m, rfl⟩ : ∃ m, ak = m + 1 := ⟨ak - 1, by omega⟩
                    have c1 := HS2.out.cell (i := m) (by omega)
                    have hmN : m < N := by omega
                    obtain ⟨u, hu⟩ : ∃ u, ls d1 m p = u := ⟨_, rfl⟩
                    have HU := hid hu
                    have HT := hid (show (!u) = t by rw [← ht, ← hu]; simp)
                    clear hu ht HZ1
                    have hdec : decide (0 < (m : Int) + 1) = true := by rw [decide_eq_true_eq]; omega
                    go_wp2_with fail
                    go_quiet ((go_at_call 82; exact Calls.quiet_of_same (less_any _ _ _ _)))
                    rw [HU.out]
                    go_wp2_with fail
                    go_meet
                    exact ⟨by rw [← HT.out], HS2.out.drewN nq, HK2.out.trans (kept_drewN _ nq)⟩
                  · obtain rfl : ak = 0 := by omega
                    clear HZ1
                    have HT := hid ht
                    clear ht
                    go_wp2_with fail
                    go_quiet ((go_at_call 82; exact Calls.quiet_of_same (less_any _ _ _ _)))
                    go_wp2_with fail
                    go_meet
                    exact ⟨by rw [← HT.out]; rfl, HS2.out.drewN nq, HK2.out.trans (kept_drewN _ nq)⟩
                case rest =>
                  rename World => wD
                  clear HS2 HK2 c0 HZ1
                  obtain ⟨rfl, hs, hkp⟩ := hcut
                  have HS3 := hid hs; have HK3 := hid hkp
                  have HT := hid ht
                  clear hs hkp ht
                  cases t with
                  | true =>
                    have hte : 0 < ak ∧ ls d1 (ak - 1) p = false := by simpa using HT.out
                    have hrg := peq_range (d := d1) (a := ak) (b := bk) (p := p) hp.1 hp.2 (by rw [HZ.out]; exact hbk)
                    obtain ⟨⟨mid, d4⟩, hq⟩ : ∃ x, Go.Sort.partitionEqual ltInt d1 ak bk p = x := ⟨_, rfl⟩
                    rw [hq] at hrg
                    dsimp only at hrg
                    have hre := rest_eq (l1 := l1) (wb := wb) (wp := wp) hte.1 hte.2 hq ⟨hrg.1, hrg.2.1⟩
                    rw [HRE.out] at hre
                    have HQ := hid hq; have HR := hid hre; have HSZ := hid (hrg.2.2.trans HZ.out)
                    have hm : ak < mid ∧ mid ≤ bk := ⟨hrg.1, hrg.2.1⟩
                    clear hte hq hre hrg
                    go_wp2_with fail
                    refine (peq_any HS3.out HZ.out cap hp.1 hp.2 hbk hd).mono ?_
                    rintro e w4 ⟨rfl, hs, hk⟩
                    rw [HQ.out] at hs ⊢
                    dsimp only at hs ⊢
                    have HS4 := hid hs; have HK4 := hid (HK3.out.trans hk)
                    clear hs hk
                    go_wp2
                    go_roundw
                    case rel => exact ⟨mid, bk, l1, wb, wp, d4, rfl, rfl, rfl, rfl, rfl, hm.2, hbk, by omega, hl1, HSZ.out, HS4.out, HK4.out, by rw [HD.out]; exact HR.out.symm⟩
                    case measure => (simp only [intOf]; omega)
                  | false =>
                    have hte : 0 < ak → ls d1 (ak - 1) p = true := fun h => by
                      have := HT.out
                      rw [decide_eq_true h] at this
                      simpa using this
                    have hrg := part_range (d := d1) (a := ak) (b := bk) (p := p) hp.1 hp.2 (by rw [HZ.out]; exact hbk)
                    obtain ⟨⟨mid, ap, d4⟩, hq⟩ : ∃ x, Go.Sort.partition ltInt d1 ak bk p = x := ⟨_, rfl⟩
                    rw [hq] at hrg
                    dsimp only at hrg
                    have hre := rest_part (l1 := l1) (wb := wb) (wp := wp) hte hq ⟨hrg.1, hrg.2.1⟩
                    rw [HRE.out] at hre
                    have HQ := hid hq; have HR := hid hre; have HSZ := hid (hrg.2.2.trans HZ.out)
                    have hm : ak ≤ mid ∧ mid < bk := ⟨hrg.1, hrg.2.1⟩
                    clear hte hq hre hrg
                    obtain ⟨lf, hlf⟩ : ∃ lf, lf = mid - ak := ⟨_, rfl⟩
                    obtain ⟨rt, hrt⟩ : ∃ rt, rt = bk - mid := ⟨_, rfl⟩
                    obtain ⟨l8, hl8⟩ : ∃ l8, l8 = L / 8 := ⟨_, rfl⟩
                    have e1 : (mid : Int) - (ak : Int) = (lf : Int) := by omega
                    have e2 : (bk : Int) - (mid : Int) = (rt : Int) := by omega
                    have e3 : (L : Int) / 8 = (l8 : Int) := by omega
                    have HLF := hid hlf; have HRT := hid hrt
                    have HL8 := hid (show l8 = (bk - ak) / 8 by rw [hl8, HL.out])
                    have hb1 : lf + ak ≤ mid ∧ mid ≤ lf + ak ∧ rt + mid ≤ bk ∧ bk ≤ rt + mid := by omega
                    clear hlf hrt hl8
                    go_wp2_with fail
                    refine (part_any HS3.out HZ.out cap hp.1 hp.2 hbk hd).mono ?_
                    rintro e w4 ⟨rfl, hs, hk⟩
                    rw [HQ.out] at hs ⊢
                    dsimp only at hs ⊢
                    have HS4 := hid hs; have HK4 := hid (HK3.out.trans hk)
                    clear hs hk
                    by_cases hlr : lf < rt
                    · have hR2 := HR.out
                      rw [if_pos (by rw [← HLF.out, ← HRT.out]; exact hlr)] at hR2
                      have HR2 := hid hR2
                      clear hR2
                      go_wp2_with fail
                      refine (IH.out lf (by omega) HS4.out HSZ.out cap (a := ak) (b := mid) (l := l1) hm.1 (by omega) hd hl1 (by omega)).mono ?_
                      rintro e w5 ⟨rfl, hz, hs, hk⟩
                      have HS5 := hid hs; have HK5 := hid (HK4.out.trans hk); have HZ5 := hid hz
                      clear hs hk hz
                      go_wp2
                      go_roundw
                      case rel => exact ⟨mid + 1, bk, l1, decide (l8 ≤ lf), ap, _, by go_num, rfl, rfl, by simp, rfl, by omega, hbk, by omega, hl1, HZ5.out, HS5.out, HK5.out, by rw [HD.out, HR2.out, HL8.out, HLF.out]⟩
                      case measure => (simp only [intOf]; omega)
                    · have hR2 := HR.out
                      rw [if_neg (by rw [← HLF.out, ← HRT.out]; exact hlr)] at hR2
                      have HR2 := hid hR2
                      clear hR2
                      go_wp2_with fail
                      refine (IH.out (rt - 1) (by omega) HS4.out HSZ.out cap (a := mid + 1) (b := bk) (l := l1) (by omega) (by omega) hd hl1 (by omega)).mono ?_
                      rintro e w5 ⟨rfl, hz, hs, hk⟩
                      have HS5 := hid hs; have HK5 := hid (HK4.out.trans hk); have HZ5 := hid hz
                      clear hs hk hz
                      go_wp2
                      go_roundw
                      case rel => exact ⟨ak, mid, l1, decide (l8 ≤ rt), ap, _, rfl, rfl, rfl, by simp, rfl, hm.1, by omega, by omega, hl1, HZ5.out, HS5.out, HK5.out, by rw [HD.out, HR2.out, HL8.out, HRT.out]⟩
                      case measure => (simp only [intOf]; omega)
end Go.Proofs.Ytpjhdpfaogdboaa
/- slices.Sort of fewer than 50 numbers. -/
namespace Go.Proofs.Ytpjhdpfaogdboaa
set_option linter.unusedSimpArgs false
set_option linter.unusedVariables false
open Go.RowKit
open Go.Sort (swp ltInt pdq)

/-- in order -/
def ordered (l : List Int) : List Int := l.mergeSort (fun x y => decide (x ≤ y))
theorem sort_val (l : List Int) : (pdq ltInt l.toArray 0 l.length (Go.Sort.bitsLen l.length) true true).toList = ordered l := by
  have := Go.Sort.sortInt l
  unfold Go.Sort.sort at this
  simpa [ordered] using this
set_option maxHeartbeats 1000000 in
theorem sort_any {w : World} {g : Nat} {l : List Int} {tl : List Value} (h : Srt w g l.toArray tl) (cap : Nat) (hd : l.length < 50) :
    Calls Try.prog 54 #[.slice (some ⟨g, 0, none⟩) l.length cap] w fun e w' => e = .returned (.tuple #[]) ∧ Srt w' g (ordered l).toArray tl ∧ Kept (fun k => k = g) w w' := by
  have H := hid h
  clear h
  have hb := (bitLen_small ⟨l.length, by omega⟩).2
  obtain ⟨n, hn⟩ : ∃ n, l.length = n := ⟨_, rfl⟩
  obtain ⟨k, hk⟩ : ∃ k, Go.Sort.bitsLen n = k := ⟨_, rfl⟩
  have HV := hid (sort_val l)
  simp only [hn, hk] at hb HV
  rw [hn] at hd ⊢
  have HN := hid hn; have HK := hid hk
  clear hn hk
  go_enter Try.func54, Try.ntmps54
  go_wp2_with fail
  refine (len_small n (by omega) _).mono ?_; rintro e w' ⟨rfl, rfl⟩
  rw [HK.out]
  go_wp2_with fail
  refine (pdq_any n H.out (N := n) (by simpa using HN.out) cap (a := 0) (b := n) (l := k) (by omega) (by omega) (by omega) (by omega) (by omega)).mono ?_
  rintro e w1 ⟨rfl, _, hs, hk⟩
  have HS := hid hs; have HKP := hid hk
  clear hs hk
  go_wp2
  go_end0
  refine ⟨rfl, ?_, HKP.out⟩
  rw [← HV.out]
  exact HS.out
set_option maxHeartbeats 1000000 in
theorem sort_nil (w : World) : Calls Try.prog 54 #[.slice none 0 0] w fun e w' => e = .returned (.tuple #[]) ∧ w = w' := by
  have hins : ∀ w, Calls Try.prog 76 #[.slice none 0 0, .int .i64 0, .int .i64 0] w fun e w' => e = .returned (.tuple #[]) ∧ w = w' := by
    intro w
    go_enter Try.func76, Try.ntmps76
    go_wp2_with fail
    refine wp_loop_rounds 1 ?_
    rw [rounds_succ]
    go_wp2
    go_end0
    exact ⟨rfl, rfl⟩
  have hpdq : ∀ w, Calls Try.prog 71 #[.slice none 0 0, .int .i64 0, .int .i64 0, .int .i64 0] w fun e w' => e = .returned (.tuple #[]) ∧ w = w' := by
    intro w
    go_enter Try.func71, Try.ntmps71
    go_wp2_with fail
    refine wp_loop_rounds 1 ?_
    rw [rounds_succ]
    go_wp2_with fail
    refine (hins _).mono ?_; rintro e w' ⟨rfl, rfl⟩
    clear hins
    go_wp2
    exact bodyPost_ret (results_none rfl _ _ _) rfl ⟨rfl, rfl⟩
  go_enter Try.func54, Try.ntmps54
  go_wp2_with fail
  refine (len_small 0 (by omega) _).mono ?_; rintro e w' ⟨rfl, rfl⟩
  go_wp2_with fail
  refine (hpdq _).mono ?_; rintro e w' ⟨rfl, rfl⟩
  go_wp2
  go_end0
  exact ⟨rfl, rfl⟩
end Go.Proofs.Ytpjhdpfaogdboaa
