/- PlatePlays' walk. -/
import Derived.Test.YtnfdkpjklenllaaDs
namespace Go.Proofs.Ytnfdkpjklenllaa
open Go.RowKit
theorem byt_lt {w : World} {a : Option Addr} {N c : Nat} {l : List Int} (h : Byt w (.slice a N c) l) : 0 < l.length → ∀ g, (Value.slice a N c).ownBlock = some g → g < w.heap.size := fun h0 g hg => by
  obtain ⟨a', c', e, _, _, h3⟩ := h
  simp only [Value.slice.injEq] at e
  obtain ⟨rfl, _, _⟩ := e
  obtain ⟨b, off, rfl, hc⟩ := h3 0 l[0] (List.getElem?_eq_getElem h0)
  simp [Value.ownBlock] at hg
  subst hg
  exact cell_lt hc
-- all that comes behind: $1 the plate, $2 the document's; $3 the tail behind the loop
set_option maxRecDepth 100000 in
set_option maxHeartbeats 4000000 in
theorem plays_walk (W : World) (args : Array Value) (h : RdAll Try.prog W Try.f7.params.toList args.toList) :
    Calls Try.prog 7 args W fun e W' => e = .returned (.bool true) ∧ Below W.heap.size W W' := by
  rw [Try.params7] at h
  obtain ⟨v0, v1, rfl⟩ : ∃ v0 v1, args = #[v0, v1] := by
    rcases args with ⟨_ | ⟨v0, _ | ⟨v1, _ | ⟨v2, l⟩⟩⟩⟩ <;> simp [RdAll] at h
    exact ⟨v0, v1, rfl⟩
  obtain ⟨r0, r1, _⟩ := h
  obtain ⟨pages, rfl, _⟩ := r0.int Try.underlying3
  obtain ⟨sa, sl, sc, rfl, h0⟩ := r1.slice Try.underlying22
  obtain ⟨ops, rfl, hscr⟩ := scr_read h0
  have hlen : ops.length ≤ 9223372036854775807 := by
    obtain ⟨_, _, _, h1, h2, _⟩ := hscr
    unfold maxLen at h2
    omega
  have HSC := hid hscr
  clear r0 r1 h0 hscr
  go_enter Try.func7, Try.ntmps7
  go_wp2_with fail
  refine (awake_any _).mono ?_; rintro e w1 ⟨rfl, hk1⟩
  have K1 := hid hk1
  clear hk1
  by_cases hpg : 1 ≤ pages ∧ pages ≤ 65536
  · go_wp2_with fail
    refine (new_ok w1 pages hpg.1 hpg.2).mono ?_
    rintro e w2 ⟨b, rfl, hp, hk2, hb⟩
    have HP := hid hp; have K2 := hid hk2
    clear hp hk2 hb
    go_wp2_with fail
    refine (dnew_ok w2 pages hpg.1 hpg.2).mono ?_
    rintro e w3 ⟨rfl, hd, hk3⟩
    have S0 := hid (show St W.heap.size w3 (some ⟨b, 0, none⟩) (some ⟨w2.heap.size, 0, none⟩) 0 from by
      have hl : w2.heap.size < w3.heap.size := by
        obtain ⟨lo, lc, so, sc, hd⟩ := hd
        exact row_lt hd.r
      rcases St.new HP.out K2.out hd hk3 rfl hl with ⟨e, _⟩ | ⟨b', xb', P, F, S, D, e1, e2, hb, hP, hF⟩
      · cases e
      · exact .inr ⟨b', xb', P, F, S, D, e1, e2, hb, fun g hg => Nat.le_trans K1.out.size (hP g hg), fun g hg => Nat.le_trans K1.out.size (hF g hg)⟩)
    have K0 := hid ((K1.out.trans K2.out).trans hk3)
    clear hd hk3 HP
    obtain ⟨xb, hxb⟩ : ∃ xb, w2.heap.size = xb := ⟨_, rfl⟩
    rw [hxb] at S0 ⊢
    clear hxb K2 K1 hpg
    go_upto_block 0 with fail
    go_cut [9] from 9 to 62 (fun _ wx => St W.heap.size wx (some ⟨b, 0, none⟩) (some ⟨xb, 0, none⟩) 80 ∧ Kept (fun _ => False) W wx)
    case first =>
      go_wp2_with fail
      go_loopw [36] (fun i wr => ∃ k : Nat, k ≤ ops.length ∧ k ≤ 80 ∧ i = .int .i64 k ∧ St W.heap.size wr (some ⟨b, 0, none⟩) (some ⟨xb, 0, none⟩) k ∧ Kept (fun _ => False) W wr) (fun i _ => ops.length - (RowKit.intOf i).toNat)
      case atStart => exact ⟨0, Nat.zero_le _, Nat.zero_le _, rfl, S0.out, K0.out⟩
      case round =>
        rename World => wr
        clear S0 K0
        obtain ⟨k, hk, hk80, rfl, hst, hkp⟩ := hrel
        have HST := hid hst; have KR := hid hkp; clear hst hkp
        by_cases hlt : k < ops.length
        · have hltI : (k : Int) < (ops.length : Int) := by omega
          obtain ⟨x, hx⟩ : ∃ x, ops[k]? = some x := ⟨ops[k], by simp [hlt]⟩
          obtain ⟨ao', c', e0, _, _, hat⟩ := HSC.out
          simp only [Value.slice.injEq] at e0
          obtain ⟨rfl, _, rfl⟩ := e0
          obtain ⟨ob, off, bo, bc, rfl, d0, d1, d2, hok⟩ := hat k x hx
          have d0 := KR.out.cell d0 id; have d1 := KR.out.cell d1 id; have d2 := KR.out.cell d2 id
          have HOK := hid hok
          clear hat hx hok
          obtain ⟨W2, hW2⟩ : ∃ W2, wr.alloc (.cells #[.int .u8 x.kd, .int .i64 x.i, .slice bo x.l.length bc] 29) = W2 := ⟨_, rfl⟩
          have HB := hid (show W2.heap[wr.heap.size]? = some (.cells #[.int .u8 x.kd, .int .i64 x.i, .slice bo x.l.length bc] 29 (0, 0)) from by rw [← hW2]; exact row_new _ _)
          have HKW := hid (show Kept (fun _ => False) wr W2 from by rw [← hW2]; exact (Kept.refl _ _).alloc _)
          by_cases h80 : (80 : Int) ≤ (k : Int)
          · have S9 := hid (show St W.heap.size W2 (some ⟨b, 0, none⟩) (some ⟨xb, 0, none⟩) 80 from (HST.out.mono (by omega)).same HKW.out)
            clear HB
            go_wp2
            go_meet
            exact ⟨S9.out, KR.out.trans HKW.out⟩
          · obtain ⟨e0, e1, e2⟩ := cells3 HB.out
            obtain ⟨M, hM⟩ : ∃ M, min 300 x.l.length = M := ⟨_, rfl⟩
            have hm1 : M ≤ x.l.length := by omega
            have hm3 : M ≤ 300 := by omega
            have hmj : (min (x.l.length : Int) 300).toNat = M := by omega
            have hm2 : M ≤ bc := by obtain ⟨_, _, e, ⟨q, _⟩, _⟩ := HOK.out.b; simp only [Value.slice.injEq] at e; obtain ⟨_, _, rfl⟩ := e; omega
            have hx64 : x.l.length ≤ 9223372036854775807 := by have := HOK.out.l; omega
            have hbc : bc ≤ 9223372036854775807 := by obtain ⟨_, _, e, ⟨_, q⟩, _⟩ := HOK.out.b; simp only [Value.slice.injEq] at e; obtain ⟨_, _, rfl⟩ := e; unfold maxLen at q; omega
            have HM := hid hM
            have HF := hid (row_free HB.out 2)
            have hfz := HF.out
            clear hM
            have hge : ¬ (80 : Int) ≤ (k : Int) := h80
            go_wp2_with fail
            obtain ⟨w3, hw3⟩ : ∃ w3, W2.setCell ⟨wr.heap.size, 2, none⟩ (.slice bo M bc) = w3 := ⟨_, rfl⟩
            have k3 : Kept (fun _ => False) wr w3 := by rw [← hw3]; exact HKW.out.setCell (.inr (Nat.le_refl _)) _
            have HB3 := hid (show Byt w3 (.slice bo M bc) (x.l.take M) from (HOK.out.b.take M hm1).kept (KR.out.trans k3) (fun _ _ => id))
            have HL3 := hid (show (x.l.take M).length = M by rw [List.length_take]; omega)
            have K3 := hid k3
            have HNB := hid (show 0 < (x.l.take M).length → ∀ g, (Value.slice bo M bc).ownBlock = some g → g < W.heap.size from byt_lt (HOK.out.b.take M hm1))
            try rw [hmj]
            rw [hw3]
            clear hmj
            clear k3 hw3 hfz e0 e1 e2 d0 d1 d2 HB hW2
            refine (play_any (HST.out.same K3.out) (by omega) (Nat.le_trans KR.out.size K3.out.size) HOK.out.i.2 HL3.out hm3 HB3.out HNB.out (fun y hy => HOK.out.r y (List.mem_of_mem_take hy))).mono ?_
            rintro e w4 ⟨rfl, hs4, hk4, _⟩
            have S4 := hid hs4
            have K4 := hid ((KR.out.trans K3.out).trans' hk4 (fun g hg => .inr hg))
            clear hs4 hk4 HB3 HNB K3 HST
            go_wp2_with fail
            refine (looks_any S4.out (by omega)).mono ?_
            rintro e w5 ⟨rfl, hk5⟩
            have K5 := hid hk5
            clear hk5
            go_wp2
            go_roundw
            case rel => exact ⟨k + 1, by omega, by omega, by go_num, S4.out.same K5.out, K4.out.trans K5.out⟩
            case measure => (simp only [RowKit.intOf]; omega)
        · have S9 := hid (HST.out.mono hk80)
          go_wp2
          go_meet
          exact ⟨S9.out, KR.out⟩
    case rest =>
      obtain ⟨hst, hkp⟩ := hcut
      have HST := hid hst; have KC := hid hkp
      clear hst hkp S0 K0
      rename World => wc
      rcases HST.out with ⟨e, _⟩ | ⟨b', xb', P, F, S, D, e1, e2, hb, hP, hF⟩
      · cases e
      · cases e1; cases e2
        have HBO := hid hb; have HPB := hid hP; have HFB := hid hF
        have HC0 := hid (show wc.cell? ⟨xb, 0, none⟩ = some (.int .i64 D.n) from by obtain ⟨lo, lc, so, sc, hd⟩ := hb.d; exact (cells6 hd.r).1)
        obtain ⟨n, hn⟩ : ∃ n, D.n = n := ⟨_, rfl⟩
        rw [hn] at HC0
        have HN := hid hn
        clear hn hb hP hF
        obtain ⟨m, hm⟩ : ∃ m, (if (12 : Int) < n then 12 else n) = m := ⟨_, rfl⟩
        have hm12 : m ≤ 12 := by rw [← hm]; split <;> omega
        go_wp2_with fail
        go_loopw [11] (fun i wr => ∃ z : Int, 0 ≤ z ∧ z ≤ 12 ∧ i = .int .i64 z ∧ Kept (fun _ => False) wc wr) (fun i _ => 12 - (RowKit.intOf i).toNat)
        case atStart => exact ⟨0, Int.le_refl _, by decide, rfl, Kept.refl _ _⟩
        case round =>
          rename World => wr
          obtain ⟨z, hz0, hz12, rfl, hkp⟩ := hrel
          have KR := hid hkp; clear hkp
          have c0 := KR.out.cell HC0.out id
          by_cases hlt : z < m
          · go_wp2_with fail
            have HE := hid (show Byt wr (.slice none 0 0) [] from ⟨none, 0, rfl, ⟨Nat.le_refl _, Nat.zero_le _⟩, fun _ => ⟨rfl, rfl⟩, fun j x hj => by simp at hj⟩)
            refine (play_any (B := W.heap.size) (.inr ⟨b, xb, P, F, S, D, rfl, rfl, HBO.out.same KR.out, HPB.out, HFB.out⟩) (by decide) (Nat.le_trans KC.out.size KR.out.size) (by omega) (l := []) rfl (by decide) HE.out (fun h => absurd h (by decide)) (fun y hy => by simp at hy)).mono ?_
            rintro e w4 ⟨rfl, _, _, hk4⟩
            have K4 := hid (KR.out.trans (hk4 rfl))
            clear hk4 HE c0
            go_wp2
            go_roundw
            case rel => exact ⟨z + 1, by omega, by omega, by go_num, K4.out⟩
            case measure => (simp only [RowKit.intOf]; omega)
          · go_wp2
            go_ret
            exact ⟨rfl, (KC.out.trans KR.out).below (Nat.le_refl _) (fun _ h => h.elim)⟩
  · have hn : ∀ w, Calls Try.prog 19 #[.int .i64 pages] w fun e w' => e = .returned (.tuple #[.pointer none, .int .i64 1]) ∧ w = w' := fun w => by
      by_cases h1 : pages < 1
      · exact new_low pages h1
      · exact new_high pages (by omega)
    have HN := hid hn
    have HPG := hid hpg
    clear hn hpg
    go_wp2_with fail
    refine (HN.out w1).mono ?_
    rintro e w2 ⟨rfl, rfl⟩
    go_wp2_with fail
    refine (dnew_bad w1 pages HPG.out).mono ?_
    rintro e w3 ⟨rfl, rfl⟩
    have S0 := hid (show St W.heap.size w1 none none 0 from .inl ⟨rfl, rfl⟩)
    have K0 := hid K1.out
    clear HN HPG K1
    go_upto_block 0 with fail
    go_cut [9] from 9 to 62 (fun _ wx => St W.heap.size wx none none 80 ∧ Kept (fun _ => False) W wx)
    case first =>
      go_wp2_with fail
      go_loopw [36] (fun i wr => ∃ k : Nat, k ≤ ops.length ∧ k ≤ 80 ∧ i = .int .i64 k ∧ St W.heap.size wr none none k ∧ Kept (fun _ => False) W wr) (fun i _ => ops.length - (RowKit.intOf i).toNat)
      case atStart => exact ⟨0, Nat.zero_le _, Nat.zero_le _, rfl, S0.out, K0.out⟩
      case round =>
        rename World => wr
        clear S0 K0
        obtain ⟨k, hk, hk80, rfl, hst, hkp⟩ := hrel
        have HST := hid hst; have KR := hid hkp; clear hst hkp
        by_cases hlt : k < ops.length
        · have hltI : (k : Int) < (ops.length : Int) := by omega
          obtain ⟨x, hx⟩ : ∃ x, ops[k]? = some x := ⟨ops[k], by simp [hlt]⟩
          obtain ⟨ao', c', e0, _, _, hat⟩ := HSC.out
          simp only [Value.slice.injEq] at e0
          obtain ⟨rfl, _, rfl⟩ := e0
          obtain ⟨ob, off, bo, bc, rfl, d0, d1, d2, hok⟩ := hat k x hx
          have d0 := KR.out.cell d0 id; have d1 := KR.out.cell d1 id; have d2 := KR.out.cell d2 id
          have HOK := hid hok
          clear hat hx hok
          obtain ⟨W2, hW2⟩ : ∃ W2, wr.alloc (.cells #[.int .u8 x.kd, .int .i64 x.i, .slice bo x.l.length bc] 29) = W2 := ⟨_, rfl⟩
          have HB := hid (show W2.heap[wr.heap.size]? = some (.cells #[.int .u8 x.kd, .int .i64 x.i, .slice bo x.l.length bc] 29 (0, 0)) from by rw [← hW2]; exact row_new _ _)
          have HKW := hid (show Kept (fun _ => False) wr W2 from by rw [← hW2]; exact (Kept.refl _ _).alloc _)
          by_cases h80 : (80 : Int) ≤ (k : Int)
          · have S9 := hid (show St W.heap.size W2 none none 80 from (HST.out.mono (by omega)).same HKW.out)
            clear HB
            go_wp2
            go_meet
            exact ⟨S9.out, KR.out.trans HKW.out⟩
          · obtain ⟨e0, e1, e2⟩ := cells3 HB.out
            obtain ⟨M, hM⟩ : ∃ M, min 300 x.l.length = M := ⟨_, rfl⟩
            have hm1 : M ≤ x.l.length := by omega
            have hm3 : M ≤ 300 := by omega
            have hmj : (min (x.l.length : Int) 300).toNat = M := by omega
            have hm2 : M ≤ bc := by obtain ⟨_, _, e, ⟨q, _⟩, _⟩ := HOK.out.b; simp only [Value.slice.injEq] at e; obtain ⟨_, _, rfl⟩ := e; omega
            have hx64 : x.l.length ≤ 9223372036854775807 := by have := HOK.out.l; omega
            have hbc : bc ≤ 9223372036854775807 := by obtain ⟨_, _, e, ⟨_, q⟩, _⟩ := HOK.out.b; simp only [Value.slice.injEq] at e; obtain ⟨_, _, rfl⟩ := e; unfold maxLen at q; omega
            have HM := hid hM
            have HF := hid (row_free HB.out 2)
            have hfz := HF.out
            clear hM
            have hge : ¬ (80 : Int) ≤ (k : Int) := h80
            go_wp2_with fail
            obtain ⟨w3, hw3⟩ : ∃ w3, W2.setCell ⟨wr.heap.size, 2, none⟩ (.slice bo M bc) = w3 := ⟨_, rfl⟩
            have k3 : Kept (fun _ => False) wr w3 := by rw [← hw3]; exact HKW.out.setCell (.inr (Nat.le_refl _)) _
            have HB3 := hid (show Byt w3 (.slice bo M bc) (x.l.take M) from (HOK.out.b.take M hm1).kept (KR.out.trans k3) (fun _ _ => id))
            have HL3 := hid (show (x.l.take M).length = M by rw [List.length_take]; omega)
            have K3 := hid k3
            have HNB := hid (show 0 < (x.l.take M).length → ∀ g, (Value.slice bo M bc).ownBlock = some g → g < W.heap.size from byt_lt (HOK.out.b.take M hm1))
            try rw [hmj]
            rw [hw3]
            clear hmj
            clear k3 hw3 hfz e0 e1 e2 d0 d1 d2 HB hW2
            refine (play_any (HST.out.same K3.out) (by omega) (Nat.le_trans KR.out.size K3.out.size) HOK.out.i.2 HL3.out hm3 HB3.out HNB.out (fun y hy => HOK.out.r y (List.mem_of_mem_take hy))).mono ?_
            rintro e w4 ⟨rfl, hs4, hk4, _⟩
            have S4 := hid hs4
            have K4 := hid ((KR.out.trans K3.out).trans' hk4 (fun g hg => .inr hg))
            clear hs4 hk4 HB3 HNB K3 HST
            go_wp2_with fail
            refine (looks_any S4.out (by omega)).mono ?_
            rintro e w5 ⟨rfl, hk5⟩
            have K5 := hid hk5
            clear hk5
            go_wp2
            go_roundw
            case rel => exact ⟨k + 1, by omega, by omega, by go_num, S4.out.same K5.out, K4.out.trans K5.out⟩
            case measure => (simp only [RowKit.intOf]; omega)
        · have S9 := hid (HST.out.mono hk80)
          go_wp2
          go_meet
          exact ⟨S9.out, KR.out⟩
    case rest =>
      obtain ⟨hst, hkp⟩ := hcut
      have HST := hid hst; have KC := hid hkp
      clear hst hkp S0 K0
      rename World => wc
      go_wp2_with fail
      go_loopw [11] (fun i wr => i = .int .i64 0 ∧ Kept (fun _ => False) wc wr) (fun i _ => 12 - (RowKit.intOf i).toNat)
      case atStart => exact ⟨rfl, Kept.refl _ _⟩
      case round =>
        rename World => wr
        obtain ⟨rfl, hkp⟩ := hrel
        have KR := hid hkp; clear hkp
        go_wp2
        go_ret
        exact ⟨rfl, (KC.out.trans KR.out).below (Nat.le_refl _) (fun _ h => h.elim)⟩
end Go.Proofs.Ytnfdkpjklenllaa
