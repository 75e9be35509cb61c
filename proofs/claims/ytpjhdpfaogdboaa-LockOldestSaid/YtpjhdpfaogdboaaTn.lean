/- Ask of somebody who isn't known. -/
import Derived.Test.YtpjhdpfaogdboaaT
namespace Go.Proofs.Ytpjhdpfaogdboaa
set_option linter.unusedSimpArgs false
set_option linter.unusedVariables false
open Go.RowKit
section
variable {own : Nat → Option Tx} {B : Nat} {w w' : World} {tb mb : Nat} {L : List Ow} {A : Tx → Ad}
set_option maxRecDepth 100000 in
set_option maxHeartbeats 8000000 in
theorem ask_new {t1 t2 t3 age : Int} {a : Option Addr} {c : Nat} {ws : List Wt} {o : Ow} (hb : Tab own B w tb mb L A) (hl : Lies (fun i => i = mb) w 2 (.slice a ws.length c) ws.length (wcells ws)) (hz : chkW ws = 0) (hl2 : findO L (t1, t2, t3) = none) (hoe : ⟨(t1, t2, t3), age, [], [], false⟩ = o) (hf : cnt L + ws.length ≤ 256) (hLL : L.length ≤ 900000) :
    Calls Try.prog 11 #[.pointer (some ⟨tb, 0, none⟩), .agg #[.int .u8 t1, .int .u32 t2, .int .u32 t3], .int .u64 age, .slice a ws.length c] w fun e w' => ∃ own' A' ga gc da dc, e = .returned (.tuple #[.slice ga (settled (askL L o ws)).2.length gc, .slice da ((L.filter (hurt o ws)).map (·.tx)).length dc, .int .i64 0]) ∧ Tab own' B w' tb mb (settled (askL L o ws)).1 A'
      ∧ Own w' 32 3 (.slice ga (settled (askL L o ws)).2.length gc) (settled (askL L o ws)).2.length ((settled (askL L o ws)).2.flatMap encT) ∧ (∀ b, (Value.slice ga (settled (askL L o ws)).2.length gc).ownBlock = some b → w.heap.size ≤ b ∧ own' b = none)
      ∧ Own w' 32 3 (.slice da ((L.filter (hurt o ws)).map (·.tx)).length dc) ((L.filter (hurt o ws)).map (·.tx)).length (((L.filter (hurt o ws)).map (·.tx)).flatMap encT) ∧ (∀ b, (Value.slice da ((L.filter (hurt o ws)).map (·.tx)).length dc).ownBlock = some b → w.heap.size ≤ b ∧ own' b = none)
      ∧ Kept (fun i => i = mb ∨ ∃ t, own i = some t) w w' ∧ ∀ i, i < w.heap.size → own' i = own i := by
  have HOE := hid hoe; have HF := hid hf; have HLL := hid (show L.length ≤ 1000000 by omega); have HLL9 := hid hLL
  have HOT := hid (show o.tx = (t1, t2, t3) by rw [← hoe])
  have HOK := hid (show Ris o.lk ∧ Fm o.lk by rw [← hoe]; exact ⟨List.Pairwise.nil, (fun x hx => nomatch hx)⟩)
  have hmm := @run_makeMap Try.prog
  clear hf hLL hoe
  have hk1 := (Kept.refl (fun _ => False) w).alloc (.cells #[.int .u8 t1, .int .u32 t2, .int .u32 t3] 32)
  have hkb := row_new w (.cells #[.int .u8 t1, .int .u32 t2, .int .u32 t3] 32)
  obtain ⟨w1, hw1⟩ : ∃ w1, w.alloc (.cells #[.int .u8 t1, .int .u32 t2, .int .u32 t3] 32) = w1 := ⟨_, rfl⟩
  obtain ⟨kb, hkb'⟩ : ∃ kb, w.heap.size = kb := ⟨_, rfl⟩
  rw [hw1] at hk1 hkb
  rw [hkb'] at hkb
  have HKB := hid (Nat.le_of_eq hkb'.symm)
  have K1 := hid hk1; have HK1 := hid hkb
  have HLI := hid (hl.same hk1)
  obtain ⟨n, hn⟩ : ∃ n, ws.length = n := ⟨_, rfl⟩
  have HN := hid hn
  rw [hn]
  clear hl hk1 hkb hn
  have HB1 := hid (hb.same K1.out)
  have HC := hid (chk_any HLI.out HN.out hz)
  have HL := hid hl2; have HZ := hid hz
  clear hb hz hl2
  go_enter Try.func11, Try.ntmps11
  go_wp2_with fail
  try rw [hw1, hkb']
  clear hw1 hkb'
  refine HC.out.mono ?_
  rintro e w2 ⟨rfl, hk2⟩
  have K2 := hid (K1.out.trans hk2)
  have HB2 := hid (HB1.out.same hk2)
  have HK2 := hid ((hk2.block _ (row_lt HK1.out) id).trans HK1.out)
  have HL2 := hid (HLI.out.same hk2)
  clear hk2 HB1 HK1 HLI K1
  have l0 := HB2.out.look0 HL.out
  have c0 := HB2.out.cell
  obtain ⟨d0, d1, d2⟩ := cells3 HK2.out
  go_wp2_with fail
  go_quiet (fail)
  have hk3 := kept_drewN (F := fun _ => False) w2 nq
  have K3 := hid (K2.out.trans hk3)
  have HB3 := hid (HB2.out.same hk3)
  have HK3 := hid ((hk3.block _ (row_lt HK2.out) id).trans HK2.out)
  have HL3 := hid (HL2.out.same hk3)
  obtain ⟨w3, hw3⟩ : ∃ w3, w2.drewN nq = w3 := ⟨_, rfl⟩
  rw [hw3] at K3 HB3 HK3 HL3
  clear hk3 l0 c0 d0 d1 d2 HB2 HK2 HL2 K2
  have HCN := hid (count_any HB3.out (by have := HF.out; omega))
  have HN0 := hid (show 0 < n from by have := (chkW_ok HZ.out).2.2.1; rw [HN.out] at this; exact this)
  have hnb : n ≤ 40 := by have := (chkW_ok HZ.out).2.1; rw [HN.out] at this; exact this
  obtain ⟨q, hq⟩ : ∃ q, cnt L = q := ⟨_, rfl⟩
  have hqn : q + n ≤ 256 := by have := HF.out; rw [hq, HN.out] at this; exact this
  rw [hq] at HCN
  clear hq
  go_wp2_with fail
  try rw [hw3]
  clear hw3
  refine HCN.out.mono ?_
  rintro e w4 ⟨rfl, hk4⟩
  have K4 := hid (K3.out.trans hk4)
  have HT4 := hid (HB3.out.same hk4)
  have HKB4 := hid ((hk4.block _ (row_lt HK3.out) id).trans HK3.out)
  have HL4 := hid (HL3.out.same hk4)
  clear hk4 HB3 HK3 HL3 K3 HCN
  have k5 := ((Kept.refl (fun _ => False) w4).alloc (.map #[] 0)).alloc (.cells #[.int .u8 t1, .int .u32 t2, .int .u32 t3, .int .u64 age, .map (some w4.heap.size), .slice none 0 0, .bool false] 68)
  have htw := two_new w4 (.map #[] 0) (.cells #[.int .u8 t1, .int .u32 t2, .int .u32 t3, .int .u64 age, .map (some w4.heap.size), .slice none 0 0, .bool false] 68)
  have hsz : ((w4.alloc (.map #[] 0)).alloc (.cells #[.int .u8 t1, .int .u32 t2, .int .u32 t3, .int .u64 age, .map (some w4.heap.size), .slice none 0 0, .bool false] 68)).heap.size = w4.heap.size + 2 := by simp
  have K5 := hid k5; have TW := hid htw; have HSZ := hid hsz
  obtain ⟨d0, d1, d2⟩ := cells3 HKB4.out
  clear k5 htw hsz
  go_wp2_with fail
  clear d0 d1 d2
  obtain ⟨lb, hlb⟩ : ∃ lb, w4.heap.size = lb := ⟨_, rfl⟩
  rw [hlb] at K5 TW HSZ ⊢
  obtain ⟨wz, hwz⟩ : ∃ wz, (w4.alloc (.map #[] 0)).alloc (.cells #[.int .u8 t1, .int .u32 t2, .int .u32 t3, .int .u64 age, .map (some lb), .slice none 0 0, .bool false] 68) = wz := ⟨_, rfl⟩
  rw [hwz] at K5 TW HSZ ⊢
  obtain ⟨ob, hob⟩ : ∃ ob, lb + 1 = ob := ⟨_, rfl⟩
  rw [hob] at TW ⊢
  obtain ⟨va, hva⟩ : ∃ va : Option Addr, none = va := ⟨_, rfl⟩
  obtain ⟨vc, hvc⟩ : ∃ vc : Nat, 0 = vc := ⟨_, rfl⟩
  have h1 : w4.heap.size ≤ ob ∧ ob < wz.heap.size := by rw [HSZ.out]; omega
  have h2 : w4.heap.size ≤ lb ∧ lb < wz.heap.size := by rw [HSZ.out]; omega
  obtain ⟨own2, hown⟩ : ∃ own2, ownP own ob lb (t1, t2, t3) = own2 := ⟨_, rfl⟩
  have HT := hid (show Tab own2 B wz tb mb L A from hown ▸ HT4.out.more K5.out h1 h2)
  have HO := hid (show OwIn (fun i => own2 i = some o.tx) wz ⟨ob, lb, va, vc⟩ o from by
    rw [HOT.out, ← hown, ← HOE.out, ← hva, ← hvc]
    exact ⟨TW.out.2, ⟨[], ⟨#[], 0, TW.out.1, rfl, List.nodup_nil, MapKept.stamped_empty 0⟩, fun k => rfl, rfl⟩, Lies.nil _ _ _, if_pos (.inl rfl), if_pos (.inr rfl)⟩)
  have hw4 := K4.out.size
  have HEO := hid (show ∀ i, i < w.heap.size → own2 i = own i from fun i hi => by
    rw [← hown]
    show (if i = ob ∨ i = lb then some (t1, t2, t3) else own i) = _
    rw [if_neg (by omega)])
  have HKM := hid (show kb ≠ mb from fun e => by
    obtain ⟨M, ⟨es, c, hm, _⟩, _⟩ := HT4.out.map
    have h1 := HKB4.out
    rw [e, hm] at h1
    cases h1)
  have KZ := hid (K4.out.trans K5.out)
  have HKB := hid ((K5.out.block _ (row_lt HKB4.out) id).trans HKB4.out)
  have HLz := hid (HL4.out.same K5.out)
  clear hown hwz hlb hob hva hvc h1 h2 hw4 TW HSZ K5 HT4 K4 HKB4 HL4
  refine (all_any HT.out HLL.out).mono ?_
  rintro e wa ⟨la, lc, rfl, hla, hka⟩
  obtain ⟨N, hN⟩ : ∃ N, L.length = N := ⟨_, rfl⟩
  rw [hN] at hla ⊢
  have HNL := hid hN
  have hN6 : N ≤ 1000000 := by have := HLL.out; omega
  have KA := hid hka
  have HS0 := hid (show Wnd own2 B wz wa tb mb L A o ⟨ob, lb, va, vc⟩ la N lc (hurtS L o ws 0) none 0 wa from ⟨by
    have e : remS L (hurtS L o ws 0) = L := remS_nil L
    rw [e]
    exact HT.out.same hka, HO.out.same hka, Own.nil _ _ _, fun b h => by simp [hurtS, Value.ownBlock] at h, hla.mono (fun g hg h => h.elim id (fun h => by omega)), Kept.refl _ _⟩)
  clear hla hka hN
  go_wp2_with fail
  go_loopw [13, 67] (fun d i wr => ∃ (k : Nat) (S : List Tx) (da : Option Addr) (dc : Nat), d = .slice da S.length dc ∧ i = .int .i64 k ∧ k ≤ N ∧ hurtS L o ws k = S ∧ Wnd own2 B wz wa tb mb L A o ⟨ob, lb, va, vc⟩ la N lc S da dc wr) (fun _ i _ => N - (RowKit.intOf i).toNat)
  case atStart => exact ⟨0, _, none, 0, rfl, rfl, Nat.zero_le _, rfl, HS0.out⟩
  case round =>
    rename World => wr
    clear HS0
    obtain ⟨k, S, da, dc, rfl, rfl, hk, hsk, hst⟩ := hrel
    have HST := hid hst; have HSK := hid hsk
    clear hst hsk
    by_cases hlt : k < N
    · have hltI : (k : Int) < (N : Int) := by omega
      obtain ⟨⟨⟨y1, y2, y3⟩, xa, xlk, xws, xf⟩, hx⟩ : ∃ x, L[k]? = some x := ⟨_, List.getElem?_eq_getElem (by rw [HNL.out]; exact hlt)⟩
      have hxm := mem_remS (o := o) (ws := ws) HT.out.nodup hx
      rw [HSK.out] at hxm
      have hcl : (obs A L)[k]? = some (A (y1, y2, y3)).ob := by rw [obs, List.getElem?_map, hx]; rfl
      obtain ⟨_, hcap, hcm, gb, off, rfl, c0⟩ := lies_ptr HST.out.l hcl
      unfold maxLen at hcm
      have HNX := hid (hurtS_step (o := o) (ws := ws) hx)
      have hsl : S.length ≤ N := by
        have := hurtS_len L o ws k
        rw [HSK.out] at this
        omega
      have XI := hid (HST.out.t.ows _ hxm)
      have XOK := hid (HST.out.t.ok _ hxm)
      obtain ⟨xb, hxb⟩ : ∃ xb, (A (y1, y2, y3)).ob = xb := ⟨_, rfl⟩
      rw [hxb] at c0
      unfold ptr at c0
      obtain ⟨x0, x1, x2, x3, x6⟩ := ow_cells XI.out hxb
      obtain ⟨k0, k1, k2⟩ := cells3 (((KA.out.mono (fun _ _ h => h.elim) : Kept (fun i => i = mb) wz wa).trans HST.out.k |>.block kb (row_lt HKB.out) HKM.out).trans HKB.out)
      obtain ⟨o0, o1, o2, o3, _⟩ := ow_cells (HOE.out ▸ HST.out.o) (xb := ob) rfl
      have HXB := hid hxb
      clear hx hcl hxm hxb
      have hne := fun W => tx_ne (y1, y2, y3) (t1, t2, t3) W
      unfold txv at hne
      go_wp2_with fail
      by_cases e1 : ((y1, y2, y3) : Tx) = (t1, t2, t3)
      · simp only [e1, decide_true, Bool.not_true] at hne
        have HHU := hid (show hurt o ws ⟨(y1, y2, y3), xa, xlk, xws, xf⟩ = false by rw [← HOE.out]; simp [hurt, e1])
        clear e1
        go_quiet (fail)
        have HSW := hid (HST.out.same (kept_drewN wr nq))
        have HSN := hid (show hurtS L o ws (k + 1) = S by rw [HNX.out, HSK.out, if_neg (by rw [HHU.out]; decide), List.append_nil])
        go_wp2
        go_roundw
        case rel => exact ⟨k + 1, S, da, dc, rfl, by go_num, by omega, HSN.out, HSW.out⟩
        case measure => (simp only [RowKit.intOf]; omega)
      · simp only [e1, decide_false, Bool.not_false] at hne
        have E1 := hid e1
        clear e1
        cases xf with
        | true =>
          have HHU := hid (show hurt o ws ⟨(y1, y2, y3), xa, xlk, xws, true⟩ = false by simp [hurt])
          go_quiet (fail)
          have HSW := hid (HST.out.same (kept_drewN wr nq))
          have HSN := hid (show hurtS L o ws (k + 1) = S by rw [HNX.out, HSK.out, if_neg (by rw [HHU.out]; decide), List.append_nil])
          go_wp2
          go_roundw
          case rel => exact ⟨k + 1, S, da, dc, rfl, by go_num, by omega, HSN.out, HSW.out⟩
          case measure => (simp only [RowKit.intOf]; omega)
        | false =>
          have HSA0 := hid (show wr.cell? ⟨kb, 0, none⟩ = some (.int .u8 t1) ∧ wr.cell? ⟨kb, 1, none⟩ = some (.int .u32 t2) ∧ wr.cell? ⟨kb, 2, none⟩ = some (.int .u32 t3) ∧ wr.cell? ⟨xb, 0, none⟩ = some (.int .u8 y1) ∧ wr.cell? ⟨xb, 1, none⟩ = some (.int .u32 y2) ∧ wr.cell? ⟨xb, 2, none⟩ = some (.int .u32 y3) ∧ wr.cell? ⟨xb, 3, none⟩ = some (.int .u64 xa) ∧ wr.cell? ⟨xb, 6, none⟩ = some (.bool false) ∧ wr.cell? ⟨ob, 0, none⟩ = some (.int .u8 t1) ∧ wr.cell? ⟨ob, 1, none⟩ = some (.int .u32 t2) ∧ wr.cell? ⟨ob, 2, none⟩ = some (.int .u32 t3) ∧ wr.cell? ⟨ob, 3, none⟩ = some (.int .u64 age) from ⟨k0, k1, k2, x0, x1, x2, x3, x6, o0, o1, o2, o3⟩)
          have HSA := hid (show wr.drew.cell? ⟨kb, 0, none⟩ = some (.int .u8 t1) ∧ wr.drew.cell? ⟨kb, 1, none⟩ = some (.int .u32 t2) ∧ wr.drew.cell? ⟨kb, 2, none⟩ = some (.int .u32 t3) ∧ wr.drew.cell? ⟨xb, 0, none⟩ = some (.int .u8 y1) ∧ wr.drew.cell? ⟨xb, 1, none⟩ = some (.int .u32 y2) ∧ wr.drew.cell? ⟨xb, 2, none⟩ = some (.int .u32 y3) ∧ wr.drew.cell? ⟨xb, 3, none⟩ = some (.int .u64 xa) ∧ wr.drew.cell? ⟨xb, 6, none⟩ = some (.bool false) ∧ wr.drew.cell? ⟨ob, 0, none⟩ = some (.int .u8 t1) ∧ wr.drew.cell? ⟨ob, 1, none⟩ = some (.int .u32 t2) ∧ wr.drew.cell? ⟨ob, 2, none⟩ = some (.int .u32 t3) ∧ wr.drew.cell? ⟨ob, 3, none⟩ = some (.int .u64 age) from HSA0.out)
          clear k0 k1 k2 x0 x1 x2 x3 x6 o0 o1 o2 o3 c0
          obtain ⟨z, hzz⟩ : ∃ z, ordO (age, t1, t2, t3) (xa, y1, y2, y3) = z := ⟨_, rfl⟩
          have hzl := ordO_neg (x := (age, t1, t2, t3)) (y := (xa, y1, y2, y3))
          rw [hzz] at hzl
          have HORD := hid hzz; have HZL := hid hzl
          clear hzz hzl
          by_cases hz0 : z < 0
          · have HLT := hid (HZL.out.1 hz0)
            obtain ⟨b, hb⟩ : ∃ b, clash xlk ws = b := ⟨_, rfl⟩
            have HCB := hid hb
            clear hb
            refine wp_region_held_drew (S := fun w' => w'.cell? ⟨kb, 0, none⟩ = some (.int .u8 t1) ∧ w'.cell? ⟨kb, 1, none⟩ = some (.int .u32 t2) ∧ w'.cell? ⟨kb, 2, none⟩ = some (.int .u32 t3) ∧ w'.cell? ⟨xb, 0, none⟩ = some (.int .u8 y1) ∧ w'.cell? ⟨xb, 1, none⟩ = some (.int .u32 y2) ∧ w'.cell? ⟨xb, 2, none⟩ = some (.int .u32 y3) ∧ w'.cell? ⟨xb, 3, none⟩ = some (.int .u64 xa) ∧ w'.cell? ⟨xb, 6, none⟩ = some (.bool false) ∧ w'.cell? ⟨ob, 0, none⟩ = some (.int .u8 t1) ∧ w'.cell? ⟨ob, 1, none⟩ = some (.int .u32 t2) ∧ w'.cell? ⟨ob, 2, none⟩ = some (.int .u32 t3) ∧ w'.cell? ⟨ob, 3, none⟩ = some (.int .u64 age)) (by kernel_rfl) (by exact HSA.out) (fun hHeld => ?_)
            refine wpAnyH_at 0 (some 71) (v := ?v500) (by decide) rfl (by kernel_rfl) (by kernel_rfl) (by kernel_rfl) (fun _ _ _ h => h) (Or.inl ⟨by rfl, ?y500⟩) (by assumption) ?r500
            case y500 => (intro w hSw; (try dsimp only at hSw); go_simp; (try with_reducible rfl))
            simp only [Act.put, List.setIfInBounds_toArray, List.set_cons_zero, List.set_cons_succ]
            refine wpAnyH_at 1 (some 72) (v := ?v501) (by decide) rfl (by kernel_rfl) (by kernel_rfl) (by kernel_rfl) (fun _ _ _ h => h) (Or.inl ⟨by rfl, ?y501⟩) (by assumption) ?r501
            case y501 => (intro w hSw; (try dsimp only at hSw); go_simp; (try with_reducible rfl))
            simp only [Act.put, List.setIfInBounds_toArray, List.set_cons_zero, List.set_cons_succ]
            refine wpAnyH_at 2 (some 73) (v := ?v502) (by decide) rfl (by kernel_rfl) (by kernel_rfl) (by kernel_rfl) (fun _ _ _ h => h) (Or.inl ⟨by rfl, ?y502⟩) (by assumption) ?r502
            case y502 => (intro w hSw; (try dsimp only at hSw); go_simp; (try with_reducible rfl))
            simp only [Act.put, List.setIfInBounds_toArray, List.set_cons_zero, List.set_cons_succ]
            refine wpAnyH_at 3 (some 74) (v := ?v503) (by decide) rfl (by kernel_rfl) (by kernel_rfl) (by kernel_rfl) (fun _ _ _ h => h) (Or.inl ⟨by rfl, ?y503⟩) (by assumption) ?r503
            case y503 => (intro w hSw; (try dsimp only at hSw); go_simp; (try with_reducible rfl))
            simp only [Act.put, List.setIfInBounds_toArray, List.set_cons_zero, List.set_cons_succ]
            refine wpAnyH_at 4 (some 75) (v := ?v504) (by decide) rfl (by kernel_rfl) (by kernel_rfl) (by kernel_rfl) (fun _ _ _ h => h) (Or.inl ⟨by rfl, ?y504⟩) (by assumption) ?r504
            case y504 => (intro w hSw; (try dsimp only at hSw); go_simp; (try with_reducible rfl))
            simp only [Act.put, List.setIfInBounds_toArray, List.set_cons_zero, List.set_cons_succ]
            refine wpAnyH_at 5 (some 76) (v := ?v505) (by decide) rfl (by kernel_rfl) (by kernel_rfl) (by kernel_rfl) (fun _ _ _ h => h) (Or.inl ⟨by rfl, ?y505⟩) (by assumption) ?r505
            case y505 => (intro w hSw; (try dsimp only at hSw); go_simp; (try with_reducible rfl))
            simp only [Act.put, List.setIfInBounds_toArray, List.set_cons_zero, List.set_cons_succ]
            refine wpAnyH_at 6 (some 77) (v := ?v506) (by decide) rfl (by kernel_rfl) (by kernel_rfl) (by kernel_rfl) (fun _ _ _ h => h) (Or.inl ⟨by rfl, ?y506⟩) (by assumption) ?r506
            case y506 => (intro w hSw; (try dsimp only at hSw); go_simp; (try with_reducible rfl))
            simp only [Act.put, List.setIfInBounds_toArray, List.set_cons_zero, List.set_cons_succ]
            refine wpAnyH_at 7 (some 78) (v := ?v507) (by decide) rfl (by kernel_rfl) (by kernel_rfl) (by kernel_rfl) (fun _ _ _ h => h) (Or.inl ⟨by rfl, ?y507⟩) (by assumption) ?r507
            case y507 => (intro w hSw; (try dsimp only at hSw); go_simp; (try with_reducible rfl))
            simp only [Act.put, List.setIfInBounds_toArray, List.set_cons_zero, List.set_cons_succ]
            refine wpAnyH_at 8 (some 79) (v := ?v508) (by decide) rfl (by kernel_rfl) (by kernel_rfl) (by kernel_rfl) (fun _ _ _ h => h) (Or.inl ⟨by rfl, ?y508⟩) (by assumption) ?r508
            case y508 => (intro w hSw; (try dsimp only at hSw); go_simp; (try with_reducible rfl))
            simp only [Act.put, List.setIfInBounds_toArray, List.set_cons_zero, List.set_cons_succ]
            refine wpAnyH_at 9 (some 80) (v := ?v509) (by decide) rfl (by kernel_rfl) (by kernel_rfl) (by kernel_rfl) (fun _ _ _ h => h) (Or.inl ⟨by rfl, ?y509⟩) (by assumption) ?r509
            case y509 => (intro w hSw; (try dsimp only at hSw); go_simp; (try with_reducible rfl))
            simp only [Act.put, List.setIfInBounds_toArray, List.set_cons_zero, List.set_cons_succ]
            refine wpAnyH_at 10 (some 81) (v := ?v510) (by decide) rfl (by kernel_rfl) (by kernel_rfl) (by kernel_rfl) (fun _ _ _ h => h) (Or.inl ⟨by rfl, ?y510⟩) (by assumption) ?r510
            case y510 => (intro w hSw; (try dsimp only at hSw); go_simp; (try with_reducible rfl))
            simp only [Act.put, List.setIfInBounds_toArray, List.set_cons_zero, List.set_cons_succ]
            refine wpAnyH_at 11 (some 82) (v := ?v511) (by decide) rfl (by kernel_rfl) (by kernel_rfl) (by kernel_rfl) (fun _ _ _ h => h) (Or.inl ⟨by rfl, ?y511⟩) (by assumption) ?r511
            case y511 => (intro w hSw; (try dsimp only at hSw); go_simp; (try with_reducible rfl))
            simp only [Act.put, List.setIfInBounds_toArray, List.set_cons_zero, List.set_cons_succ]
            refine wpAnyH_at 12 (some 83) (v := ?v512) (by decide) rfl (by kernel_rfl) (by kernel_rfl) (by kernel_rfl) (fun _ _ _ h => h) (Or.inl ⟨by rfl, ?y512⟩) (by assumption) ?r512
            case y512 => (intro w hSw; (try dsimp only at hSw); go_simp; (try with_reducible rfl))
            simp only [Act.put, List.setIfInBounds_toArray, List.set_cons_zero, List.set_cons_succ]
            refine wpAnyH_at 13 (some 84) (v := ?v513) (by decide) rfl (by kernel_rfl) (by kernel_rfl) (by kernel_rfl) (fun _ _ _ h => h) (Or.inl ⟨by rfl, ?y513⟩) (by assumption) ?r513
            case y513 => (intro w hSw; (try dsimp only at hSw); go_simp; (try with_reducible rfl))
            simp only [Act.put, List.setIfInBounds_toArray, List.set_cons_zero, List.set_cons_succ]
            refine wpAnyH_at 14 (some 85) (v := ?v514) (by decide) rfl (by kernel_rfl) (by kernel_rfl) (by kernel_rfl) (fun _ _ _ h => h) (Or.inl ⟨by rfl, ?y514⟩) (by assumption) ?r514
            case y514 => (intro w hSw; (try dsimp only at hSw); go_simp; (try with_reducible rfl))
            simp only [Act.put, List.setIfInBounds_toArray, List.set_cons_zero, List.set_cons_succ]
            refine wpAnyH_at 15 (some 86) (v := ?v515) (by decide) rfl (by kernel_rfl) (by kernel_rfl) (by kernel_rfl) (fun _ _ _ h => h) (Or.inl ⟨by rfl, ?y515⟩) (by assumption) ?r515
            case y515 => (intro w hSw; (try dsimp only at hSw); go_simp; (try with_reducible rfl))
            simp only [Act.put, List.setIfInBounds_toArray, List.set_cons_zero, List.set_cons_succ]
            refine wpAnyH_ready (rs := [16]) (by kernel_rfl) (by simp) ?_
            refine AllReadyH.cons rfl (fun K hK => ?_) AllReadyH.nil
            go_simp
            refine (elder_grow (x0 := age) (x1 := t1) (x2 := t2) (x3 := t3) (y0 := xa) (y1 := y1) (y2 := y2) (y3 := y3) (by obtain ⟨_, _, _, h4, h5, h6, h7, _, h9, h10, h11, h12⟩ := hHeld; exact ⟨h9, h10, h11, h12, h4, h5, h6, h7⟩)).mono ?_
            rintro e w5 ⟨he5, q5, os5, hw5⟩
            rw [HORD.out] at he5
            subst he5
            have k5 : Kept (fun _ => False) wr w5 := by rw [hw5]; exact (Kept.refl (fun _ => False) wr).drew.trans (kept_grow _ q5 os5)
            have HS5 := hid (sa_kept k5 HSA0.out)
            have K5 := hid k5
            clear hw5 k5 hHeld
            try dsimp only []
            refine hK.out _ _ (by exact HS5.out) (fun hHeld => ?_)
            clear hK K
            try simp only [Act.put, List.setIfInBounds_toArray, List.set_cons_zero, List.set_cons_succ]
            refine wpAnyH_at 17 (some 88) (v := ?v517) (by decide) rfl (by kernel_rfl) (by kernel_rfl) (by kernel_rfl) (fun _ _ _ h => h) (Or.inl ⟨by rfl, ?y517⟩) (by assumption) ?r517
            case y517 => (intro w hSw; (try dsimp only at hSw); go_simp; (try with_reducible rfl))
            simp only [Act.put, List.setIfInBounds_toArray, List.set_cons_zero, List.set_cons_succ]
            refine wpAnyH_at 18 (some 89) (v := ?v518) (by decide) rfl (by kernel_rfl) (by kernel_rfl) (by kernel_rfl) (fun _ _ _ h => h) (Or.inl ⟨by rfl, ?y518⟩) (by assumption) ?r518
            case y518 => (intro w hSw; (try dsimp only at hSw); go_simp; (try with_reducible rfl))
            simp only [Act.put, List.setIfInBounds_toArray, List.set_cons_zero, List.set_cons_succ]
            refine wpAnyH_at 19 (some 90) (v := ?v519) (by decide) rfl (by kernel_rfl) (by kernel_rfl) (by kernel_rfl) (fun _ _ _ h => h) (Or.inl ⟨by rfl, ?y519⟩) (by assumption) ?r519
            case y519 => (intro w hSw; (try dsimp only at hSw); go_simp; (try with_reducible rfl))
            simp only [Act.put, List.setIfInBounds_toArray, List.set_cons_zero, List.set_cons_succ]
            refine wpAnyH_at 20 (some 91) (v := ?v520) (by decide) rfl (by kernel_rfl) (by kernel_rfl) (by kernel_rfl) (fun _ _ _ h => h) (Or.inl ⟨by rfl, ?y520⟩) (by assumption) ?r520
            case y520 => (intro w hSw; (try dsimp only at hSw); go_simp; (try with_reducible rfl))
            simp only [Act.put, List.setIfInBounds_toArray, List.set_cons_zero, List.set_cons_succ]
            refine wpAnyH_at 21 (some 92) (v := ?v521) (by decide) rfl (by kernel_rfl) (by kernel_rfl) (by kernel_rfl) (fun _ _ _ h => h) (Or.inl ⟨by rfl, ?y521⟩) (by assumption) ?r521
            case y521 => (intro w hSw; (try dsimp only at hSw); go_simp; (try with_reducible rfl))
            simp only [Act.put, List.setIfInBounds_toArray, List.set_cons_zero, List.set_cons_succ]
            refine wpAnyH_ready (rs := [22]) (by kernel_rfl) (by simp) ?_
            refine AllReadyH.cons rfl (fun K hK => ?_) AllReadyH.nil
            go_simp
            refine (holds_n (XI.out.same K5.out) XOK.out.r XOK.out.f (HLz.out.kept ((KA.out.mono (fun _ _ h => h.elim) : Kept (fun i => i = mb) wz wa).trans (HST.out.same K5.out).k) (fun g _ h => h)) HN.out HXB.out HCB.out).mono ?_
            rintro e w6 ⟨rfl, hk6⟩
            have K6 := hid (K5.out.trans hk6)
            have HS6 := hid (sa_kept hk6 HS5.out)
            clear hk6 hHeld
            try dsimp only []
            refine hK.out _ _ (by exact HS6.out) (fun hHeld => ?_)
            clear hK K
            try simp only [Act.put, List.setIfInBounds_toArray, List.set_cons_zero, List.set_cons_succ]
            refine wpAnyH_at 23 (some 94) (v := ?v523) (by decide) rfl (by kernel_rfl) (by kernel_rfl) (by kernel_rfl) (fun _ _ _ h => h) (Or.inl ⟨by rfl, ?y523⟩) (by assumption) ?r523
            case y523 => (intro w hSw; (try dsimp only at hSw); go_simp; (try with_reducible rfl))
            simp only [Act.put, List.setIfInBounds_toArray, List.set_cons_zero, List.set_cons_succ]
            refine wpAnyH_done (by kernel_rfl) ?_ _
            clear hHeld HSA HS5
            have HSW := hid (HST.out.same K6.out)
            cases b with
            | false =>
              have HHU := hid (show hurt o ws ⟨(y1, y2, y3), xa, xlk, xws, false⟩ = false by simp [hurt, HCB.out])
              have HSN := hid (show hurtS L o ws (k + 1) = S by rw [HNX.out, HSK.out, if_neg (by rw [HHU.out]; decide), List.append_nil])
              go_wp2
              go_roundw
              case rel => exact ⟨k + 1, S, da, dc, rfl, by go_num, by omega, HSN.out, HSW.out⟩
              case measure => (simp only [RowKit.intOf]; omega)
            | true =>
              have HHU := hid (show hurt o ws ⟨(y1, y2, y3), xa, xlk, xws, false⟩ = true by
                have h1 := HLT.out
                have h2 := E1.out
                rw [← HOE.out]
                exact hurt_iff.2 ⟨h2, rfl, h1, HCB.out⟩)
              have HSN := hid (show hurtS L o ws (k + 1) = S ++ [(y1, y2, y3)] by rw [HNX.out, HSK.out, if_pos HHU.out])
              obtain ⟨m, hm⟩ : ∃ m, S.length = m := ⟨_, rfl⟩
              have HMM := hid hm
              have hg := HSW.out.g
              rw [hm] at hg hsl ⊢
              have HG := hid hg
              have HFM := hid (show (S ++ [(y1, y2, y3)]).flatMap encT = S.flatMap encT ++ encT (y1, y2, y3) by simp)
              have XI6 := hid (XI.out.same K6.out)
              obtain ⟨x0, x1, x2, x3, _⟩ := ow_cells XI6.out HXB.out
              clear hg hm hne HS6
              go_wp2_with (at_builtin; refine wpList_app rfl _ _ 27 rfl 32 (txv (0, 0, 0)) 3 12 Try.underlying27 infoT rfl (by decide) (.slice da m dc) m _ rfl (by exact HG.out.alloc _) _ rfl 1 _ (tx_src _ y1 y2 y3 rfl) (by unfold maxLen; omega) (by omega) ?_; intro da2 dc2 w8 ho3 hk3 hf3 _; have HA8 := hid ho3; have HK8 := hid hk3; have HF8 := hid hf3; clear ho3 hk3 hf3)
              have k68 : Kept (fun i => (Value.slice da m dc).ownBlock = some i) w6 w8 := ((Kept.refl _ w6).alloc _).trans HK8.out
              have hgn : ∀ i, (Value.slice da m dc).ownBlock = some i → wa.heap.size ≤ i := fun i h => HST.out.n i (by rw [HMM.out]; exact h)
              have hza := KA.out.size
              have hno : ∀ i, (Value.slice da m dc).ownBlock = some i → own2 i = none ∧ i ≠ tb ∧ i ≠ mb := fun i h => by
                have h1 := hgn i h
                have h2 := row_lt HT.out.obj
                have h3 := HT.out.mlt
                exact ⟨HT.out.new i (by omega), by omega, by omega⟩
              have HNO := hid hno; have HGN := hid hgn
              have T8 := hid (HSW.out.t.kept k68 (fun i _ h => HNO.out i h))
              have O8 := hid (HSW.out.o.kept k68 (fun i _ h1 h2 => by rw [(HNO.out i h2).1] at h1; cases h1))
              have X8 := hid (XI6.out.kept k68 (fun i _ h1 h2 => by rw [(HNO.out i h2).1] at h1; cases h1))
              have L8 := hid (HSW.out.l.kept k68 (fun i _ h => .inr (HGN.out i h)))
              have K8 := hid (HSW.out.k.trans' k68 (fun i h => .inr (HGN.out i h)))
              clear k68 hgn hno hza x0 x1 x2 x3
              obtain ⟨x0, x1, x2, x3, _⟩ := ow_cells X8.out HXB.out
              have c1 := T8.out.cell
              refine wp_region_still_tail 8 (by kernel_rfl) (by kernel_rfl) ?_
              simp only [List.take_succ_cons, List.take_zero, List.drop_succ_cons, List.drop_zero, World.drew_eq]
              iterate 8 still_step
              refine wpStill_nil ?_
              change wpList _ _ _ _ _ (World.drew _)
              have kdr : Kept (fun _ => False) w8 w8.drew := (Kept.refl _ w8).drew
              obtain ⟨M, hm, hp⟩ := (T8.out.same kdr).map
              have HP := hid hp
              clear hp c1 x0 x1 x2 x3
              refine wpList_wipeT rfl 61 65 _ (.tmp 105) (.tmp 109) rfl rfl mb (y1, y2, y3) (by rfl) (by rfl) Try.underlying61 _ hm ?_
              intro w9 hm9 hk9
              have HS9 := hid (show Wnd own2 B wz wa tb mb L A o ⟨ob, lb, va, vc⟩ (some ⟨gb, off, none⟩) N lc (S ++ [(y1, y2, y3)]) da2 dc2 w9 from by
                have hln : (S ++ [(y1, y2, y3)]).length = m + 1 := by rw [List.length_append, HMM.out]; rfl
                have k89 : Kept (fun i => i = mb) w8 w9 := (kdr.mono (fun _ _ h => h.elim)).trans hk9
                have hnb : ∀ b, (Value.slice da2 (m + 1) dc2).ownBlock = some b → wa.heap.size ≤ b := fun b hb => by
                  rcases HF8.out b hb with h | h
                  · exact HGN.out b h
                  · have := HSW.out.k.size
                    simp at h
                    omega
                have hmz := HT.out.mlt
                have hza := KA.out.size
                refine ⟨?_, O8.out.kept k89 (fun i _ h1 h2 => by rw [h2, HT.out.top.2] at h1; cases h1), ?_, fun b hb => hnb b (by rwa [hln] at hb), L8.out.kept k89 (fun i _ h => .inl (by omega)), K8.out.trans k89⟩
                · rw [← remS_drop]
                  exact (T8.out.same kdr).wiped HP.out hm9 hk9
                · rw [hln, HFM.out]
                  exact HA8.out.kept k89 (fun b hb h => by have := hnb b hb; omega))
              clear hm hm9 hk9 kdr
              go_wp2
              go_roundw
              case rel => exact ⟨k + 1, _, da2, dc2, by rw [List.length_append, HMM.out]; rfl, by go_num, by omega, HSN.out, HS9.out⟩
              case measure => (simp only [RowKit.intOf]; omega)
          · have HHU := hid (show hurt o ws ⟨(y1, y2, y3), xa, xlk, xws, false⟩ = false by
              have : ¬ ltO (age, t1, t2, t3) (xa, y1, y2, y3) := fun h => hz0 (HZL.out.2 h)
              rw [← HOE.out]; simp [hurt, Ow.key, this])
            refine wp_region_held_drew (S := fun w' => w'.cell? ⟨kb, 0, none⟩ = some (.int .u8 t1) ∧ w'.cell? ⟨kb, 1, none⟩ = some (.int .u32 t2) ∧ w'.cell? ⟨kb, 2, none⟩ = some (.int .u32 t3) ∧ w'.cell? ⟨xb, 0, none⟩ = some (.int .u8 y1) ∧ w'.cell? ⟨xb, 1, none⟩ = some (.int .u32 y2) ∧ w'.cell? ⟨xb, 2, none⟩ = some (.int .u32 y3) ∧ w'.cell? ⟨xb, 3, none⟩ = some (.int .u64 xa) ∧ w'.cell? ⟨xb, 6, none⟩ = some (.bool false) ∧ w'.cell? ⟨ob, 0, none⟩ = some (.int .u8 t1) ∧ w'.cell? ⟨ob, 1, none⟩ = some (.int .u32 t2) ∧ w'.cell? ⟨ob, 2, none⟩ = some (.int .u32 t3) ∧ w'.cell? ⟨ob, 3, none⟩ = some (.int .u64 age)) (by kernel_rfl) (by exact HSA.out) (fun hHeld => ?_)
            refine wpAnyH_at 0 (some 71) (v := ?v400) (by decide) rfl (by kernel_rfl) (by kernel_rfl) (by kernel_rfl) (fun _ _ _ h => h) (Or.inl ⟨by rfl, ?y400⟩) (by assumption) ?r400
            case y400 => (intro w hSw; (try dsimp only at hSw); go_simp; (try with_reducible rfl))
            simp only [Act.put, List.setIfInBounds_toArray, List.set_cons_zero, List.set_cons_succ]
            refine wpAnyH_at 1 (some 72) (v := ?v401) (by decide) rfl (by kernel_rfl) (by kernel_rfl) (by kernel_rfl) (fun _ _ _ h => h) (Or.inl ⟨by rfl, ?y401⟩) (by assumption) ?r401
            case y401 => (intro w hSw; (try dsimp only at hSw); go_simp; (try with_reducible rfl))
            simp only [Act.put, List.setIfInBounds_toArray, List.set_cons_zero, List.set_cons_succ]
            refine wpAnyH_at 2 (some 73) (v := ?v402) (by decide) rfl (by kernel_rfl) (by kernel_rfl) (by kernel_rfl) (fun _ _ _ h => h) (Or.inl ⟨by rfl, ?y402⟩) (by assumption) ?r402
            case y402 => (intro w hSw; (try dsimp only at hSw); go_simp; (try with_reducible rfl))
            simp only [Act.put, List.setIfInBounds_toArray, List.set_cons_zero, List.set_cons_succ]
            refine wpAnyH_at 3 (some 74) (v := ?v403) (by decide) rfl (by kernel_rfl) (by kernel_rfl) (by kernel_rfl) (fun _ _ _ h => h) (Or.inl ⟨by rfl, ?y403⟩) (by assumption) ?r403
            case y403 => (intro w hSw; (try dsimp only at hSw); go_simp; (try with_reducible rfl))
            simp only [Act.put, List.setIfInBounds_toArray, List.set_cons_zero, List.set_cons_succ]
            refine wpAnyH_at 4 (some 75) (v := ?v404) (by decide) rfl (by kernel_rfl) (by kernel_rfl) (by kernel_rfl) (fun _ _ _ h => h) (Or.inl ⟨by rfl, ?y404⟩) (by assumption) ?r404
            case y404 => (intro w hSw; (try dsimp only at hSw); go_simp; (try with_reducible rfl))
            simp only [Act.put, List.setIfInBounds_toArray, List.set_cons_zero, List.set_cons_succ]
            refine wpAnyH_at 5 (some 76) (v := ?v405) (by decide) rfl (by kernel_rfl) (by kernel_rfl) (by kernel_rfl) (fun _ _ _ h => h) (Or.inl ⟨by rfl, ?y405⟩) (by assumption) ?r405
            case y405 => (intro w hSw; (try dsimp only at hSw); go_simp; (try with_reducible rfl))
            simp only [Act.put, List.setIfInBounds_toArray, List.set_cons_zero, List.set_cons_succ]
            refine wpAnyH_at 6 (some 77) (v := ?v406) (by decide) rfl (by kernel_rfl) (by kernel_rfl) (by kernel_rfl) (fun _ _ _ h => h) (Or.inl ⟨by rfl, ?y406⟩) (by assumption) ?r406
            case y406 => (intro w hSw; (try dsimp only at hSw); go_simp; (try with_reducible rfl))
            simp only [Act.put, List.setIfInBounds_toArray, List.set_cons_zero, List.set_cons_succ]
            refine wpAnyH_at 7 (some 78) (v := ?v407) (by decide) rfl (by kernel_rfl) (by kernel_rfl) (by kernel_rfl) (fun _ _ _ h => h) (Or.inl ⟨by rfl, ?y407⟩) (by assumption) ?r407
            case y407 => (intro w hSw; (try dsimp only at hSw); go_simp; (try with_reducible rfl))
            simp only [Act.put, List.setIfInBounds_toArray, List.set_cons_zero, List.set_cons_succ]
            refine wpAnyH_at 8 (some 79) (v := ?v408) (by decide) rfl (by kernel_rfl) (by kernel_rfl) (by kernel_rfl) (fun _ _ _ h => h) (Or.inl ⟨by rfl, ?y408⟩) (by assumption) ?r408
            case y408 => (intro w hSw; (try dsimp only at hSw); go_simp; (try with_reducible rfl))
            simp only [Act.put, List.setIfInBounds_toArray, List.set_cons_zero, List.set_cons_succ]
            refine wpAnyH_at 9 (some 80) (v := ?v409) (by decide) rfl (by kernel_rfl) (by kernel_rfl) (by kernel_rfl) (fun _ _ _ h => h) (Or.inl ⟨by rfl, ?y409⟩) (by assumption) ?r409
            case y409 => (intro w hSw; (try dsimp only at hSw); go_simp; (try with_reducible rfl))
            simp only [Act.put, List.setIfInBounds_toArray, List.set_cons_zero, List.set_cons_succ]
            refine wpAnyH_at 10 (some 81) (v := ?v410) (by decide) rfl (by kernel_rfl) (by kernel_rfl) (by kernel_rfl) (fun _ _ _ h => h) (Or.inl ⟨by rfl, ?y410⟩) (by assumption) ?r410
            case y410 => (intro w hSw; (try dsimp only at hSw); go_simp; (try with_reducible rfl))
            simp only [Act.put, List.setIfInBounds_toArray, List.set_cons_zero, List.set_cons_succ]
            refine wpAnyH_at 11 (some 82) (v := ?v411) (by decide) rfl (by kernel_rfl) (by kernel_rfl) (by kernel_rfl) (fun _ _ _ h => h) (Or.inl ⟨by rfl, ?y411⟩) (by assumption) ?r411
            case y411 => (intro w hSw; (try dsimp only at hSw); go_simp; (try with_reducible rfl))
            simp only [Act.put, List.setIfInBounds_toArray, List.set_cons_zero, List.set_cons_succ]
            refine wpAnyH_at 12 (some 83) (v := ?v412) (by decide) rfl (by kernel_rfl) (by kernel_rfl) (by kernel_rfl) (fun _ _ _ h => h) (Or.inl ⟨by rfl, ?y412⟩) (by assumption) ?r412
            case y412 => (intro w hSw; (try dsimp only at hSw); go_simp; (try with_reducible rfl))
            simp only [Act.put, List.setIfInBounds_toArray, List.set_cons_zero, List.set_cons_succ]
            refine wpAnyH_at 13 (some 84) (v := ?v413) (by decide) rfl (by kernel_rfl) (by kernel_rfl) (by kernel_rfl) (fun _ _ _ h => h) (Or.inl ⟨by rfl, ?y413⟩) (by assumption) ?r413
            case y413 => (intro w hSw; (try dsimp only at hSw); go_simp; (try with_reducible rfl))
            simp only [Act.put, List.setIfInBounds_toArray, List.set_cons_zero, List.set_cons_succ]
            refine wpAnyH_at 14 (some 85) (v := ?v414) (by decide) rfl (by kernel_rfl) (by kernel_rfl) (by kernel_rfl) (fun _ _ _ h => h) (Or.inl ⟨by rfl, ?y414⟩) (by assumption) ?r414
            case y414 => (intro w hSw; (try dsimp only at hSw); go_simp; (try with_reducible rfl))
            simp only [Act.put, List.setIfInBounds_toArray, List.set_cons_zero, List.set_cons_succ]
            refine wpAnyH_at 15 (some 86) (v := ?v415) (by decide) rfl (by kernel_rfl) (by kernel_rfl) (by kernel_rfl) (fun _ _ _ h => h) (Or.inl ⟨by rfl, ?y415⟩) (by assumption) ?r415
            case y415 => (intro w hSw; (try dsimp only at hSw); go_simp; (try with_reducible rfl))
            simp only [Act.put, List.setIfInBounds_toArray, List.set_cons_zero, List.set_cons_succ]
            refine wpAnyH_ready (rs := [16]) (by kernel_rfl) (by simp) ?_
            refine AllReadyH.cons rfl (fun K hK => ?_) AllReadyH.nil
            go_simp
            refine (elder_grow (x0 := age) (x1 := t1) (x2 := t2) (x3 := t3) (y0 := xa) (y1 := y1) (y2 := y2) (y3 := y3) (by obtain ⟨_, _, _, h4, h5, h6, h7, _, h9, h10, h11, h12⟩ := hHeld; exact ⟨h9, h10, h11, h12, h4, h5, h6, h7⟩)).mono ?_
            rintro e w5 ⟨he5, q5, os5, hw5⟩
            rw [HORD.out] at he5
            subst he5
            have k5 : Kept (fun _ => False) wr w5 := by rw [hw5]; exact (Kept.refl (fun _ => False) wr).drew.trans (kept_grow _ q5 os5)
            have HS5 := hid (sa_kept k5 HSA0.out)
            have K5 := hid k5
            clear hw5 k5 hHeld
            try dsimp only []
            refine hK.out _ _ (by exact HS5.out) (fun hHeld => ?_)
            clear hK K
            try simp only [Act.put, List.setIfInBounds_toArray, List.set_cons_zero, List.set_cons_succ]
            refine wpAnyH_at 17 (some 88) (v := ?v417) (by decide) rfl (by kernel_rfl) (by kernel_rfl) (by kernel_rfl) (fun _ _ _ h => h) (Or.inl ⟨by rfl, ?y417⟩) (by assumption) ?r417
            case y417 => (intro w hSw; (try dsimp only at hSw); go_simp; (try with_reducible rfl))
            simp only [Act.put, List.setIfInBounds_toArray, List.set_cons_zero, List.set_cons_succ]
            refine wpAnyH_at 18 (some 89) (v := ?v418) (by decide) rfl (by kernel_rfl) (by kernel_rfl) (by kernel_rfl) (fun _ _ _ h => h) (Or.inl ⟨by rfl, ?y418⟩) (by assumption) ?r418
            case y418 => (intro w hSw; (try dsimp only at hSw); go_simp; (try with_reducible rfl))
            simp only [Act.put, List.setIfInBounds_toArray, List.set_cons_zero, List.set_cons_succ]
            refine wpAnyH_at 19 (some 90) (v := ?v419) (by decide) rfl (by kernel_rfl) (by kernel_rfl) (by kernel_rfl) (fun _ _ _ h => h) (Or.inl ⟨by rfl, ?y419⟩) (by assumption) ?r419
            case y419 => (intro w hSw; (try dsimp only at hSw); go_simp; (try with_reducible rfl))
            simp only [Act.put, List.setIfInBounds_toArray, List.set_cons_zero, List.set_cons_succ]
            refine wpAnyH_at 20 (some 91) (v := undef) (by decide) rfl (by kernel_rfl) (by kernel_rfl) (by kernel_rfl) (fun _ _ _ h => h) (Or.inr ⟨by rfl, rfl⟩) (by assumption) ?_
            simp only [Act.put, List.setIfInBounds_toArray, List.set_cons_zero, List.set_cons_succ]
            refine wpAnyH_at 21 (some 92) (v := undef) (by decide) rfl (by kernel_rfl) (by kernel_rfl) (by kernel_rfl) (fun _ _ _ h => h) (Or.inr ⟨by rfl, rfl⟩) (by assumption) ?_
            simp only [Act.put, List.setIfInBounds_toArray, List.set_cons_zero, List.set_cons_succ]
            refine wpAnyH_at 22 (some 93) (v := undef) (by decide) rfl (by kernel_rfl) (by kernel_rfl) (by kernel_rfl) (fun _ _ _ h => h) (Or.inr ⟨by rfl, rfl⟩) (by assumption) ?_
            simp only [Act.put, List.setIfInBounds_toArray, List.set_cons_zero, List.set_cons_succ]
            refine wpAnyH_at 23 (some 94) (v := ?v423) (by decide) rfl (by kernel_rfl) (by kernel_rfl) (by kernel_rfl) (fun _ _ _ h => h) (Or.inl ⟨by rfl, ?y423⟩) (by assumption) ?r423
            case y423 => (intro w hSw; (try dsimp only at hSw); go_simp; (try with_reducible rfl))
            simp only [Act.put, List.setIfInBounds_toArray, List.set_cons_zero, List.set_cons_succ]
            refine wpAnyH_done (by kernel_rfl) ?_ _
            clear hHeld HSA HS5
            have HSW := hid (HST.out.same K5.out)
            have HSN := hid (show hurtS L o ws (k + 1) = S by rw [HNX.out, HSK.out, if_neg (by rw [HHU.out]; decide), List.append_nil])
            go_wp2
            go_roundw
            case rel => exact ⟨k + 1, S, da, dc, rfl, by go_num, by omega, HSN.out, HSW.out⟩
            case measure => (simp only [RowKit.intOf]; omega)
    · obtain rfl : k = N := by omega
      have HSD := hid (show S = (L.filter (hurt o ws)).map (·.tx) by rw [← HSK.out, ← HNL.out]; unfold hurtS; rw [List.take_length])
      have HRD := hid (show remS L S = L.filter fun x => !hurt o ws x by rw [← HSK.out, ← HNL.out]; exact remS_all HT.out.nodup o ws)
      have kzr : Kept (fun i => i = mb) wz wr := (KA.out.mono (fun _ _ h => h.elim)).trans HST.out.k
      have KZR := hid kzr
      have HLw := hid (show Lies (fun i => i = mb) wr 2 (.slice a n c) n (wcells ws) from by have h := HLz.out.kept kzr (fun g _ h => h); rw [HN.out] at h; exact h)
      clear kzr
      go_wp2_with fail
      refine (cloneW_in (.slice a n c) n (wcells ws) _ HLw.out (by omega) (wcells_one ws)).mono ?_
      rintro e w5 ⟨a5, c5, rfl, hl5, hk5⟩
      obtain ⟨g5, off5, c5', hse, hs1, hs2, hg5, hg6, hg7⟩ := hl5.cell HN0.out
      simp only [Value.slice.injEq, true_and] at hse
      obtain ⟨rfl, rfl⟩ := hse
      have HG5 := hid (show wr.heap.size ≤ g5 ∧ g5 < w5.heap.size from ⟨Nat.le_of_not_lt hg5, hg6⟩)
      have HNW := hid (fun i (h : wr.heap.size ≤ i) => HST.out.t.new i h)
      have T5 := hid (HST.out.t.more hk5 (t := (t1, t2, t3)) HG5.out HG5.out)
      have O5 := hid (show OwIn (fun i => ownP own2 g5 g5 (t1, t2, t3) i = some (t1, t2, t3)) w5 ⟨ob, lb, va, vc⟩ o from (HST.out.o.same hk5).mono (fun i _ h => by
        rw [HOT.out] at h
        show (if i = g5 ∨ i = g5 then some (t1, t2, t3) else own2 i) = _
        split
        · rfl
        · exact h))
      have hl5' := hl5
      have HL5 := hid (lies_swap hl5 (G := fun i => ¬ ownP own2 g5 g5 (t1, t2, t3) i = some (t1, t2, t3) ∨ i = lb ∨ i = ob) (by
        rintro (h | h | h)
        · exact h (if_pos (.inl rfl))
        · have := HST.out.o.map
          obtain ⟨E, hm, _⟩ := this
          have := hm.lt
          simp only at this
          omega
        · have := row_lt HST.out.o.obj
          simp only at this
          omega))
      have K5 := hid (show Kept (fun i => i = mb) w w5 from (KZ.out.mono (fun _ _ h => h.elim) |>.trans KZR.out |>.trans (hk5.mono (fun _ _ h => h.elim))))
      have DA5 := hid (HST.out.g.kept hk5 (fun _ _ => id))
      have HB5 := hid O5.out.obj
      have KB5 := hid ((hk5.block kb (Nat.lt_of_lt_of_le (row_lt HKB.out) KZR.out.size) id).trans ((KZR.out.block kb (row_lt HKB.out) HKM.out).trans HKB.out))
      clear hl5 hl5' hk5 hg5 hg6 hg7 hs1 hs2
      go_wp2_with (refine wpList_store_cell rfl _ _ _ rfl (by kernel_rfl) ob 5 (by rfl) _ (by rfl) rfl HB5.out (by simp) ?_; intro w6 hb6 hk6)
      have hobm : ob ≠ mb := fun e => by
        have h1 := O5.out.own.1
        (try simp only at h1)
        rw [e, T5.out.top.2] at h1
        cases h1
      have hobt : ob ≠ tb := fun e => by
        have h1 := O5.out.own.1
        (try simp only at h1)
        rw [e, T5.out.top.1] at h1
        cases h1
      have hobl : lb ≠ ob := fun e => by
        obtain ⟨E, ⟨es, c, hm, _⟩, _⟩ := O5.out.map
        have h1 := HB5.out
        (try simp only at h1)
        (try simp only at hm)
        rw [← e, hm] at h1
        cases h1
      have hobk : kb ≠ ob := fun e => by
        have h1 := O5.out.own.1
        have h2 := row_lt KB5.out
        have h3 := KB5.out
        have h4 := HB5.out
        (try simp only at h4)
        rw [← e, h3] at h4
        have h5 := congrArg (fun x : Option Obj => match x with | some (.cells c _ _) => c.size | _ => 0) h4
        simp at h5
      have hin6 : OwIn (fun i => ownP own2 g5 g5 (t1, t2, t3) i = some (t1, t2, t3)) w6 ⟨ob, lb, some ⟨g5, off5, none⟩, c5⟩ { o with ws := ws } := by
        refine ⟨?_, ?_, ?_, O5.out.own⟩
        · have h := hb6.out
          rw [← HN.out] at h
          exact h
        · obtain ⟨E, hm, hl⟩ := O5.out.map
          exact ⟨E, hm.of_block (hk6.out.block _ hm.lt hobl), hl⟩
        · have h := HL5.out.kept hk6.out (fun g _ e => .inr (.inr e))
          rw [← HN.out] at h
          exact h
      have HIN6 := hid hin6
      have KT6 : Kept (fun _ => False) w6 w6.drew := (Kept.refl _ w6).drew
      obtain ⟨M, hm, hp⟩ := T5.out.map
      have hm6 := hm.of_block (KT6.block _ (Nat.lt_of_lt_of_le hm.lt hk6.out.size) id |>.trans (hk6.out.block _ hm.lt (Ne.symm hobm)))
      have HP := hid hp
      have c6 : w6.cell? ⟨tb, 0, none⟩ = some (.map (some mb)) := hk6.out.cell T5.out.cell (Ne.symm hobt)
      obtain ⟨k0, k1, k2⟩ := cells3 ((hk6.out.block kb (row_lt KB5.out) hobk).trans KB5.out)
      have HM6 := hid hm6
      have KK6 := hk6
      clear hm hp hin6 hb6 hk6 hm6
      refine wp_region_still_tail 6 (by kernel_rfl) (by kernel_rfl) ?_
      simp only [List.take_succ_cons, List.take_zero, List.drop_succ_cons, List.drop_zero, World.drew_eq]
      iterate 6 still_step
      refine wpStill_nil ?_
      change wpList _ _ _ _ _ (World.drew _)
      refine wpList_layT rfl 61 65 (.tmp 119) (.tmp 120) (.tmp 121) rfl mb (t1, t2, t3) (ptr ob) (by rfl) (by rfl) (by rfl) Try.underlying61 _ HM6.out ?_
      intro w7 hm7 hk7
      have k67 : Kept (fun i => i = mb) w6 w7 := (KT6.mono (fun _ _ h => h.elim)).trans hk7
      have K67 := hid k67
      have hob3 : ownP own2 g5 g5 (t1, t2, t3) ob = some (t1, t2, t3) := O5.out.own.1
      have k57 : Kept (fun i => ownP own2 g5 g5 (t1, t2, t3) i = some (t1, t2, t3) ∨ i = mb) w5 w7 := (KK6.out.mono (fun i _ e => by rw [e]; exact .inl hob3)).trans (k67.mono (fun _ _ h => .inr h))
      have hin7 : OwIn (fun i => ownP own2 g5 g5 (t1, t2, t3) i = some (t1, t2, t3)) w7 ⟨ob, lb, some ⟨g5, off5, none⟩, c5⟩ { o with ws := ws } := HIN6.out.kept k67 (fun i _ h1 h2 => by rw [h2, T5.out.top.2] at h1; cases h1)
      have hok7 : OkO { o with ws := ws } := by
        obtain ⟨c1, _, _, c4⟩ := chkW_ok HZ.out
        exact ⟨HOK.out.1, HOK.out.2, c1, c4⟩
      have ht7 := T5.out.laid (o := { o with ws := ws }) (a' := ⟨ob, lb, some ⟨g5, off5, none⟩, c5⟩) HP.out (by rw [show ({ o with ws := ws } : Ow).tx = (t1, t2, t3) from HOT.out]; exact hm7) (hin7.mono (fun i _ h => h.trans (congrArg some HOT.out.symm))) hok7 (by rw [show ({ o with ws := ws } : Ow).tx = (t1, t2, t3) from HOT.out]; exact k57)
      have heq : layO (remS L S) { o with ws := ws } = askL L o ws := by unfold askL; rw [HRD.out]
      rw [heq] at ht7
      have T7 := hid ht7
      have HLQ := hid (show (askL L o ws).length ≤ 1000000 by have h1 := askL_len L o ws; have h2 := HLL9.out; omega)
      have K57 := hid k57
      clear ht7 heq hok7 hin7 k57 hob3 k67 hm7 hk7 c6 k0 k1 k2 hobm hobt hobl hobk
      go_wp2_with fail
      refine (settle_any T7.out HLQ.out).mono ?_
      rintro e w8 ⟨A8, ga, gc, rfl, ht8, _, ho8, hn8, hk8⟩
      have T8 := hid ht8; have G8 := hid ho8; have N8 := hid hn8; have K8 := hid hk8
      clear ht8 ho8 hn8 hk8
      go_wp2
      have KX : Kept (fun i => i = mb ∨ ∃ t, ownP own2 g5 g5 (t1, t2, t3) i = some t) w w8 := (K5.out.mono (fun _ _ h => .inl h)).trans ((K57.out.mono (fun _ _ h => h.elim (fun h => .inr ⟨_, h⟩) .inl)).trans (K8.out.mono (fun _ _ h => .inr h)))
      have hwr : w.heap.size ≤ wr.heap.size := Nat.le_trans KZ.out.size KZR.out.size
      have hown3 : ∀ i, i < w.heap.size → ownP own2 g5 g5 (t1, t2, t3) i = own i := fun i hi => by
        have := HG5.out.1
        show (if i = g5 ∨ i = g5 then some (t1, t2, t3) else own2 i) = _
        rw [if_neg (by omega)]
        exact HEO.out i hi
      have hda : ∀ b, (Value.slice da S.length dc).ownBlock = some b → b ≠ mb ∧ ∀ t, ¬ ownP own2 g5 g5 (t1, t2, t3) b = some t := fun b hb => by
        have h1 := HST.out.n b hb
        have h2 := HST.out.g.lt hb
        have h3 := KA.out.size
        have h4 := HT.out.mlt
        have h5 := HG5.out.1
        refine ⟨by omega, fun t h => ?_⟩
        have h6 : (if b = g5 ∨ b = g5 then some (t1, t2, t3) else own2 b) = some t := h
        rw [if_neg (by omega), HT.out.new b (by omega)] at h6
        cases h6
      have DA8 := (DA5.out.kept K57.out (fun b hb h => h.elim ((hda b hb).2 _) (hda b hb).1)).kept K8.out (fun b hb h => (hda b hb).2 _ h.choose_spec)
      rw [HSD.out] at DA8 hda ⊢
      refine bodyPost_ret (v := .tuple #[.slice ga (settled (askL L o ws)).2.length gc, .slice da ((L.filter (hurt o ws)).map (·.tx)).length dc, .int .i64 0]) (by simp [results, Try.results11, go_sem]) rfl ⟨_, A8, ga, gc, da, dc, rfl, T8.out, G8.out, fun b hb => ?_, DA8, fun b hb => ?_, KX.mono (fun i hi h => h.imp id (fun ⟨t, ht⟩ => ⟨t, (hown3 i hi).symm.trans ht⟩)), hown3⟩
      · have h1 := N8.out b hb
        exact ⟨Nat.le_trans (Nat.le_trans K5.out.size K57.out.size) h1, T7.out.new b h1⟩
      · have h1 := HST.out.n b (by rw [HSD.out]; exact hb)
        have h2 := KZ.out.size
        have h3 := KA.out.size
        refine ⟨by omega, ?_⟩
        cases h4 : ownP own2 g5 g5 (t1, t2, t3) b with
        | none => rfl
        | some t => exact absurd h4 ((hda b hb).2 t)
end
end Go.Proofs.Ytpjhdpfaogdboaa
