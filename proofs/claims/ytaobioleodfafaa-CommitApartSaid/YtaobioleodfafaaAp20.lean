/- Texts of this claim, merged: De, Df, Dg, Dh, Di, Dj, Put. -/
import Derived.Test.YtaobioleodfafaaAp1
import Derived.Test.YtaobioleodfafaaAp2
import Derived.Test.YtaobioleodfafaaAp3
import Derived.Test.YtaobioleodfafaaAp4
import Derived.Test.YtaobioleodfafaaAp5
import Derived.Test.YtaobioleodfafaaAp6
import Derived.Test.YtaobioleodfafaaAp7
import Derived.Test.YtaobioleodfafaaAp8
import Derived.Test.YtaobioleodfafaaAp9
import Derived.Test.YtaobioleodfafaaAp10
import Derived.Test.YtaobioleodfafaaAp11
import Derived.Test.YtaobioleodfafaaAp12
import Derived.Test.YtaobioleodfafaaAp13
import Derived.Test.YtaobioleodfafaaAp14
import Derived.Test.YtaobioleodfafaaAp15
import Derived.Test.YtaobioleodfafaaAp16
import Derived.Test.YtaobioleodfafaaAp17
import Derived.Test.YtaobioleodfafaaAp18
import Derived.Test.YtaobioleodfafaaAp19
/- The document: Stands, Doubt. -/
namespace Go.Proofs.Ytaobioleodfafaa
open Go.RowKit
theorem stK_at : ∀ (T : List (Tx × Int)) (k : Nat) (t : Tx) (s : Int), T[k]? = some (t, s) → (∀ j p, j < k → T[j]? = some p → p.1 ≠ t) → stK T t = s
  | [], k, t, r, h, _ => by simp at h
  | (a, x) :: G, 0, t, r, h, _ => by simp at h; obtain ⟨rfl, rfl⟩ := h; simp [stK]
  | (a, x) :: G, k + 1, t, r, h, hj => by
    have h0 := hj 0 (a, x) (by omega) rfl
    unfold stK
    rw [if_neg (fun e => h0 e.symm)]
    exact stK_at G k t r (by simpa using h) (fun j p hjk hp => hj (j + 1) p (by omega) (by simpa using hp))
theorem stK_non : ∀ (T : List (Tx × Int)) (t : Tx), (∀ (j : Nat) p, T[j]? = some p → p.1 ≠ t) → stK T t = 0
  | [], _, _ => rfl
  | (a, x) :: G, t, hj => by
    have h0 := hj 0 (a, x) rfl
    unfold stK
    rw [if_neg (fun e => h0 e.symm)]
    exact stK_non G t (fun j p hp => hj (j + 1) p (by simpa using hp))
section
variable {own : Nat → Option Tx} {w : World} {xb : Nat} {ra ta : Option Addr} {rc tc : Nat} {G : List (Tx × Rn)} {Z : Tx → Dx} {T : List (Tx × Int)} {t1 t2 t3 : Int}
set_option maxRecDepth 100000 in
set_option maxHeartbeats 1000000 in
theorem dstands_nil (w : World) (t1 t2 t3 : Int) : Calls Try.prog 33 #[.pointer none, .agg #[.int .u8 t1, .int .u32 t2, .int .u32 t3]] w fun e w' => e = .returned (.int .i64 0) ∧ Kept (fun _ => False) w w' := by
  have K1 := hid ((Kept.refl (fun _ => False) w).alloc (.cells #[.int .u8 t1, .int .u32 t2, .int .u32 t3] 28))
  go_enter Try.func33, Try.ntmps33
  go_wp2_with fail
  go_loopw [5] (fun i wr => i = .int .i64 0 ∧ Kept (fun _ => False) w wr) (fun _ _ => 0)
  case atStart => exact ⟨rfl, K1.out⟩
  case round =>
    obtain ⟨rfl, hk⟩ := hrel
    go_wp2
    go_ret
    exact ⟨rfl, hk⟩
set_option maxRecDepth 100000 in
set_option maxHeartbeats 1000000 in
theorem dstands_some (hd : DBook own w xb ra ta rc tc G Z T) (hz : T.length ≤ 1000000) : Calls Try.prog 33 #[.pointer (some ⟨xb, 0, none⟩), .agg #[.int .u8 t1, .int .u32 t2, .int .u32 t3]] w fun e w' => e = .returned (.int .i64 (stK T (t1, t2, t3))) ∧ Kept (fun _ => False) w w' := by
  obtain ⟨n, hn⟩ : ∃ n, T.length = n := ⟨_, rfl⟩
  have HN := hid hn
  rw [hn] at hz
  clear hn
  have hk1 := (Kept.refl (fun _ => False) w).alloc (.cells #[.int .u8 t1, .int .u32 t2, .int .u32 t3] 28)
  have hkb := row_new w (.cells #[.int .u8 t1, .int .u32 t2, .int .u32 t3] 28)
  obtain ⟨w1, hw1⟩ : ∃ w1, w.alloc (.cells #[.int .u8 t1, .int .u32 t2, .int .u32 t3] 28) = w1 := ⟨_, rfl⟩
  obtain ⟨kb, hkb'⟩ : ∃ kb, w.heap.size = kb := ⟨_, rfl⟩
  rw [hw1] at hk1 hkb
  rw [hkb'] at hkb
  have HD := hid (hd.same hk1); have HK := hid hkb; have K1 := hid hk1
  obtain ⟨d0, d1, d2⟩ := cells3 HK.out
  clear hd hkb hk1
  clear d0 d1 d2
  go_enter Try.func33, Try.ntmps33
  go_wp2_with fail
  try rw [hw1, hkb']
  clear hw1 hkb'
  go_loopw [5] (fun i wr => ∃ k : Nat, k ≤ n ∧ i = .int .i64 k ∧ Kept (fun _ => False) w1 wr ∧ ∀ j p, j < k → T[j]? = some p → p.1 ≠ (t1, t2, t3)) (fun i _ => n - (RowKit.intOf i).toNat)
  case atStart => exact ⟨0, Nat.zero_le _, rfl, Kept.refl _ _, fun j p h => absurd h (Nat.not_lt_zero _)⟩
  case round =>
    rename World => wr
    obtain ⟨k, hk, rfl, hkp, hp⟩ := hrel
    have HP := hid hp; have KR := hid hkp
    have HDR := hid (HD.out.same hkp)
    have hkr := (hkp.block _ (row_lt HK.out) id).trans HK.out
    obtain ⟨c0, c1⟩ := HDR.out.cells
    obtain ⟨d0, d1, d2⟩ := cells3 hkr
    rw [HN.out] at c1
    clear hp hkp hkr c0
    by_cases hlt : k < n
    · have hltI : (k : Int) < (n : Int) := by omega
      obtain ⟨⟨⟨x1, x2, x3⟩, s⟩, hgk⟩ : ∃ p, T[k]? = some p := ⟨_, List.getElem?_eq_getElem (by rw [HN.out]; exact hlt)⟩
      obtain ⟨rb, rfl, ⟨e0, e1, e2⟩, e3, -⟩ := HDR.out.tcell hgk
      have HGK := hid hgk
      clear hgk
      obtain ⟨b, hb⟩ : ∃ b, decide (((x1, x2, x3) : Tx) = (t1, t2, t3)) = b := ⟨_, rfl⟩
      have hsame : ∀ w', (Op.equalIn 10000 28 (.agg #[.int .u8 x1, .int .u32 x2, .int .u32 x3]) (.agg #[.int .u8 t1, .int .u32 t2, .int .u32 t3])).run Try.prog w' = .ok b w' := fun w' => by
        rw [← hb]; exact tx_same (x1, x2, x3) (t1, t2, t3) w'
      have HBQ := hid hb
      clear hb
      cases b with
      | true =>
        have hxt : (x1, x2, x3) = (t1, t2, t3) := of_decide_eq_true HBQ.out
        have hres := hid (show stK T (t1, t2, t3) = s by rw [← hxt]; exact stK_at T k _ s HGK.out (by rw [hxt]; exact HP.out))
        clear hxt
        go_wp2_with fail
        go_quiet (fail)
        have KQ := hid ((K1.out.trans KR.out).trans (kept_drewN (F := fun _ => False) wr nq))
        have e3' : (wr.drewN nq).cell? ⟨rb, k * 4 + 3, none⟩ = some (.int .i64 s) := (kept_drewN (F := fun _ => False) wr nq).cell e3 id
        have c1' : (wr.drewN nq).cell? ⟨xb, 1, none⟩ = some (.slice (some ⟨rb, 0, none⟩) n tc) := (kept_drewN (F := fun _ => False) wr nq).cell c1 id
        go_wp2
        go_ret
        rw [hres.out]
        exact ⟨rfl, KQ.out⟩
      | false =>
        have hxt := hid (of_decide_eq_false HBQ.out)
        go_wp2_with fail
        go_quiet (fail)
        have KQ := hid (KR.out.trans (kept_drewN (F := fun _ => False) wr nq))
        go_wp2
        go_roundw
        case rel => exact ⟨k + 1, by omega, by go_num, KQ.out, fun j p hj hp => by
          rcases Nat.lt_succ_iff_lt_or_eq.1 hj with h1 | rfl
          · exact HP.out j p h1 hp
          · rw [HGK.out] at hp; cases hp; exact hxt.out⟩
        case measure => (simp only [RowKit.intOf]; omega)
    · obtain rfl : k = n := by omega
      have hnone := hid (stK_non T (t1, t2, t3) (fun j p hp => HP.out j p (by have := (List.getElem?_eq_some_iff.1 hp).1; rw [HN.out] at this; exact this) hp))
      go_wp2
      go_ret
      rw [hnone.out]
      exact ⟨rfl, K1.out.trans KR.out⟩
set_option maxRecDepth 100000 in
set_option maxHeartbeats 1000000 in
theorem ddoubt_nil (w : World) : Calls Try.prog 35 #[.pointer none] w fun e w' => e = .returned (.slice none 0 0) ∧ Kept (fun _ => False) w w' := by
  have K1 := hid (Kept.refl (fun _ => False) w)
  go_enter Try.func35, Try.ntmps35
  go_wp2_with fail
  go_loopw [3, 4] (fun o i wr => o = .slice none 0 0 ∧ i = .int .i64 0 ∧ Kept (fun _ => False) w wr) (fun _ _ _ => 0)
  case atStart => exact ⟨rfl, rfl, K1.out⟩
  case round =>
    obtain ⟨rfl, rfl, hk⟩ := hrel
    go_wp2
    go_ret
    exact ⟨rfl, hk⟩
set_option maxRecDepth 100000 in
set_option maxHeartbeats 1000000 in
theorem ddoubt_some (hd : DBook own w xb ra ta rc tc G Z T) (hz : T.length ≤ 1000000) : Calls Try.prog 35 #[.pointer (some ⟨xb, 0, none⟩)] w fun e w' => (∃ (a : Option Addr) (m c : Nat), e = .returned (.slice a m c) ∧ (heldL T).length = m ∧ m ≤ 1000000 ∧ Own w' 28 3 (.slice a m c) m ((heldL T).flatMap encT) ∧ (∀ g, (Value.slice a m c).ownBlock = some g → w.heap.size ≤ g)) ∧ Kept (fun _ => False) w w' := by
  obtain ⟨n, hn⟩ : ∃ n, T.length = n := ⟨_, rfl⟩
  have HN := hid hn
  rw [hn] at hz
  have HD := hid hd
  clear hn hd
  have K0 := hid (Kept.refl (fun _ => False) w)
  go_enter Try.func35, Try.ntmps35
  go_wp2_with fail
  go_loopw [3, 4] (fun o i wr => ∃ (k m : Nat) (a : Option Addr) (c : Nat), k ≤ n ∧ m ≤ k ∧ i = .int .i64 k ∧ o = .slice a m c ∧ (heldL (T.take k)).length = m ∧ Own wr 28 3 (.slice a m c) m ((heldL (T.take k)).flatMap encT) ∧ (∀ g, (Value.slice a m c).ownBlock = some g → w.heap.size ≤ g) ∧ Kept (fun _ => False) w wr) (fun _ i _ => n - (RowKit.intOf i).toNat)
  case atStart => exact ⟨0, 0, none, 0, Nat.zero_le _, Nat.le_refl _, rfl, rfl, rfl, Own.nil _ _ _, fun g hg => by simp [Value.ownBlock] at hg, K0.out⟩
  case round =>
    rename World => wr
    obtain ⟨k, m, a, c, hk, hmk, rfl, rfl, hlen, hown, hbl, hkp⟩ := hrel
    have HLN := hid hlen; have HO := hid hown; have HBL := hid hbl; have KR := hid hkp
    have HDR := hid (HD.out.same hkp)
    obtain ⟨c0, c1⟩ := HDR.out.cells
    rw [HN.out] at c1
    clear hlen hown hbl hkp c0
    by_cases hlt : k < n
    · have hltI : (k : Int) < (n : Int) := by omega
      obtain ⟨⟨⟨x1, x2, x3⟩, s⟩, hgk⟩ : ∃ p, T[k]? = some p := ⟨_, List.getElem?_eq_getElem (by rw [HN.out]; exact hlt)⟩
      obtain ⟨rb, rfl, ⟨e0, e1, e2⟩, e3, -⟩ := HDR.out.tcell hgk
      obtain ⟨b, hb⟩ : ∃ b, (s == 2) = b := ⟨_, rfl⟩
      have hst : heldL (T.take (k + 1)) = heldL (T.take k) ++ (if b then [(x1, x2, x3)] else []) := by
        rw [List.take_add_one, hgk]
        unfold heldL
        rw [List.filter_append, List.map_append, ← hb]
        congr 1
        by_cases h2 : s = 2 <;> simp [h2]
      have HB2 := hid hb
      have HST := hid hst
      clear hgk hst
      cases b with
      | true =>
        have hfl := hid (show (heldL (T.take (k + 1))).flatMap encT = (heldL (T.take k)).flatMap encT ++ encT (x1, x2, x3) by rw [HST.out]; simp)
        have hfn := hid (show (heldL (T.take (k + 1))).length = m + 1 by rw [HST.out, List.length_append, HLN.out]; rfl)
        go_wp2_with (at_builtin; refine wpList_app rfl _ _ 76 rfl 28 (txv (0, 0, 0)) 3 12 Try.underlying76 infoT rfl (by decide) (.slice a m c) m _ rfl (by exact HO.out.alloc _) _ rfl 1 _ (tx_src _ x1 x2 x3 (by simp)) (by unfold maxLen; omega) (by omega) ?_; intro a' c' w6 ho3 hk3 hf3 _; have HA3 := hid ho3; have HK3 := hid hk3; have HF3 := hid hf3; clear ho3 hk3 hf3)
        go_roundw
        case rel =>
          refine ⟨k + 1, m + 1, a', c', by omega, by omega, by go_num, rfl, hfn.out, by rw [hfl.out]; exact HA3.out, fun b hb => ?_, (KR.out.alloc _).trans' HK3.out (fun i hi => .inr (HBL.out i hi))⟩
          rcases HF3.out b hb with h | h
          · exact HBL.out b h
          · have := KR.out.size; simp at h; omega
        case measure => (simp only [RowKit.intOf]; omega)
      | false =>
        have hfl := hid (show heldL (T.take (k + 1)) = heldL (T.take k) by rw [HST.out]; simp)
        go_wp2
        go_roundw
        case rel => exact ⟨k + 1, m, a, c, by omega, by omega, by go_num, rfl, by rw [hfl.out]; exact HLN.out, by rw [hfl.out]; exact HO.out, HBL.out, KR.out⟩
        case measure => (simp only [RowKit.intOf]; omega)
    · obtain rfl : k = n := by omega
      have htk := hid (show T.take k = T by rw [← HN.out, List.take_length])
      have h6 := hid (show m ≤ 1000000 by omega)
      go_wp2
      go_ret
      have hl := HLN.out; have ho := HO.out
      rw [htk.out] at hl ho
      exact ⟨⟨a, m, c, rfl, hl, h6.out, ho, HBL.out⟩, KR.out⟩
end
section
variable {P : Nat → Prop} {w : World} {z : Bool} {xa : Option Addr} {G : List (Tx × Rn)} {T : List (Tx × Int)} {t1 t2 t3 : Int}
theorem kdstands (hd : Dk P w z xa G T) (hz : T.length ≤ 1000000) : Calls Try.prog 33 #[.pointer xa, .agg #[.int .u8 t1, .int .u32 t2, .int .u32 t3]] w fun e w' => e = .returned (.int .i64 (stK T (t1, t2, t3))) ∧ Kept (fun _ => False) w w' := by
  rcases hd.bk with ⟨rfl, rfl, rfl, rfl⟩ | ⟨rfl, own, xb, ra, ta, rc, tc, Z, rfl, h, -⟩
  · exact dstands_nil w t1 t2 t3
  · exact dstands_some h hz
theorem kddoubt (hd : Dk P w z xa G T) (hz : T.length ≤ 1000000) : Calls Try.prog 35 #[.pointer xa] w fun e w' => (∃ (a : Option Addr) (m c : Nat), e = .returned (.slice a m c) ∧ (heldL T).length = m ∧ m ≤ 1000000 ∧ Own w' 28 3 (.slice a m c) m ((heldL T).flatMap encT) ∧ (∀ g, (Value.slice a m c).ownBlock = some g → w.heap.size ≤ g)) ∧ Kept (fun _ => False) w w' := by
  rcases hd.bk with ⟨rfl, rfl, rfl, rfl⟩ | ⟨rfl, own, xb, ra, ta, rc, tc, Z, rfl, h, -⟩
  · refine (ddoubt_nil w).mono ?_
    rintro e w' ⟨rfl, hk⟩
    exact ⟨⟨none, 0, 0, rfl, rfl, by decide, Own.nil _ _ _, fun g hg => by simp [Value.ownBlock] at hg⟩, hk⟩
  · exact ddoubt_some h hz
end
end Go.Proofs.Ytaobioleodfafaa
/- The document: Owing. -/
namespace Go.Proofs.Ytaobioleodfafaa
open Go.RowKit
section
variable {P : Nat → Prop} {w : World} {z : Bool} {xa : Option Addr} {G : List (Tx × Rn)} {T : List (Tx × Int)} {t1 t2 t3 : Int}
set_option maxRecDepth 100000 in
set_option maxHeartbeats 1000000 in
theorem kdowing (hd : Dk P w z xa G T) (hz : G.length ≤ 1000000) (hn4 : ∀ p ∈ G, p.2.ns.length ≤ 4) : Calls Try.prog 31 #[.pointer xa, .agg #[.int .u8 t1, .int .u32 t2, .int .u32 t3]] w fun e w' => (∃ (a : Option Addr) (n c : Nat), e = .returned (.slice a n c) ∧ n ≤ 4 ∧ Own w' 5 1 (.slice a n c) n (bcells (oweR (lookG G (t1, t2, t3)))) ∧ (∀ g, (Value.slice a n c).ownBlock = some g → w.heap.size ≤ g)) ∧ Kept (fun _ => False) w w' := by
  have hk1 := (Kept.refl (fun _ => False) w).alloc (.cells #[.int .u8 t1, .int .u32 t2, .int .u32 t3] 28)
  have hkb := row_new w (.cells #[.int .u8 t1, .int .u32 t2, .int .u32 t3] 28)
  obtain ⟨w1, hw1⟩ : ∃ w1, w.alloc (.cells #[.int .u8 t1, .int .u32 t2, .int .u32 t3] 28) = w1 := ⟨_, rfl⟩
  obtain ⟨kb, hkb'⟩ : ∃ kb, w.heap.size = kb := ⟨_, rfl⟩
  rw [hw1] at hk1 hkb
  rw [hkb'] at hkb
  have HD := hid (hd.same hk1); have HK := hid hkb; have K1 := hid hk1
  obtain ⟨d0, d1, d2⟩ := cells3 HK.out
  clear hd hkb hk1
  go_enter Try.func31, Try.ntmps31
  go_wp2_with fail
  try rw [hw1, hkb']
  clear hw1 hkb' d0 d1 d2
  refine (kdrun HD.out hz).mono ?_
  rintro e w2 ⟨⟨i, rfl, hi⟩, hk2⟩
  have K2 := hid (K1.out.trans hk2)
  have HD2 := hid (HD.out.same hk2)
  clear hk2
  rcases hi with ⟨hl, rfl⟩ | ⟨r, k0, hl, rfl, hgk⟩
  · have HL := hid hl
    clear hl
    go_wp2
    go_ret
    rw [HL.out]
    exact ⟨⟨none, 0, 0, rfl, Nat.zero_le _, Own.nil _ _ _, fun g hg => by simp [Value.ownBlock] at hg⟩, K2.out⟩
  · obtain ⟨-, own, xb, ra, ta, rc, tc, Z, rfl, h, -⟩ := HD2.out.some hl
    have HL := hid hl
    have HN4 := hid (hn4 _ (lookG_mem hl))
    obtain ⟨n, hn⟩ : ∃ n, G.length = n := ⟨_, rfl⟩
    have hkn : (k0 : Int) < (n : Int) := by have := (List.getElem?_eq_some_iff.1 hgk).1; omega
    obtain ⟨c0, -⟩ := h.cells
    rw [hn] at c0
    have HR := hid (h.run _ (List.mem_of_getElem? hgk))
    obtain ⟨rb, rfl, ⟨e0, e1, e2⟩, e3, e4, e5, e6, -⟩ := h.rcell hgk
    obtain ⟨d, hdz⟩ : ∃ d, Z (t1, t2, t3) = d := ⟨_, rfl⟩
    simp only [hdz] at HR
    rw [hdz] at e3 e4 e5
    clear hl hgk hn h hn4 hdz
    have h0 : ¬ (k0 : Int) < 0 := by omega
    obtain ⟨N, hN⟩ : ∃ N, r.ns.length = N := ⟨_, rfl⟩
    have HNL := hid (show (ordered r.ns).length = N by rw [ordered_len]; exact hN)
    have HN := hid (show N ≤ 4 by rw [← hN]; exact HN4.out)
    rw [hN] at e3 e4 e5
    obtain ⟨nb, nc, yb, db⟩ := d
    simp only at e3 e4 e5
    obtain ⟨D0, hD0⟩ : ∃ D0, ordered r.ns = D0 := ⟨_, rfl⟩
    have HD0 := hid hD0
    obtain ⟨b1, hb1⟩ : ∃ b, (r.st == 1) = b := ⟨_, rfl⟩
    obtain ⟨b3, hb3⟩ : ∃ b, (r.st == 3) = b := ⟨_, rfl⟩
    have HB13 := hid (fun (v : Int) => show owes r v = ((b1 && !r.Y v) || (b3 && !r.D v)) by unfold owes; rw [hb1, hb3])
    have HNN := hid (show ¬ (b1 = true ∧ b3 = true) by rw [← hb1, ← hb3]; simp; omega)
    obtain ⟨s, hs⟩ : ∃ s, r.st = s := ⟨_, rfl⟩
    rw [hs] at e6 hb1 hb3
    clear hN hD0 hs
    go_wp2_with fail
    have hrow := row_new w2 (.cells #[.int .u8 t1, .int .u32 t2, .int .u32 t3, .slice (some ⟨nb, 0, none⟩) N nc, .slice (some ⟨yb, 0, none⟩) N N, .slice (some ⟨db, 0, none⟩) N N, .int .i64 s] 89)
    have hkr := (Kept.refl (fun _ => False) w2).alloc (.cells #[.int .u8 t1, .int .u32 t2, .int .u32 t3, .slice (some ⟨nb, 0, none⟩) N nc, .slice (some ⟨yb, 0, none⟩) N N, .slice (some ⟨db, 0, none⟩) N N, .int .i64 s] 89)
    obtain ⟨w3, hw3⟩ : ∃ w3, w2.alloc (.cells #[.int .u8 t1, .int .u32 t2, .int .u32 t3, .slice (some ⟨nb, 0, none⟩) N nc, .slice (some ⟨yb, 0, none⟩) N N, .slice (some ⟨db, 0, none⟩) N N, .int .i64 s] 89) = w3 := ⟨_, rfl⟩
    obtain ⟨qb, hqb⟩ : ∃ qb, w2.heap.size = qb := ⟨_, rfl⟩
    rw [hw3] at hrow hkr ⊢
    rw [hqb] at hrow ⊢
    have K3 := hid (K2.out.trans hkr)
    have HR3 := hid (HR.out.kept hkr (fun _ _ => id))
    have HQ := hid hrow
    clear hrow hkr hw3 hqb e0 e1 e2 e3 e4 e5 e6 c0 HR K2 HD2 HD HK K1
    go_loopw [5, 25] (fun o i wr => ∃ (k m : Nat) (a : Option Addr) (c : Nat), k ≤ N ∧ m ≤ k ∧ i = .int .i64 k ∧ o = .slice a m c ∧ Own wr 5 1 (.slice a m c) m (bcells ((D0.take k).filter (owes r))) ∧ (∀ g, (Value.slice a m c).ownBlock = some g → w3.heap.size ≤ g) ∧ Kept (fun _ => False) w3 wr) (fun _ i _ => N - (RowKit.intOf i).toNat)
    case atStart => exact ⟨0, 0, none, 0, Nat.zero_le _, Nat.le_refl _, rfl, rfl, Own.nil _ _ _, fun g hg => by simp [Value.ownBlock] at hg, Kept.refl _ _⟩
    case round =>
      rename World => wr
      obtain ⟨k, m, a, c, hk, hmk, rfl, rfl, hown, hbl, hkp⟩ := hrel
      have HA := hid hown; have HAF := hid hbl; have KR := hid hkp
      have HRR := hid (HR3.out.kept hkp (fun _ _ => id))
      have hq := (hkp.block _ (row_lt HQ.out) id).trans HQ.out
      have f3 : wr.cell? ⟨qb, 3, none⟩ = some (.slice (some ⟨nb, 0, none⟩) N nc) := by rw [row_cell hq]; rfl
      have f4 : wr.cell? ⟨qb, 4, none⟩ = some (.slice (some ⟨yb, 0, none⟩) N N) := by rw [row_cell hq]; rfl
      have f5 : wr.cell? ⟨qb, 5, none⟩ = some (.slice (some ⟨db, 0, none⟩) N N) := by rw [row_cell hq]; rfl
      have f6 : wr.cell? ⟨qb, 6, none⟩ = some (.int .i64 s) := by rw [row_cell hq]; rfl
      clear hown hbl hkp hq
      have hN4 := HN.out
      by_cases hlt : k < N
      · have hltI : (k : Int) < (N : Int) := by omega
        obtain ⟨v, hv⟩ : ∃ v, (ordered r.ns)[k]? = some v := ⟨_, List.getElem?_eq_getElem (by rw [HNL.out]; exact hlt)⟩
        have cv := HRR.out.ncell hv
        have cy := boolL_cell HRR.out.yes hv
        have cd := boolL_cell HRR.out.did hv
        simp only at cv cy cd
        rw [HD0.out] at hv
        have HV := hid hv
        obtain ⟨y, hy⟩ : ∃ y, r.Y v = y := ⟨_, rfl⟩
        obtain ⟨dd, hdd⟩ : ∃ y, r.D v = y := ⟨_, rfl⟩
        have HOW0 := hid (show owes r v = ((b1 && !y) || (b3 && !dd)) by rw [HB13.out, hy, hdd])
        rw [hy] at cy
        rw [hdd] at cd
        clear hv hy hdd
        cases b1 with
        | true =>
          cases y with
          | true =>
            have hb3f : b3 = false := by cases b3 with | true => exact absurd ⟨rfl, rfl⟩ HNN.out | false => rfl
            subst hb3f
            have HOW := hid (show owes r v = false by rw [HOW0.out]; rfl)
            have HFI := hid (show (D0.take (k + 1)).filter (owes r) = (D0.take k).filter (owes r) by rw [List.take_add_one, HV.out]; simp [List.filter_append, HOW.out])
            go_wp2_with fail
            go_roundw
            case rel => exact ⟨k + 1, m, a, c, by omega, by omega, by go_num, rfl, by rw [HFI.out]; exact HA.out, HAF.out, KR.out⟩
            case measure => (simp only [RowKit.intOf]; omega)
          | false =>
            have HOW := hid (show owes r v = true by rw [HOW0.out]; rfl)
            have HFI := hid (show (D0.take (k + 1)).filter (owes r) = (D0.take k).filter (owes r) ++ [v] by rw [List.take_add_one, HV.out]; simp [List.filter_append, HOW.out])
            go_wp2_with (at_builtin; refine wpList_app rfl _ _ 22 rfl 5 _ 1 1 Try.underlying22 infoB2 rfl (by decide) _ m _ rfl (by exact HA.out.alloc _) _ rfl 1 _ (byte_src2 _ v (by simp)) (by unfold maxLen; omega) (by omega) ?_; intro a' c' w6 ho3 hk3 hf3 _; have HA3 := hid ho3; have HK3 := hid hk3; have HF3 := hid hf3; clear ho3 hk3 hf3)
            go_roundw
            case rel =>
              refine ⟨k + 1, m + 1, a', c', by omega, by omega, by go_num, rfl, by rw [HFI.out]; simp only [bcells, List.map_append]; exact HA3.out, fun b hb => ?_, (KR.out.alloc _).trans' HK3.out (fun i hi => .inr (HAF.out i hi))⟩
              rcases HF3.out b hb with h | h
              · exact HAF.out b h
              · simp at h; have := KR.out.size; omega
            case measure => (simp only [RowKit.intOf]; omega)
        | false =>
          cases b3 with
          | true =>
            cases dd with
            | true =>
              have HOW := hid (show owes r v = false by rw [HOW0.out]; rfl)
              have HFI := hid (show (D0.take (k + 1)).filter (owes r) = (D0.take k).filter (owes r) by rw [List.take_add_one, HV.out]; simp [List.filter_append, HOW.out])
              go_wp2_with fail
              go_roundw
              case rel => exact ⟨k + 1, m, a, c, by omega, by omega, by go_num, rfl, by rw [HFI.out]; exact HA.out, HAF.out, KR.out⟩
              case measure => (simp only [RowKit.intOf]; omega)
            | false =>
              have HOW := hid (show owes r v = true by rw [HOW0.out]; rfl)
              have HFI := hid (show (D0.take (k + 1)).filter (owes r) = (D0.take k).filter (owes r) ++ [v] by rw [List.take_add_one, HV.out]; simp [List.filter_append, HOW.out])
              go_wp2_with (at_builtin; refine wpList_app rfl _ _ 22 rfl 5 _ 1 1 Try.underlying22 infoB2 rfl (by decide) _ m _ rfl (by exact HA.out.alloc _) _ rfl 1 _ (byte_src2 _ v (by simp)) (by unfold maxLen; omega) (by omega) ?_; intro a' c' w6 ho3 hk3 hf3 _; have HA3 := hid ho3; have HK3 := hid hk3; have HF3 := hid hf3; clear ho3 hk3 hf3)
              go_roundw
              case rel =>
                refine ⟨k + 1, m + 1, a', c', by omega, by omega, by go_num, rfl, by rw [HFI.out]; simp only [bcells, List.map_append]; exact HA3.out, fun b hb => ?_, (KR.out.alloc _).trans' HK3.out (fun i hi => .inr (HAF.out i hi))⟩
                rcases HF3.out b hb with h | h
                · exact HAF.out b h
                · simp at h; have := KR.out.size; omega
              case measure => (simp only [RowKit.intOf]; omega)
          | false =>
            have HOW := hid (show owes r v = false by rw [HOW0.out]; rfl)
            have HFI := hid (show (D0.take (k + 1)).filter (owes r) = (D0.take k).filter (owes r) by rw [List.take_add_one, HV.out]; simp [List.filter_append, HOW.out])
            go_wp2_with fail
            go_roundw
            case rel => exact ⟨k + 1, m, a, c, by omega, by omega, by go_num, rfl, by rw [HFI.out]; exact HA.out, HAF.out, KR.out⟩
            case measure => (simp only [RowKit.intOf]; omega)
      · obtain rfl : k = N := by omega
        have h4 := hid (show m ≤ 4 by omega)
        go_wp2
        go_ret
        rw [HL.out]
        refine ⟨⟨a, m, c, rfl, h4.out, ?_, fun g hg => Nat.le_trans K3.out.size (HAF.out g hg)⟩, K3.out.trans KR.out⟩
        have h := HA.out
        rw [show D0.take k = ordered r.ns by rw [← HD0.out, ← HNL.out, List.take_length]] at h
        exact h
end
end Go.Proofs.Ytaobioleodfafaa
/- The document's book, written: a run's state, a vote, what is applied. -/
namespace Go.Proofs.Ytaobioleodfafaa
open Go.RowKit
theorem flat_same {α : Type} {f : α → List Value} : ∀ (L : List α) (k : Nat) (x y : α), L[k]? = some x → f y = f x → (L.set k y).flatMap f = L.flatMap f
  | [], _, _, _, h, _ => by simp at h
  | z :: L, 0, x, y, h, e => by simp at h; subst h; rw [List.set_cons_zero, List.flatMap_cons, List.flatMap_cons, e]
  | z :: L, k + 1, x, y, h, e => by rw [List.set_cons_succ, List.flatMap_cons, List.flatMap_cons, flat_same L k x y (by simpa using h) e]
theorem setG_out {G : List (Tx × Rn)} {t : Tx} {r : Rn} (h : t ∉ G.map (·.1)) : setG G t r = G := by
  unfold setG
  have : ∀ p ∈ G, (if p.1 = t then (t, r) else p) = p := fun p hp => if_neg (fun e => h (List.mem_map.2 ⟨p, hp, e⟩))
  rw [List.map_congr_left this, List.map_id']
theorem setG_at : ∀ (G : List (Tx × Rn)) (k : Nat) (t : Tx) (r r' : Rn), (G.map (·.1)).Nodup → G[k]? = some (t, r) → setG G t r' = G.set k (t, r')
  | [], _, _, _, _, _, h => by simp at h
  | (a, x) :: G, 0, t, r, r', hn, h => by
    simp at h; obtain ⟨rfl, rfl⟩ := h
    simp only [List.map_cons, List.nodup_cons] at hn
    rw [List.set_cons_zero]
    show (if a = a then (a, r') else (a, x)) :: setG G a r' = _
    rw [if_pos rfl, setG_out hn.1]
  | (a, x) :: G, k + 1, t, r, r', hn, h => by
    simp only [List.map_cons, List.nodup_cons] at hn
    have hk : G[k]? = some (t, r) := by simpa using h
    have hne : a ≠ t := fun e => hn.1 (e ▸ List.mem_map.2 ⟨(t, r), List.mem_of_getElem? hk, rfl⟩)
    show (if a = t then (t, r') else (a, x)) :: setG G t r' = _
    rw [if_neg hne, List.set_cons_succ, setG_at G k t r r' hn.2 hk]
theorem set_map : ∀ (L : List Int) (j : Nat) (x : Int) (f f' : Int → Value), L.Nodup → L[j]? = some x → (∀ v, v ≠ x → f' v = f v) → (L.map f).set j (f' x) = L.map f'
  | [], _, _, _, _, _, h, _ => by simp at h
  | z :: L, 0, x, f, f', hn, h, e => by
    simp at h; subst h
    rw [List.map_cons, List.set_cons_zero, List.map_cons]
    congr 1
    exact List.map_congr_left fun v hv => (e v (fun e2 => (List.nodup_cons.1 hn).1 (e2 ▸ hv))).symm
  | z :: L, j + 1, x, f, f', hn, h, e => by
    have hj : L[j]? = some x := by simpa using h
    have hz : z ≠ x := fun e2 => (List.nodup_cons.1 hn).1 (e2 ▸ List.mem_of_getElem? hj)
    rw [List.map_cons, List.set_cons_succ, List.map_cons, set_map L j x f f' (List.nodup_cons.1 hn).2 hj e, e z hz]
theorem key_uniq {G : List (Tx × Rn)} (hn : (G.map (·.1)).Nodup) {p q : Tx × Rn} (hp : p ∈ G) (hq : q ∈ G) (e : p.1 = q.1) : p = q := by
  induction G with
  | nil => cases hp
  | cons x G ih =>
    simp only [List.map_cons, List.nodup_cons] at hn
    rcases List.mem_cons.1 hp with h1 | h1
    · rcases List.mem_cons.1 hq with h2 | h2
      · rw [h1, h2]
      · exact absurd (List.mem_map.2 ⟨q, h2, by rw [← e, h1]⟩) hn.1
    · rcases List.mem_cons.1 hq with h2 | h2
      · exact absurd (List.mem_map.2 ⟨p, h1, by rw [e, h2]⟩) hn.1
      · exact ih hn.2 h1 h2
/-- all runs are in form -/
def Okay (G : List (Tx × Rn)) : Prop := (G.map (·.1)).Nodup ∧ ∀ p ∈ G, p.2.ns.Nodup ∧ p.2.ns.length ≤ 4
section
variable {O : Nat → Prop} {w : World} {d : Dx} {r : Rn}
theorem boolL_set {Y : Int → Bool} {x : Int} {j : Nat} (hn : r.ns.Nodup) (hj : (ordered r.ns)[j]? = some x) : (boolL r Y).toArray.setIfInBounds j (.bool true) = (boolL r (setY Y x)).toArray := by
  have h := set_map (ordered r.ns) j x (fun v => .bool (Y v)) (fun v => .bool (setY Y x v)) ((List.mergeSort_perm r.ns _).nodup_iff.2 hn) hj (fun v hv => by simp [setY, hv])
  have hx : setY Y x x = true := by simp [setY]
  simp only [hx] at h
  rw [List.setIfInBounds_toArray]
  unfold boolL
  rw [h]
theorem DRun.putY (h : DRun O w d r) (hn : r.ns.Nodup) {x : Int} {j : Nat} (hj : (ordered r.ns)[j]? = some x) :
    DRun O (w.setCell ⟨d.yb, j, none⟩ (.bool true)) d { r with Y := setY r.Y x } ∧ Kept O w (w.setCell ⟨d.yb, j, none⟩ (.bool true)) := by
  have k : Kept (fun i => i = d.yb) w (w.setCell ⟨d.yb, j, none⟩ (.bool true)) := Kept.setCell (F := fun i => i = d.yb) (Kept.refl _ _) (p := ⟨d.yb, j, none⟩) (.inl rfl) _
  refine ⟨⟨h.nodes.kept k (fun g hg e => h.nodes.ne_block h.yes (by decide) (e ▸ hg)), ?_, (k.block _ (row_lt h.did) (fun e => h.ne e.symm)).trans h.did, h.own, h.ne⟩, k.mono (fun i _ e => by rw [e]; exact h.own.2.1)⟩
  have h1 := row_set h.yes j (.bool true)
  rw [boolL_set hn hj] at h1
  exact h1
theorem DRun.putD (h : DRun O w d r) (hn : r.ns.Nodup) {x : Int} {j : Nat} (hj : (ordered r.ns)[j]? = some x) :
    DRun O (w.setCell ⟨d.db, j, none⟩ (.bool true)) d { r with D := setY r.D x } ∧ Kept O w (w.setCell ⟨d.db, j, none⟩ (.bool true)) := by
  have k : Kept (fun i => i = d.db) w (w.setCell ⟨d.db, j, none⟩ (.bool true)) := Kept.setCell (F := fun i => i = d.db) (Kept.refl _ _) (p := ⟨d.db, j, none⟩) (.inl rfl) _
  refine ⟨⟨h.nodes.kept k (fun g hg e => h.nodes.ne_block h.did (by decide) (e ▸ hg)), (k.block _ (row_lt h.yes) h.ne).trans h.yes, ?_, h.own, h.ne⟩, k.mono (fun i _ e => by rw [e]; exact h.own.2.2)⟩
  have h1 := row_set h.did j (.bool true)
  rw [boolL_set hn hj] at h1
  exact h1
end
section
variable {own : Nat → Option Tx} {w w' : World} {xb : Nat} {ra ta : Option Addr} {rc tc : Nat} {G : List (Tx × Rn)} {Z : Tx → Dx} {T : List (Tx × Int)}
theorem setG_len (G : List (Tx × Rn)) (t : Tx) (r : Rn) : (setG G t r).length = G.length := by unfold setG; rw [List.length_map]
/-- a run's lists are written -/
theorem DBook.putR (h : DBook own w xb ra ta rc tc G Z T) (hn : (G.map (·.1)).Nodup) {k : Nat} {t : Tx} {r r' : Rn} (hk : G[k]? = some (t, r)) (kk : Kept (fun i => own i = some t) w w') (hr : DRun (fun i => own i = some t) w' (Z t) r') (hc : runC (Z t) t r' = runC (Z t) t r) :
    DBook own w' xb ra ta rc tc (setG G t r') Z T where
  obj := by rw [setG_len]; exact (kk.block _ (row_lt h.obj) (by rw [h.top.1]; simp)).trans h.obj
  runs := by
    rw [setG_len]
    have e : (setG G t r').flatMap (fun p => runC (Z p.1) p.1 p.2) = G.flatMap (fun p => runC (Z p.1) p.1 p.2) := by
      rw [setG_at G k t r r' hn hk]
      exact flat_same G k (t, r) (t, r') hk hc
    rw [e]
    exact h.runs.kept kk (fun g hg e => by rw [h.top.2.1 g hg] at e; cases e)
  takes := h.takes.kept kk (fun g hg e => by rw [h.top.2.2 g hg] at e; cases e)
  run := fun p hp => by
    unfold setG at hp
    obtain ⟨q, hq, rfl⟩ := List.mem_map.1 hp
    by_cases e : q.1 = t
    · rw [if_pos e]; exact hr
    · rw [if_neg e]
      exact (h.run q hq).kept kk (fun i hi hi2 => by rw [hi] at hi2; simp at hi2; exact e hi2)
  top := by rw [setG_len]; exact h.top
  new := fun i hi => h.new i (Nat.le_trans kk.size hi)
/-- a run's state is written -/
theorem DBook.putS (h : DBook own w xb ra ta rc tc G Z T) (hn : (G.map (·.1)).Nodup) {k : Nat} {t : Tx} {r : Rn} (hk : G[k]? = some (t, r)) {rb : Nat} (hra : ra = some ⟨rb, 0, none⟩) (s : Int) :
    DBook own (w.setCell ⟨rb, k * 7 + 6, none⟩ (.int .i64 s)) xb ra ta rc tc (setG G t { r with st := s }) Z T ∧ Kept (fun i => (Value.slice ra G.length rc).ownBlock = some i) w (w.setCell ⟨rb, k * 7 + 6, none⟩ (.int .i64 s)) := by
  subst hra
  have kk : Kept (fun i => i = rb) w (w.setCell ⟨rb, k * 7 + 6, none⟩ (.int .i64 s)) := Kept.setCell (F := fun i => i = rb) (Kept.refl _ _) (p := ⟨rb, k * 7 + 6, none⟩) (.inl rfl) _
  have hob : own rb = none := h.top.2.1 rb rfl
  refine ⟨⟨?_, ?_, ?_, fun p hp => ?_, ?_, fun i hi => h.new i (Nat.le_trans kk.size hi)⟩, kk.mono (fun i _ e => by rw [e]; rfl)⟩
  · rw [setG_len]; exact (kk.block _ (row_lt h.obj) (fun e => h.runs.ne_block h.obj (by decide) (by rw [e]; rfl))).trans h.obj
  · rw [setG_len, setG_at G k t r _ hn hk]
    have e := flat_set (f := fun p : Tx × Rn => runC (Z p.1) p.1 p.2) (m := 7) (fun _ => rfl) G k 6 (t, r) (t, { r with st := s }) (.int .i64 s) hk (by omega) rfl
    rw [← e]
    exact h.runs.set rfl (k * 7 + 6) _
  · exact h.takes.kept kk (fun g hg e => h.takes.ne h.runs (by decide) hg (by rw [e]; rfl))
  · unfold setG at hp
    obtain ⟨q, hq, rfl⟩ := List.mem_map.1 hp
    have hq2 := (h.run q hq).kept kk (fun i hi e => by rw [e, hob] at hi; cases hi)
    by_cases e : q.1 = t
    · rw [if_pos e]
      have hqr : q = (t, r) := key_uniq hn hq (List.mem_of_getElem? hk) e
      subst hqr
      exact ⟨hq2.nodes, hq2.yes, hq2.did, hq2.own, hq2.ne⟩
    · rw [if_neg e]; exact hq2
  · rw [setG_len]; exact h.top
end
end Go.Proofs.Ytaobioleodfafaa
/- The document: DocVote. -/
namespace Go.Proofs.Ytaobioleodfafaa
open Go.RowKit
-- $1 the world's fact of the book
set_option maxRecDepth 100000 in
set_option maxHeartbeats 1000000 in
theorem kdvote {P : Nat → Prop} {w : World} {z : Bool} {xa : Option Addr} {G : List (Tx × Rn)} {T : List (Tx × Int)} {t1 t2 t3 : Int} (hd : Dk P w z xa G T) (hz : G.length ≤ 1000000) (hok : Okay G) (x : Int) (yes : Bool) :
    Calls Try.prog 22 #[.pointer xa, .agg #[.int .u8 t1, .int .u32 t2, .int .u32 t3], .int .u8 x, .bool yes] w fun e w' => e = .returned (.tuple #[.int .i64 (voteR (lookG G (t1, t2, t3)) x yes).1.1, .int .i64 (voteR (lookG G (t1, t2, t3)) x yes).1.2]) ∧
      Dk P w' z xa (updG G (t1, t2, t3) (voteR (lookG G (t1, t2, t3)) x yes).2) T ∧ Kept P w w' := by
  have hk1 := (Kept.refl (fun _ => False) w).alloc (.cells #[.int .u8 t1, .int .u32 t2, .int .u32 t3] 28)
  have hkb := row_new w (.cells #[.int .u8 t1, .int .u32 t2, .int .u32 t3] 28)
  obtain ⟨w1, hw1⟩ : ∃ w1, w.alloc (.cells #[.int .u8 t1, .int .u32 t2, .int .u32 t3] 28) = w1 := ⟨_, rfl⟩
  obtain ⟨kb, hkb'⟩ : ∃ kb, w.heap.size = kb := ⟨_, rfl⟩
  rw [hw1] at hk1 hkb
  rw [hkb'] at hkb
  have HD := hid (hd.same hk1); have HK := hid hkb; have K1 := hid hk1
  obtain ⟨d0, d1, d2⟩ := cells3 HK.out
  clear hd hkb hk1
  go_enter Try.func22, Try.ntmps22
  go_wp2_with fail
  try rw [hw1, hkb']
  clear hw1 hkb' d0 d1 d2
  refine (kdrun HD.out hz).mono ?_
  rintro e w2 ⟨⟨i, rfl, hi⟩, hk2⟩
  have K2 := hid (K1.out.trans hk2)
  have HD2 := hid (HD.out.same hk2)
  clear hk2
  rcases hi with ⟨hl, rfl⟩ | ⟨r, k0, hl, rfl, hgk⟩
  · have HL := hid hl
    clear hl
    go_wp2
    go_returns
    rw [HL.out]
    exact ⟨rfl, HD2.out, K2.out.mono (fun _ _ h => h.elim)⟩
  · obtain ⟨rfl, own, xb, ra, ta, rc, tc, Z, rfl, h, hP⟩ := HD2.out.some hl
    have HP := hid hP; have HB2 := hid h; have HL := hid hl; have HGK := hid hgk
    have HOK := hid (hok.2 _ (lookG_mem hl))
    have HNG := hid hok.1
    obtain ⟨n, hn⟩ : ∃ n, G.length = n := ⟨_, rfl⟩
    have hkn : (k0 : Int) < (n : Int) := by have := (List.getElem?_eq_some_iff.1 hgk).1; omega
    have hkn2 : k0 < n := by omega
    have HNN := hid hn
    have h0 : ¬ (k0 : Int) < 0 := by omega
    obtain ⟨d, hdz⟩ : ∃ d, Z (t1, t2, t3) = d := ⟨_, rfl⟩
    have HDZ := hid hdz
    obtain ⟨N, hN⟩ : ∃ N, r.ns.length = N := ⟨_, rfl⟩
    have HNL := hid hN
    have HN4 := hid (show N ≤ 4 by rw [← hN]; exact HOK.out.2)
    clear hl hgk hn h hok hdz hN hP
    obtain ⟨c0, -⟩ := HB2.out.cells
    rw [HNN.out] at c0
    obtain ⟨rb, hrb, ⟨e0, e1, e2⟩, e3, e4, e5, e6, ef⟩ := HB2.out.rcell HGK.out
    rw [HDZ.out, HNL.out] at e3 e4 e5
    cases hrb
    have hnd := dnode (HB2.out.run _ (List.mem_of_getElem? HGK.out)) HOK.out.2 t1 t2 t3 x
    simp only [HDZ.out, HNL.out] at hnd
    have HND := hid hnd
    clear hnd
    go_wp2_with fail
    refine HND.out.mono ?_
    rintro e w3 ⟨⟨i, rfl, hi⟩, hk3⟩
    have K3 := hid (K2.out.trans hk3)
    have HB3 := hid (HB2.out.same hk3)
    have HD3 := hid (HD2.out.same hk3)
    clear hk3 c0 e0 e1 e2 e3 e4 e5 e6 ef K2 K1 HD HK
    rcases hi with ⟨hx, rfl⟩ | ⟨j, hx, rfl, hj⟩
    · have HV := hid (show voteR (some r) x yes = ((0, 1), none) by simp only [voteR, if_neg hx])
      clear hx
      go_wp2
      go_returns
      rw [HL.out, HV.out]
      exact ⟨rfl, HD3.out, K3.out.mono (fun _ _ h => h.elim)⟩
    · have HJ := hid hj
      have HV := hid (show voteR (some r) x yes = if r.st = 1 then (if yes then (if r.ns.all (setY r.Y x) then ((3, 0), some { r with Y := setY r.Y x }) else ((1, 0), some { r with Y := setY r.Y x })) else ((4, 0), some { r with st := 4 })) else if yes && r.Y x then ((r.st, 0), none) else ((0, 9), none) by simp only [voteR, if_pos hx])
      have hjN : j < N := by have := (List.getElem?_eq_some_iff.1 hj).1; rw [ordered_len, HNL.out] at this; exact this
      have hjI : (j : Int) < (N : Int) := by omega
      have h1 : ¬ (j : Int) < 0 := by omega
      have HR3 := hid (HB3.out.run _ (List.mem_of_getElem? HGK.out))
      simp only [HDZ.out] at HR3
      obtain ⟨c0, -⟩ := HB3.out.cells
      rw [HNN.out] at c0
      obtain ⟨rb, hrb, ⟨e0, e1, e2⟩, e3, e4, e5, e6, ef⟩ := HB3.out.rcell HGK.out
      rw [HDZ.out, HNL.out] at e3 e4 e5
      cases hrb
      have cy := boolL_cell HR3.out.yes hj
      have cyf := row_free HR3.out.yes j
      clear hj hx e0 e1 e2 e3 e5
      by_cases hs : r.st = 1
      · have HS := hid hs
        have hs1 : (r.st != 1) = false := by simpa using hs
        clear hs
        cases yes with
        | false =>
          obtain ⟨hb4, hk4⟩ := HB3.out.putS HNG.out HGK.out rfl 4
          have HB4 := hid hb4; have K4 := hid hk4
          clear hb4 hk4
          go_wp2
          go_returns
          rw [HL.out, HV.out, if_pos HS.out]
          have k4 : Kept P w3 _ := K4.out.mono (fun i _ h => HP.out i (.inr (.inl h)))
          have FIN : Dk P _ false (some ⟨xb, 0, none⟩) (setG G (t1, t2, t3) { r with st := 4 }) T ∧ Kept P w _ := ⟨⟨fun i hi => Nat.lt_of_lt_of_le (HD3.out.lt i hi) K4.out.size, .inr ⟨rfl, own, xb, _, ta, rc, tc, Z, rfl, HB4.out, by rw [setG_len]; exact HP.out⟩⟩, (K3.out.mono (fun _ _ h => h.elim)).trans k4⟩
          exact ⟨rfl, FIN.1, FIN.2⟩
        | true =>
          obtain ⟨hr4, hk4⟩ := HR3.out.putY HOK.out.1 HJ.out
          have hb4 := HB3.out.putR HNG.out HGK.out hk4 (r' := { r with Y := setY r.Y x }) (by rw [HDZ.out]; exact hr4) rfl
          have HR4 := hid hr4; have HB4 := hid hb4; have K4 := hid hk4
          have hgk4 := hid (show (setG G (t1, t2, t3) { r with Y := setY r.Y x })[k0]? = some ((t1, t2, t3), { r with Y := setY r.Y x }) by
            rw [setG_at G k0 _ r _ HNG.out HGK.out]
            simp [List.getElem?_set, (List.getElem?_eq_some_iff.1 HGK.out).1])
          obtain ⟨g0, -⟩ := HB4.out.cells
          rw [setG_len, HNN.out] at g0
          obtain ⟨rb2, hrb2, -, -, g4, -, -, -⟩ := HB4.out.rcell hgk4.out
          cases hrb2
          simp only [HDZ.out, HNL.out] at g4
          have hda := dall HR4.out.yes HOK.out.2
          simp only [HNL.out] at hda
          obtain ⟨al, hal⟩ : ∃ a, r.ns.all (setY r.Y x) = a := ⟨_, rfl⟩
          rw [hal] at hda
          have HDA := hid hda
          have HAL := hid hal
          clear hr4 hb4 hk4 hda hal
          go_wp2_with fail
          refine HDA.out.mono ?_
          rintro e w5 ⟨rfl, rfl⟩
          have HV2 := hid (show voteR (some r) x true = if al then ((3, 0), some { r with Y := setY r.Y x }) else ((1, 0), some { r with Y := setY r.Y x }) by rw [HV.out, if_pos HS.out, HAL.out]; rfl)
          have k4 : Kept P w3 _ := K4.out.mono (fun i _ h => HP.out i (.inr (.inr (.inr (by rw [h]; exact fun e => by cases e)))))
          have FIN := hid (⟨⟨fun i hi => Nat.lt_of_lt_of_le (HD3.out.lt i hi) K4.out.size, .inr ⟨rfl, own, xb, _, ta, rc, tc, Z, rfl, HB4.out, by rw [setG_len]; exact HP.out⟩⟩, (K3.out.mono (fun _ _ h => h.elim)).trans k4⟩ : Dk P _ false (some ⟨xb, 0, none⟩) (setG G (t1, t2, t3) { r with Y := setY r.Y x }) T ∧ Kept P w _)
          clear k4
          cases al with
          | true =>
            go_wp2
            go_returns
            rw [HL.out, HV2.out]
            exact ⟨rfl, FIN.out.1, FIN.out.2⟩
          | false =>
            go_wp2
            go_returns
            rw [HL.out, HV2.out]
            exact ⟨rfl, FIN.out.1, FIN.out.2⟩
      · have hs1 : (r.st != 1) = true := by simpa using hs
        have HS := hid hs
        have FIN := hid (⟨HD3.out, K3.out.mono (fun _ _ h => h.elim)⟩ : Dk P w3 false (some ⟨xb, 0, none⟩) G T ∧ Kept P w w3)
        obtain ⟨yx, hyx⟩ : ∃ y, r.Y x = y := ⟨_, rfl⟩
        rw [hyx] at cy
        have HYX := hid hyx
        clear hs hyx
        cases yes with
        | false =>
          go_wp2
          go_returns
          rw [HL.out, HV.out, if_neg HS.out]
          exact ⟨rfl, FIN.out⟩
        | true =>
          cases yx with
          | false =>
            go_wp2
            go_returns
            rw [HL.out, HV.out, if_neg HS.out, HYX.out]
            exact ⟨rfl, FIN.out⟩
          | true =>
            go_wp2
            go_returns
            rw [HL.out, HV.out, if_neg HS.out, HYX.out]
            exact ⟨rfl, FIN.out⟩
end Go.Proofs.Ytaobioleodfafaa
/- The document: DocCommit, DocApplied. -/
namespace Go.Proofs.Ytaobioleodfafaa
open Go.RowKit
set_option maxRecDepth 100000 in
set_option maxHeartbeats 1000000 in
theorem kdcommit {P : Nat → Prop} {w : World} {z : Bool} {xa : Option Addr} {G : List (Tx × Rn)} {T : List (Tx × Int)} {t1 t2 t3 : Int} (hd : Dk P w z xa G T) (hz : G.length ≤ 1000000) (hok : Okay G) :
    Calls Try.prog 23 #[.pointer xa, .agg #[.int .u8 t1, .int .u32 t2, .int .u32 t3]] w fun e w' => e = .returned (.int .i64 (comR (lookG G (t1, t2, t3))).1) ∧
      Dk P w' z xa (updG G (t1, t2, t3) (comR (lookG G (t1, t2, t3))).2) T ∧ Kept P w w' := by
  have hk1 := (Kept.refl (fun _ => False) w).alloc (.cells #[.int .u8 t1, .int .u32 t2, .int .u32 t3] 28)
  have hkb := row_new w (.cells #[.int .u8 t1, .int .u32 t2, .int .u32 t3] 28)
  obtain ⟨w1, hw1⟩ : ∃ w1, w.alloc (.cells #[.int .u8 t1, .int .u32 t2, .int .u32 t3] 28) = w1 := ⟨_, rfl⟩
  obtain ⟨kb, hkb'⟩ : ∃ kb, w.heap.size = kb := ⟨_, rfl⟩
  rw [hw1] at hk1 hkb
  rw [hkb'] at hkb
  have HD := hid (hd.same hk1); have HK := hid hkb; have K1 := hid hk1
  obtain ⟨d0, d1, d2⟩ := cells3 HK.out
  clear hd hkb hk1
  go_enter Try.func23, Try.ntmps23
  go_wp2_with fail
  try rw [hw1, hkb']
  clear hw1 hkb' d0 d1 d2
  refine (kdrun HD.out hz).mono ?_
  rintro e w2 ⟨⟨i, rfl, hi⟩, hk2⟩
  have K2 := hid (K1.out.trans hk2)
  have HD2 := hid (HD.out.same hk2)
  clear hk2
  rcases hi with ⟨hl, rfl⟩ | ⟨r, k0, hl, rfl, hgk⟩
  · have HL := hid hl
    clear hl
    go_wp2
    go_ret
    rw [HL.out]
    exact ⟨rfl, HD2.out, K2.out.mono (fun _ _ h => h.elim)⟩
  · obtain ⟨rfl, own, xb, ra, ta, rc, tc, Z, rfl, h, hP⟩ := HD2.out.some hl
    have HP := hid hP; have HB2 := hid h; have HL := hid hl; have HGK := hid hgk
    have HOK := hid (hok.2 _ (lookG_mem hl))
    have HNG := hid hok.1
    obtain ⟨n, hn⟩ : ∃ n, G.length = n := ⟨_, rfl⟩
    have hkn : (k0 : Int) < (n : Int) := by have := (List.getElem?_eq_some_iff.1 hgk).1; omega
    have hkn2 : k0 < n := by omega
    have HNN := hid hn
    have h0 : ¬ (k0 : Int) < 0 := by omega
    obtain ⟨d, hdz⟩ : ∃ d, Z (t1, t2, t3) = d := ⟨_, rfl⟩
    have HDZ := hid hdz
    obtain ⟨N, hN⟩ : ∃ N, r.ns.length = N := ⟨_, rfl⟩
    have HNL := hid hN
    have HN4 := hid (show N ≤ 4 by rw [← hN]; exact HOK.out.2)
    clear hl hgk hn h hok hdz hN hP
    obtain ⟨c0, -⟩ := HB2.out.cells
    rw [HNN.out] at c0
    obtain ⟨rb, hrb, ⟨e0, e1, e2⟩, e3, e4, e5, e6, ef⟩ := HB2.out.rcell HGK.out
    rw [HDZ.out, HNL.out] at e3 e4 e5
    cases hrb
    have hr2 := HB2.out.run _ (List.mem_of_getElem? HGK.out)
    simp only [HDZ.out] at hr2
    have hda := dall hr2.yes HOK.out.2
    simp only [HNL.out] at hda
    have HDA := hid hda
    clear hda hr2 e0 e1 e2 e3 e5
    have FIN := hid (⟨HD2.out, K2.out.mono (fun _ _ h => h.elim)⟩ : Dk P w2 false (some ⟨xb, 0, none⟩) G T ∧ Kept P w w2)
    by_cases hs : r.st = 4
    · have hs1 : (r.st == 4) = true := by simpa using hs
      have HV := hid (show comR (some r) = (9, none) by simp only [comR, if_pos hs])
      clear hs
      go_wp2
      go_ret
      rw [HL.out, HV.out]
      exact ⟨rfl, FIN.out⟩
    · have hs1 : (r.st == 4) = false := by simpa using hs
      have HV0 := hid (show comR (some r) = if r.ns.all r.Y then (0, some { r with st := 3 }) else (9, none) by simp only [comR, if_neg hs])
      clear hs
      obtain ⟨al, hal⟩ : ∃ a, r.ns.all r.Y = a := ⟨_, rfl⟩
      rw [hal] at HDA HV0
      clear hal
      cases al with
      | false =>
        have HV := hid (show comR (some r) = (9, none) from HV0.out)
        go_wp2_with fail
        refine HDA.out.mono ?_
        rintro e w5 ⟨rfl, rfl⟩
        go_wp2
        go_ret
        rw [HL.out, HV.out]
        exact ⟨rfl, FIN.out⟩
      | true =>
        have HV := hid (show comR (some r) = (0, some { r with st := 3 }) from HV0.out)
        obtain ⟨hb4, hk4⟩ := HB2.out.putS HNG.out HGK.out rfl 3
        have HB4 := hid hb4; have K4 := hid hk4
        clear hb4 hk4
        go_wp2_with fail
        refine HDA.out.mono ?_
        rintro e w5 ⟨rfl, rfl⟩
        go_wp2
        go_ret
        rw [HL.out, HV.out]
        have k4 : Kept P w2 _ := K4.out.mono (fun i _ h => HP.out i (.inr (.inl h)))
        have FIN : Dk P _ false (some ⟨xb, 0, none⟩) (setG G (t1, t2, t3) { r with st := 3 }) T ∧ Kept P w _ := ⟨⟨fun i hi => Nat.lt_of_lt_of_le (HD2.out.lt i hi) K4.out.size, .inr ⟨rfl, own, xb, _, ta, rc, tc, Z, rfl, HB4.out, by rw [setG_len]; exact HP.out⟩⟩, (K2.out.mono (fun _ _ h => h.elim)).trans k4⟩
        exact ⟨rfl, FIN.1, FIN.2⟩
set_option maxRecDepth 100000 in
set_option maxHeartbeats 1000000 in
theorem kdapplied {P : Nat → Prop} {w : World} {z : Bool} {xa : Option Addr} {G : List (Tx × Rn)} {T : List (Tx × Int)} {t1 t2 t3 : Int} (hd : Dk P w z xa G T) (hz : G.length ≤ 1000000) (hok : Okay G) (x : Int) :
    Calls Try.prog 25 #[.pointer xa, .agg #[.int .u8 t1, .int .u32 t2, .int .u32 t3], .int .u8 x] w fun e w' => e = .returned (.tuple #[.bool (appR (lookG G (t1, t2, t3)) x).1.1, .int .i64 (appR (lookG G (t1, t2, t3)) x).1.2]) ∧
      Dk P w' z xa (updG G (t1, t2, t3) (appR (lookG G (t1, t2, t3)) x).2) T ∧ Kept P w w' := by
  have hk1 := (Kept.refl (fun _ => False) w).alloc (.cells #[.int .u8 t1, .int .u32 t2, .int .u32 t3] 28)
  have hkb := row_new w (.cells #[.int .u8 t1, .int .u32 t2, .int .u32 t3] 28)
  obtain ⟨w1, hw1⟩ : ∃ w1, w.alloc (.cells #[.int .u8 t1, .int .u32 t2, .int .u32 t3] 28) = w1 := ⟨_, rfl⟩
  obtain ⟨kb, hkb'⟩ : ∃ kb, w.heap.size = kb := ⟨_, rfl⟩
  rw [hw1] at hk1 hkb
  rw [hkb'] at hkb
  have HD := hid (hd.same hk1); have HK := hid hkb; have K1 := hid hk1
  obtain ⟨d0, d1, d2⟩ := cells3 HK.out
  clear hd hkb hk1
  go_enter Try.func25, Try.ntmps25
  go_wp2_with fail
  try rw [hw1, hkb']
  clear hw1 hkb' d0 d1 d2
  refine (kdrun HD.out hz).mono ?_
  rintro e w2 ⟨⟨i, rfl, hi⟩, hk2⟩
  have K2 := hid (K1.out.trans hk2)
  have HD2 := hid (HD.out.same hk2)
  clear hk2
  rcases hi with ⟨hl, rfl⟩ | ⟨r, k0, hl, rfl, hgk⟩
  · have HL := hid hl
    clear hl
    go_wp2
    go_returns
    rw [HL.out]
    exact ⟨rfl, HD2.out, K2.out.mono (fun _ _ h => h.elim)⟩
  · obtain ⟨rfl, own, xb, ra, ta, rc, tc, Z, rfl, h, hP⟩ := HD2.out.some hl
    have HP := hid hP; have HB2 := hid h; have HL := hid hl; have HGK := hid hgk
    have HOK := hid (hok.2 _ (lookG_mem hl))
    have HNG := hid hok.1
    obtain ⟨n, hn⟩ : ∃ n, G.length = n := ⟨_, rfl⟩
    have hkn : (k0 : Int) < (n : Int) := by have := (List.getElem?_eq_some_iff.1 hgk).1; omega
    have hkn2 : k0 < n := by omega
    have HNN := hid hn
    have h0 : ¬ (k0 : Int) < 0 := by omega
    obtain ⟨d, hdz⟩ : ∃ d, Z (t1, t2, t3) = d := ⟨_, rfl⟩
    have HDZ := hid hdz
    obtain ⟨N, hN⟩ : ∃ N, r.ns.length = N := ⟨_, rfl⟩
    have HNL := hid hN
    have HN4 := hid (show N ≤ 4 by rw [← hN]; exact HOK.out.2)
    clear hl hgk hn h hok hdz hN hP
    obtain ⟨c0, -⟩ := HB2.out.cells
    rw [HNN.out] at c0
    obtain ⟨rb, hrb, ⟨e0, e1, e2⟩, e3, e4, e5, e6, ef⟩ := HB2.out.rcell HGK.out
    rw [HDZ.out, HNL.out] at e3 e4 e5
    cases hrb
    have hnd := dnode (HB2.out.run _ (List.mem_of_getElem? HGK.out)) HOK.out.2 t1 t2 t3 x
    simp only [HDZ.out, HNL.out] at hnd
    have HND := hid hnd
    clear hnd
    go_wp2_with fail
    refine HND.out.mono ?_
    rintro e w3 ⟨⟨i, rfl, hi⟩, hk3⟩
    have K3 := hid (K2.out.trans hk3)
    have HB3 := hid (HB2.out.same hk3)
    have HD3 := hid (HD2.out.same hk3)
    clear hk3 c0 e0 e1 e2 e3 e4 e5 e6 ef K2 K1 HD HK
    rcases hi with ⟨hx, rfl⟩ | ⟨j, hx, rfl, hj⟩
    · have HV := hid (show appR (some r) x = ((false, 1), none) by simp only [appR, if_neg hx])
      clear hx
      go_wp2
      go_returns
      rw [HL.out, HV.out]
      exact ⟨rfl, HD3.out, K3.out.mono (fun _ _ h => h.elim)⟩
    · have HJ := hid hj
      have HV := hid (show appR (some r) x = if r.st = 3 then ((r.ns.all (setY r.D x), 0), some { r with D := setY r.D x }) else ((false, 9), none) by simp only [appR, if_pos hx])
      have hjN : j < N := by have := (List.getElem?_eq_some_iff.1 hj).1; rw [ordered_len, HNL.out] at this; exact this
      have hjI : (j : Int) < (N : Int) := by omega
      have h1 : ¬ (j : Int) < 0 := by omega
      have HR3 := hid (HB3.out.run _ (List.mem_of_getElem? HGK.out))
      simp only [HDZ.out] at HR3
      obtain ⟨c0, -⟩ := HB3.out.cells
      rw [HNN.out] at c0
      obtain ⟨rb, hrb, ⟨e0, e1, e2⟩, e3, e4, e5, e6, ef⟩ := HB3.out.rcell HGK.out
      rw [HDZ.out, HNL.out] at e3 e4 e5
      cases hrb
      have cy := boolL_cell HR3.out.did hj
      have cyf := row_free HR3.out.did j
      clear hj hx e0 e1 e2 e3 e4
      by_cases hs : r.st = 3
      · have HS := hid hs
        have hs1 : (r.st != 3) = false := by simpa using hs
        clear hs
        obtain ⟨hr4, hk4⟩ := HR3.out.putD HOK.out.1 HJ.out
        have hb4 := HB3.out.putR HNG.out HGK.out hk4 (r' := { r with D := setY r.D x }) (by rw [HDZ.out]; exact hr4) rfl
        have HR4 := hid hr4; have HB4 := hid hb4; have K4 := hid hk4
        have hgk4 := hid (show (setG G (t1, t2, t3) { r with D := setY r.D x })[k0]? = some ((t1, t2, t3), { r with D := setY r.D x }) by
          rw [setG_at G k0 _ r _ HNG.out HGK.out]
          simp [List.getElem?_set, (List.getElem?_eq_some_iff.1 HGK.out).1])
        obtain ⟨g0, -⟩ := HB4.out.cells
        rw [setG_len, HNN.out] at g0
        obtain ⟨rb2, hrb2, -, -, -, g5, -, -⟩ := HB4.out.rcell hgk4.out
        cases hrb2
        simp only [HDZ.out, HNL.out] at g5
        have hda := dall HR4.out.did HOK.out.2
        simp only [HNL.out] at hda
        have HDA := hid hda
        clear hr4 hb4 hk4 hda
        go_wp2_with fail
        refine HDA.out.mono ?_
        rintro e w5 ⟨rfl, rfl⟩
        have k4 : Kept P w3 _ := K4.out.mono (fun i _ h => HP.out i (.inr (.inr (.inr (by rw [h]; exact fun e => by cases e)))))
        have FIN := hid (⟨⟨fun i hi => Nat.lt_of_lt_of_le (HD3.out.lt i hi) K4.out.size, .inr ⟨rfl, own, xb, _, ta, rc, tc, Z, rfl, HB4.out, by rw [setG_len]; exact HP.out⟩⟩, (K3.out.mono (fun _ _ h => h.elim)).trans k4⟩ : Dk P _ false (some ⟨xb, 0, none⟩) (setG G (t1, t2, t3) { r with D := setY r.D x }) T ∧ Kept P w _)
        clear k4
        go_wp2
        go_returns
        rw [HL.out, HV.out, if_pos HS.out]
        exact ⟨rfl, FIN.out.1, FIN.out.2⟩
      · have hs1 : (r.st != 3) = true := by simpa using hs
        have HS := hid hs
        clear hs
        go_wp2
        go_returns
        rw [HL.out, HV.out, if_neg HS.out]
        exact ⟨rfl, HD3.out, K3.out.mono (fun _ _ h => h.elim)⟩
end Go.Proofs.Ytaobioleodfafaa
/- The document: DocSettle. -/
namespace Go.Proofs.Ytaobioleodfafaa
open Go.RowKit
def setS (t : Tx) (s : Int) (p : Tx × Int) : Tx × Int := if p.1 = t then (t, s) else p
def setT (T : List (Tx × Int)) (t : Tx) (s : Int) : List (Tx × Int) := T.map (setS t s)
/-- .. the first k of them -/
def stpT (T : List (Tx × Int)) (t : Tx) (s : Int) (k : Nat) : List (Tx × Int) := (T.take k).map (setS t s) ++ T.drop k
theorem stpT_len (T : List (Tx × Int)) (t : Tx) (s : Int) (k : Nat) : (stpT T t s k).length = T.length := by
  unfold stpT; rw [List.length_append, List.length_map, ← List.length_append, List.take_append_drop]
theorem stpT_at {T : List (Tx × Int)} {t : Tx} {s : Int} {k : Nat} {p : Tx × Int} (h : T[k]? = some p) : (stpT T t s k)[k]? = some p := by
  have hk := (List.getElem?_eq_some_iff.1 h).1
  have hl : ((T.take k).map (setS t s)).length = k := by rw [List.length_map, List.length_take, Nat.min_eq_left (by omega)]
  unfold stpT
  rw [List.getElem?_append_right (by omega), hl, List.getElem?_drop]
  simpa using h
theorem stpT_succ {T : List (Tx × Int)} {t : Tx} {s : Int} {k : Nat} {p : Tx × Int} (h : T[k]? = some p) : stpT T t s (k + 1) = (stpT T t s k).set k (setS t s p) := by
  have hk := (List.getElem?_eq_some_iff.1 h).1
  have hl : ((T.take k).map (setS t s)).length = k := by rw [List.length_map, List.length_take, Nat.min_eq_left (by omega)]
  unfold stpT
  rw [List.set_append_right _ _ (by omega), hl, Nat.sub_self, List.take_add_one, h, List.map_append, List.append_assoc]
  congr 1
  have hd : T.drop k = p :: T.drop (k + 1) := by
    rw [List.drop_eq_getElem_cons hk]
    congr 1
    exact Option.some.inj ((List.getElem?_eq_getElem hk).symm.trans h)
  rw [hd]
  rfl
theorem set_same {α : Type} : ∀ (l : List α) (k : Nat) (x : α), l[k]? = some x → l.set k x = l
  | [], _, _, h => by simp at h
  | y :: l, 0, x, h => by simp at h; subst h; rfl
  | y :: l, k + 1, x, h => by rw [List.set_cons_succ, set_same l k x (by simpa using h)]
def settleD (T : List (Tx × Int)) (t : Tx) (s : Int) : Int × List (Tx × Int) :=
  if s ≠ 3 ∧ s ≠ 4 then (1, T) else if stK T t = 0 then (6, T) else if stK T t ≠ 2 ∧ stK T t ≠ s then (9, T) else (0, setT T t s)
section
variable {own : Nat → Option Tx} {w w' : World} {xb : Nat} {ra ta : Option Addr} {rc tc : Nat} {G : List (Tx × Rn)} {Z : Tx → Dx} {T : List (Tx × Int)}
/-- a take's state is written -/
theorem DBook.putT (h : DBook own w xb ra ta rc tc G Z T) {k : Nat} {t : Tx} {s0 : Int} (hk : T[k]? = some (t, s0)) {tb : Nat} (hta : ta = some ⟨tb, 0, none⟩) (s : Int) :
    DBook own (w.setCell ⟨tb, k * 4 + 3, none⟩ (.int .i64 s)) xb ra ta rc tc G Z (T.set k (t, s)) ∧ Kept (fun i => i = tb) w (w.setCell ⟨tb, k * 4 + 3, none⟩ (.int .i64 s)) := by
  subst hta
  have kk : Kept (fun i => i = tb) w (w.setCell ⟨tb, k * 4 + 3, none⟩ (.int .i64 s)) := Kept.setCell (F := fun i => i = tb) (Kept.refl _ _) (p := ⟨tb, k * 4 + 3, none⟩) (.inl rfl) _
  have hob : own tb = none := h.top.2.2 tb rfl
  refine ⟨⟨?_, ?_, ?_, fun p hp => ?_, ?_, fun i hi => h.new i (Nat.le_trans kk.size hi)⟩, kk⟩
  · rw [List.length_set]; exact (kk.block _ (row_lt h.obj) (fun e => h.takes.ne_block h.obj (by decide) (by rw [e]; rfl))).trans h.obj
  · exact h.runs.kept kk (fun g hg e => h.runs.ne h.takes (by decide) hg (by rw [e]; rfl))
  · rw [List.length_set]
    have e := flat_set (f := takC) (m := 4) (fun _ => rfl) T k 3 (t, s0) (t, s) (.int .i64 s) hk (by omega) rfl
    rw [← e]
    exact h.takes.set rfl (k * 4 + 3) _
  · exact (h.run p hp).kept kk (fun i hi e => by rw [e, hob] at hi; cases hi)
  · rw [List.length_set]; exact h.top
end
set_option maxRecDepth 100000 in
set_option maxHeartbeats 2000000 in
theorem kdsettle_ok3 {P : Nat → Prop} {w : World} {z : Bool} {xa : Option Addr} {G : List (Tx × Rn)} {T : List (Tx × Int)} {t1 t2 t3 : Int} (hd : Dk P w z xa G T) (hz : T.length ≤ 1000000) (s : Int) (h34 : s = 3) :
    Calls Try.prog 29 #[.pointer xa, .agg #[.int .u8 t1, .int .u32 t2, .int .u32 t3], .int .i64 s] w fun e w' => e = .returned (.int .i64 (settleD T (t1, t2, t3) s).1) ∧
      Dk P w' z xa G (settleD T (t1, t2, t3) s).2 ∧ Kept P w w' := by
  have he : settleD T (t1, t2, t3) s = if stK T (t1, t2, t3) = 0 then (6, T) else if stK T (t1, t2, t3) ≠ 2 ∧ stK T (t1, t2, t3) ≠ s then (9, T) else (0, setT T (t1, t2, t3) s) := by
    unfold settleD; rw [if_neg (by omega)]
  subst h34
  have hk1 := (Kept.refl (fun _ => False) w).alloc (.cells #[.int .u8 t1, .int .u32 t2, .int .u32 t3] 28)
  have hkb := row_new w (.cells #[.int .u8 t1, .int .u32 t2, .int .u32 t3] 28)
  obtain ⟨w1, hw1⟩ : ∃ w1, w.alloc (.cells #[.int .u8 t1, .int .u32 t2, .int .u32 t3] 28) = w1 := ⟨_, rfl⟩
  obtain ⟨kb, hkb'⟩ : ∃ kb, w.heap.size = kb := ⟨_, rfl⟩
  rw [hw1] at hk1 hkb
  rw [hkb'] at hkb
  have HD := hid (hd.same hk1); have HK := hid hkb; have K1 := hid hk1
  obtain ⟨d0, d1, d2⟩ := cells3 HK.out
  clear hd hkb hk1
  have HE := hid he
  clear he
  go_enter Try.func29, Try.ntmps29
  go_wp2_with fail
  try rw [hw1, hkb']
  clear hw1 hkb' d0 d1 d2
  refine (kdstands HD.out hz).mono ?_
  rintro e w2 ⟨rfl, hk2⟩
  have K2 := hid (K1.out.trans hk2)
  have HD2 := hid (HD.out.same hk2)
  have HK2 := hid ((hk2.block _ (row_lt HK.out) id).trans HK.out)
  clear hk2
  obtain ⟨v, hv⟩ : ∃ v, stK T (t1, t2, t3) = v := ⟨_, rfl⟩
  rw [hv]
  rw [hv] at HE
  have HV := hid hv
  clear hv
  have FIN2 := hid (⟨HD2.out, K2.out.mono (fun _ _ h => h.elim)⟩ : Dk P w2 z xa G T ∧ Kept P w w2)
  by_cases hv0 : v = 0
  · have HS := hid (show settleD T (t1, t2, t3) 3 = (6, T) by rw [HE.out, if_pos hv0])
    subst hv0
    go_wp2
    go_ret
    rw [HS.out]
    exact ⟨rfl, FIN2.out⟩
  · have hv1 : (v == 0) = false := by simpa using hv0
    have HE2 := hid (show settleD T (t1, t2, t3) 3 = if v ≠ 2 ∧ v ≠ 3 then (9, T) else (0, setT T (t1, t2, t3) 3) by rw [HE.out, if_neg hv0])
    have HV0 := hid hv0
    clear hv0
    by_cases hc : v ≠ 2 ∧ v ≠ 3
    · have HS := hid (show settleD T (t1, t2, t3) 3 = (9, T) by rw [HE2.out, if_pos hc])
      have q1 : (v != 2) = true := by simpa using hc.1
      have q2 : (v != 3) = true := by simpa using hc.2
      clear hc
      go_wp2
      go_ret
      rw [HS.out]
      exact ⟨rfl, FIN2.out⟩
    · have HS := hid (show settleD T (t1, t2, t3) 3 = (0, setT T (t1, t2, t3) 3) by rw [HE2.out, if_neg hc])
      obtain ⟨cb, hcb⟩ : ∃ cb, ((v != 2) && (v != 3)) = cb := ⟨_, rfl⟩
      have hcb2 : cb = false := by rw [← hcb]; by_cases e : v = 2 <;> simp [e] at hc ⊢ <;> exact hc
      have HC := hid hc
      subst hcb2
      have hz0 : z = false := by
        rcases HD2.out.bk with ⟨_, _, _, rfl⟩ | ⟨h, _⟩
        · exact absurd (HV.out.symm.trans rfl) HV0.out
        · exact h
      obtain ⟨own, xb, ra, ta, rc, tc, Z, rfl, h, hP⟩ : ∃ own xb ra ta rc tc Z, xa = some ⟨xb, 0, none⟩ ∧ DBook own w2 xb ra ta rc tc G Z T ∧ ∀ i, i = xb ∨ (Value.slice ra G.length rc).ownBlock = some i ∨ (Value.slice ta T.length tc).ownBlock = some i ∨ own i ≠ none → P i := by
        rcases HD2.out.bk with ⟨h, _⟩ | ⟨_, h⟩
        · rw [hz0] at h; cases h
        · exact h
      have HP := hid hP; have HB := hid h
      obtain ⟨n, hn⟩ : ∃ n, T.length = n := ⟨_, rfl⟩
      obtain ⟨-, c1⟩ := h.cells
      rw [hn] at c1 hz
      have HN := hid hn
      have HZ0 := hid hz0
      clear h hP hn hz0 hc HD HK
      have step : ∀ b2, (v != 2) = b2 → (v != 3) = ((!b2) && (v != 3)) ∨ True := fun _ _ => .inr trivial
      clear step
      obtain ⟨b2, hb2⟩ : ∃ b, (v != 2) = b := ⟨_, rfl⟩
      obtain ⟨b5, hb5⟩ : ∃ b, (v != 3) = b := ⟨_, rfl⟩
      rw [hb2, hb5] at hcb
      cases b2 with
      | true =>
        have hb5f : b5 = false := by simpa using hcb
        subst hb5f
        clear hcb
        go_wp2_with fail
        go_loopw [34] (fun i wr => ∃ k : Nat, k ≤ n ∧ i = .int .i64 k ∧ DBook own wr xb ra ta rc tc G Z (stpT T (t1, t2, t3) 3 k) ∧ Kept (fun i => (Value.slice ta T.length tc).ownBlock = some i) w2 wr) (fun i _ => n - (RowKit.intOf i).toNat)
        case atStart => exact ⟨0, Nat.zero_le _, rfl, HB.out, Kept.refl _ _⟩
        case round =>
          rename World => wr
          obtain ⟨k, hk, rfl, hbk, hkp⟩ := hrel
          have HBR := hid hbk; have KR := hid hkp
          obtain ⟨-, c1⟩ := hbk.cells
          rw [stpT_len, HN.out] at c1
          have hkb2 : ¬ (Value.slice ta T.length tc).ownBlock = some kb := HB.out.takes.ne_block HK2.out (by decide)
          obtain ⟨d0, d1, d2⟩ := cells3 ((hkp.block _ (row_lt HK2.out) hkb2).trans HK2.out)
          clear hbk hkp hkb2
          by_cases hlt : k < n
          · have hltI : (k : Int) < (n : Int) := by omega
            obtain ⟨⟨⟨x1, x2, x3⟩, s0⟩, hgk⟩ : ∃ p, T[k]? = some p := ⟨_, List.getElem?_eq_getElem (by rw [HN.out]; exact hlt)⟩
            have HGK := hid hgk
            have HGS := hid (stpT_at (t := (t1, t2, t3)) (s := 3) hgk)
            obtain ⟨tb, hta, ⟨e0, e1, e2⟩, e3, ef⟩ := HBR.out.tcell HGS.out
            cases hta
            clear hgk
            obtain ⟨b, hb⟩ : ∃ b, decide (((x1, x2, x3) : Tx) = (t1, t2, t3)) = b := ⟨_, rfl⟩
            have hsame : ∀ w', (Op.equalIn 10000 28 (.agg #[.int .u8 x1, .int .u32 x2, .int .u32 x3]) (.agg #[.int .u8 t1, .int .u32 t2, .int .u32 t3])).run Try.prog w' = .ok b w' := fun w' => by
              rw [← hb]; exact tx_same (x1, x2, x3) (t1, t2, t3) w'
            have HBQ := hid hb
            clear hb
            cases b with
            | true =>
              have hxt : (x1, x2, x3) = (t1, t2, t3) := of_decide_eq_true HBQ.out
              have hsx := hid (show stpT T (t1, t2, t3) 3 (k + 1) = (stpT T (t1, t2, t3) 3 k).set k ((t1, t2, t3), 3) by
                rw [stpT_succ HGK.out]
                unfold setS
                rw [if_pos hxt])
              have hgs := HGS.out
              rw [hxt] at hgs
              have HGT := hid hgs
              clear hxt hgs
              go_wp2_with fail
              go_quiet (fail)
              have kq := kept_drewN (F := fun _ => False) wr nq
              have c1' := kq.cell c1 id
              have e3' := kq.cell e3 id
              have ef' := (kq.frozen (p := ⟨tb, k * 4 + 3, none⟩) (HBR.out.takes.lt rfl) id).trans ef
              obtain ⟨hb5x, hk5⟩ := (HBR.out.same kq).putT HGT.out rfl 3
              rw [← hsx.out] at hb5x
              have HB5 := hid hb5x
              have K5 := hid (((kq.mono (fun _ _ h => h.elim)).trans hk5).mono (G := fun i => (Value.slice (some ⟨tb, 0, none⟩) T.length tc).ownBlock = some i) (fun i _ e => by rw [e]; rfl))
              clear kq hb5x hk5 e0 e1 e2 d0 d1 d2 c1 e3 ef
              go_wp2
              go_roundw
              case rel => exact ⟨k + 1, by omega, by go_num, HB5.out, KR.out.trans K5.out⟩
              case measure => (simp only [RowKit.intOf]; omega)
            | false =>
              have hxt : (x1, x2, x3) ≠ (t1, t2, t3) := of_decide_eq_false HBQ.out
              have hsx := hid (show stpT T (t1, t2, t3) 3 (k + 1) = stpT T (t1, t2, t3) 3 k by
                rw [stpT_succ HGK.out]
                unfold setS
                rw [if_neg hxt]
                exact set_same _ _ _ HGS.out)
              clear hxt
              go_wp2_with fail
              go_quiet (fail)
              have KQ := hid (kept_drewN (F := fun _ => False) wr nq)
              go_wp2
              go_roundw
              case rel => exact ⟨k + 1, by omega, by go_num, by rw [hsx.out]; exact HBR.out.same KQ.out, KR.out.trans (KQ.out.mono (fun _ _ h => h.elim))⟩
              case measure => (simp only [RowKit.intOf]; omega)
          · obtain rfl : k = n := by omega
            have hst := hid (show stpT T (t1, t2, t3) 3 k = setT T (t1, t2, t3) 3 by unfold stpT setT; rw [← HN.out, List.take_length, List.drop_length, List.append_nil])
            go_wp2
            go_ret
            rw [HS.out]
            have k3 : Kept P w2 wr := KR.out.mono (fun i _ h => HP.out i (.inr (.inr (.inl h))))
            have hb6 := HBR.out
            rw [hst.out] at hb6
            exact ⟨rfl, ⟨fun i hi => Nat.lt_of_lt_of_le (HD2.out.lt i hi) k3.size, .inr ⟨HZ0.out, own, xb, ra, ta, rc, tc, Z, rfl, hb6, by unfold setT; rw [List.length_map]; exact HP.out⟩⟩, (K2.out.mono (fun _ _ h => h.elim)).trans k3⟩
      | false =>
        clear hcb hb5
        go_wp2_with fail
        go_loopw [34] (fun i wr => ∃ k : Nat, k ≤ n ∧ i = .int .i64 k ∧ DBook own wr xb ra ta rc tc G Z (stpT T (t1, t2, t3) 3 k) ∧ Kept (fun i => (Value.slice ta T.length tc).ownBlock = some i) w2 wr) (fun i _ => n - (RowKit.intOf i).toNat)
        case atStart => exact ⟨0, Nat.zero_le _, rfl, HB.out, Kept.refl _ _⟩
        case round =>
          rename World => wr
          obtain ⟨k, hk, rfl, hbk, hkp⟩ := hrel
          have HBR := hid hbk; have KR := hid hkp
          obtain ⟨-, c1⟩ := hbk.cells
          rw [stpT_len, HN.out] at c1
          have hkb2 : ¬ (Value.slice ta T.length tc).ownBlock = some kb := HB.out.takes.ne_block HK2.out (by decide)
          obtain ⟨d0, d1, d2⟩ := cells3 ((hkp.block _ (row_lt HK2.out) hkb2).trans HK2.out)
          clear hbk hkp hkb2
          by_cases hlt : k < n
          · have hltI : (k : Int) < (n : Int) := by omega
            obtain ⟨⟨⟨x1, x2, x3⟩, s0⟩, hgk⟩ : ∃ p, T[k]? = some p := ⟨_, List.getElem?_eq_getElem (by rw [HN.out]; exact hlt)⟩
            have HGK := hid hgk
            have HGS := hid (stpT_at (t := (t1, t2, t3)) (s := 3) hgk)
            obtain ⟨tb, hta, ⟨e0, e1, e2⟩, e3, ef⟩ := HBR.out.tcell HGS.out
            cases hta
            clear hgk
            obtain ⟨b, hb⟩ : ∃ b, decide (((x1, x2, x3) : Tx) = (t1, t2, t3)) = b := ⟨_, rfl⟩
            have hsame : ∀ w', (Op.equalIn 10000 28 (.agg #[.int .u8 x1, .int .u32 x2, .int .u32 x3]) (.agg #[.int .u8 t1, .int .u32 t2, .int .u32 t3])).run Try.prog w' = .ok b w' := fun w' => by
              rw [← hb]; exact tx_same (x1, x2, x3) (t1, t2, t3) w'
            have HBQ := hid hb
            clear hb
            cases b with
            | true =>
              have hxt : (x1, x2, x3) = (t1, t2, t3) := of_decide_eq_true HBQ.out
              have hsx := hid (show stpT T (t1, t2, t3) 3 (k + 1) = (stpT T (t1, t2, t3) 3 k).set k ((t1, t2, t3), 3) by
                rw [stpT_succ HGK.out]
                unfold setS
                rw [if_pos hxt])
              have hgs := HGS.out
              rw [hxt] at hgs
              have HGT := hid hgs
              clear hxt hgs
              go_wp2_with fail
              go_quiet (fail)
              have kq := kept_drewN (F := fun _ => False) wr nq
              have c1' := kq.cell c1 id
              have e3' := kq.cell e3 id
              have ef' := (kq.frozen (p := ⟨tb, k * 4 + 3, none⟩) (HBR.out.takes.lt rfl) id).trans ef
              obtain ⟨hb5x, hk5⟩ := (HBR.out.same kq).putT HGT.out rfl 3
              rw [← hsx.out] at hb5x
              have HB5 := hid hb5x
              have K5 := hid (((kq.mono (fun _ _ h => h.elim)).trans hk5).mono (G := fun i => (Value.slice (some ⟨tb, 0, none⟩) T.length tc).ownBlock = some i) (fun i _ e => by rw [e]; rfl))
              clear kq hb5x hk5 e0 e1 e2 d0 d1 d2 c1 e3 ef
              go_wp2
              go_roundw
              case rel => exact ⟨k + 1, by omega, by go_num, HB5.out, KR.out.trans K5.out⟩
              case measure => (simp only [RowKit.intOf]; omega)
            | false =>
              have hxt : (x1, x2, x3) ≠ (t1, t2, t3) := of_decide_eq_false HBQ.out
              have hsx := hid (show stpT T (t1, t2, t3) 3 (k + 1) = stpT T (t1, t2, t3) 3 k by
                rw [stpT_succ HGK.out]
                unfold setS
                rw [if_neg hxt]
                exact set_same _ _ _ HGS.out)
              clear hxt
              go_wp2_with fail
              go_quiet (fail)
              have KQ := hid (kept_drewN (F := fun _ => False) wr nq)
              go_wp2
              go_roundw
              case rel => exact ⟨k + 1, by omega, by go_num, by rw [hsx.out]; exact HBR.out.same KQ.out, KR.out.trans (KQ.out.mono (fun _ _ h => h.elim))⟩
              case measure => (simp only [RowKit.intOf]; omega)
          · obtain rfl : k = n := by omega
            have hst := hid (show stpT T (t1, t2, t3) 3 k = setT T (t1, t2, t3) 3 by unfold stpT setT; rw [← HN.out, List.take_length, List.drop_length, List.append_nil])
            go_wp2
            go_ret
            rw [HS.out]
            have k3 : Kept P w2 wr := KR.out.mono (fun i _ h => HP.out i (.inr (.inr (.inl h))))
            have hb6 := HBR.out
            rw [hst.out] at hb6
            exact ⟨rfl, ⟨fun i hi => Nat.lt_of_lt_of_le (HD2.out.lt i hi) k3.size, .inr ⟨HZ0.out, own, xb, ra, ta, rc, tc, Z, rfl, hb6, by unfold setT; rw [List.length_map]; exact HP.out⟩⟩, (K2.out.mono (fun _ _ h => h.elim)).trans k3⟩
set_option maxRecDepth 100000 in
set_option maxHeartbeats 2000000 in
theorem kdsettle_ok4 {P : Nat → Prop} {w : World} {z : Bool} {xa : Option Addr} {G : List (Tx × Rn)} {T : List (Tx × Int)} {t1 t2 t3 : Int} (hd : Dk P w z xa G T) (hz : T.length ≤ 1000000) (s : Int) (h34 : s = 4) :
    Calls Try.prog 29 #[.pointer xa, .agg #[.int .u8 t1, .int .u32 t2, .int .u32 t3], .int .i64 s] w fun e w' => e = .returned (.int .i64 (settleD T (t1, t2, t3) s).1) ∧
      Dk P w' z xa G (settleD T (t1, t2, t3) s).2 ∧ Kept P w w' := by
  have he : settleD T (t1, t2, t3) s = if stK T (t1, t2, t3) = 0 then (6, T) else if stK T (t1, t2, t3) ≠ 2 ∧ stK T (t1, t2, t3) ≠ s then (9, T) else (0, setT T (t1, t2, t3) s) := by
    unfold settleD; rw [if_neg (by omega)]
  subst h34
  have hk1 := (Kept.refl (fun _ => False) w).alloc (.cells #[.int .u8 t1, .int .u32 t2, .int .u32 t3] 28)
  have hkb := row_new w (.cells #[.int .u8 t1, .int .u32 t2, .int .u32 t3] 28)
  obtain ⟨w1, hw1⟩ : ∃ w1, w.alloc (.cells #[.int .u8 t1, .int .u32 t2, .int .u32 t3] 28) = w1 := ⟨_, rfl⟩
  obtain ⟨kb, hkb'⟩ : ∃ kb, w.heap.size = kb := ⟨_, rfl⟩
  rw [hw1] at hk1 hkb
  rw [hkb'] at hkb
  have HD := hid (hd.same hk1); have HK := hid hkb; have K1 := hid hk1
  obtain ⟨d0, d1, d2⟩ := cells3 HK.out
  clear hd hkb hk1
  have HE := hid he
  clear he
  go_enter Try.func29, Try.ntmps29
  go_wp2_with fail
  try rw [hw1, hkb']
  clear hw1 hkb' d0 d1 d2
  refine (kdstands HD.out hz).mono ?_
  rintro e w2 ⟨rfl, hk2⟩
  have K2 := hid (K1.out.trans hk2)
  have HD2 := hid (HD.out.same hk2)
  have HK2 := hid ((hk2.block _ (row_lt HK.out) id).trans HK.out)
  clear hk2
  obtain ⟨v, hv⟩ : ∃ v, stK T (t1, t2, t3) = v := ⟨_, rfl⟩
  rw [hv]
  rw [hv] at HE
  have HV := hid hv
  clear hv
  have FIN2 := hid (⟨HD2.out, K2.out.mono (fun _ _ h => h.elim)⟩ : Dk P w2 z xa G T ∧ Kept P w w2)
  by_cases hv0 : v = 0
  · have HS := hid (show settleD T (t1, t2, t3) 4 = (6, T) by rw [HE.out, if_pos hv0])
    subst hv0
    go_wp2
    go_ret
    rw [HS.out]
    exact ⟨rfl, FIN2.out⟩
  · have hv1 : (v == 0) = false := by simpa using hv0
    have HE2 := hid (show settleD T (t1, t2, t3) 4 = if v ≠ 2 ∧ v ≠ 4 then (9, T) else (0, setT T (t1, t2, t3) 4) by rw [HE.out, if_neg hv0])
    have HV0 := hid hv0
    clear hv0
    by_cases hc : v ≠ 2 ∧ v ≠ 4
    · have HS := hid (show settleD T (t1, t2, t3) 4 = (9, T) by rw [HE2.out, if_pos hc])
      have q1 : (v != 2) = true := by simpa using hc.1
      have q2 : (v != 4) = true := by simpa using hc.2
      clear hc
      go_wp2
      go_ret
      rw [HS.out]
      exact ⟨rfl, FIN2.out⟩
    · have HS := hid (show settleD T (t1, t2, t3) 4 = (0, setT T (t1, t2, t3) 4) by rw [HE2.out, if_neg hc])
      obtain ⟨cb, hcb⟩ : ∃ cb, ((v != 2) && (v != 4)) = cb := ⟨_, rfl⟩
      have hcb2 : cb = false := by rw [← hcb]; by_cases e : v = 2 <;> simp [e] at hc ⊢ <;> exact hc
      have HC := hid hc
      subst hcb2
      have hz0 : z = false := by
        rcases HD2.out.bk with ⟨_, _, _, rfl⟩ | ⟨h, _⟩
        · exact absurd (HV.out.symm.trans rfl) HV0.out
        · exact h
      obtain ⟨own, xb, ra, ta, rc, tc, Z, rfl, h, hP⟩ : ∃ own xb ra ta rc tc Z, xa = some ⟨xb, 0, none⟩ ∧ DBook own w2 xb ra ta rc tc G Z T ∧ ∀ i, i = xb ∨ (Value.slice ra G.length rc).ownBlock = some i ∨ (Value.slice ta T.length tc).ownBlock = some i ∨ own i ≠ none → P i := by
        rcases HD2.out.bk with ⟨h, _⟩ | ⟨_, h⟩
        · rw [hz0] at h; cases h
        · exact h
      have HP := hid hP; have HB := hid h
      obtain ⟨n, hn⟩ : ∃ n, T.length = n := ⟨_, rfl⟩
      obtain ⟨-, c1⟩ := h.cells
      rw [hn] at c1 hz
      have HN := hid hn
      have HZ0 := hid hz0
      clear h hP hn hz0 hc HD HK
      have step : ∀ b2, (v != 2) = b2 → (v != 4) = ((!b2) && (v != 4)) ∨ True := fun _ _ => .inr trivial
      clear step
      obtain ⟨b2, hb2⟩ : ∃ b, (v != 2) = b := ⟨_, rfl⟩
      obtain ⟨b5, hb5⟩ : ∃ b, (v != 4) = b := ⟨_, rfl⟩
      rw [hb2, hb5] at hcb
      cases b2 with
      | true =>
        have hb5f : b5 = false := by simpa using hcb
        subst hb5f
        clear hcb
        go_wp2_with fail
        go_loopw [34] (fun i wr => ∃ k : Nat, k ≤ n ∧ i = .int .i64 k ∧ DBook own wr xb ra ta rc tc G Z (stpT T (t1, t2, t3) 4 k) ∧ Kept (fun i => (Value.slice ta T.length tc).ownBlock = some i) w2 wr) (fun i _ => n - (RowKit.intOf i).toNat)
        case atStart => exact ⟨0, Nat.zero_le _, rfl, HB.out, Kept.refl _ _⟩
        case round =>
          rename World => wr
          obtain ⟨k, hk, rfl, hbk, hkp⟩ := hrel
          have HBR := hid hbk; have KR := hid hkp
          obtain ⟨-, c1⟩ := hbk.cells
          rw [stpT_len, HN.out] at c1
          have hkb2 : ¬ (Value.slice ta T.length tc).ownBlock = some kb := HB.out.takes.ne_block HK2.out (by decide)
          obtain ⟨d0, d1, d2⟩ := cells3 ((hkp.block _ (row_lt HK2.out) hkb2).trans HK2.out)
          clear hbk hkp hkb2
          by_cases hlt : k < n
          · have hltI : (k : Int) < (n : Int) := by omega
            obtain ⟨⟨⟨x1, x2, x3⟩, s0⟩, hgk⟩ : ∃ p, T[k]? = some p := ⟨_, List.getElem?_eq_getElem (by rw [HN.out]; exact hlt)⟩
            have HGK := hid hgk
            have HGS := hid (stpT_at (t := (t1, t2, t3)) (s := 4) hgk)
            obtain ⟨tb, hta, ⟨e0, e1, e2⟩, e3, ef⟩ := HBR.out.tcell HGS.out
            cases hta
            clear hgk
            obtain ⟨b, hb⟩ : ∃ b, decide (((x1, x2, x3) : Tx) = (t1, t2, t3)) = b := ⟨_, rfl⟩
            have hsame : ∀ w', (Op.equalIn 10000 28 (.agg #[.int .u8 x1, .int .u32 x2, .int .u32 x3]) (.agg #[.int .u8 t1, .int .u32 t2, .int .u32 t3])).run Try.prog w' = .ok b w' := fun w' => by
              rw [← hb]; exact tx_same (x1, x2, x3) (t1, t2, t3) w'
            have HBQ := hid hb
            clear hb
            cases b with
            | true =>
              have hxt : (x1, x2, x3) = (t1, t2, t3) := of_decide_eq_true HBQ.out
              have hsx := hid (show stpT T (t1, t2, t3) 4 (k + 1) = (stpT T (t1, t2, t3) 4 k).set k ((t1, t2, t3), 4) by
                rw [stpT_succ HGK.out]
                unfold setS
                rw [if_pos hxt])
              have hgs := HGS.out
              rw [hxt] at hgs
              have HGT := hid hgs
              clear hxt hgs
              go_wp2_with fail
              go_quiet (fail)
              have kq := kept_drewN (F := fun _ => False) wr nq
              have c1' := kq.cell c1 id
              have e3' := kq.cell e3 id
              have ef' := (kq.frozen (p := ⟨tb, k * 4 + 3, none⟩) (HBR.out.takes.lt rfl) id).trans ef
              obtain ⟨hb5x, hk5⟩ := (HBR.out.same kq).putT HGT.out rfl 4
              rw [← hsx.out] at hb5x
              have HB5 := hid hb5x
              have K5 := hid (((kq.mono (fun _ _ h => h.elim)).trans hk5).mono (G := fun i => (Value.slice (some ⟨tb, 0, none⟩) T.length tc).ownBlock = some i) (fun i _ e => by rw [e]; rfl))
              clear kq hb5x hk5 e0 e1 e2 d0 d1 d2 c1 e3 ef
              go_wp2
              go_roundw
              case rel => exact ⟨k + 1, by omega, by go_num, HB5.out, KR.out.trans K5.out⟩
              case measure => (simp only [RowKit.intOf]; omega)
            | false =>
              have hxt : (x1, x2, x3) ≠ (t1, t2, t3) := of_decide_eq_false HBQ.out
              have hsx := hid (show stpT T (t1, t2, t3) 4 (k + 1) = stpT T (t1, t2, t3) 4 k by
                rw [stpT_succ HGK.out]
                unfold setS
                rw [if_neg hxt]
                exact set_same _ _ _ HGS.out)
              clear hxt
              go_wp2_with fail
              go_quiet (fail)
              have KQ := hid (kept_drewN (F := fun _ => False) wr nq)
              go_wp2
              go_roundw
              case rel => exact ⟨k + 1, by omega, by go_num, by rw [hsx.out]; exact HBR.out.same KQ.out, KR.out.trans (KQ.out.mono (fun _ _ h => h.elim))⟩
              case measure => (simp only [RowKit.intOf]; omega)
          · obtain rfl : k = n := by omega
            have hst := hid (show stpT T (t1, t2, t3) 4 k = setT T (t1, t2, t3) 4 by unfold stpT setT; rw [← HN.out, List.take_length, List.drop_length, List.append_nil])
            go_wp2
            go_ret
            rw [HS.out]
            have k3 : Kept P w2 wr := KR.out.mono (fun i _ h => HP.out i (.inr (.inr (.inl h))))
            have hb6 := HBR.out
            rw [hst.out] at hb6
            exact ⟨rfl, ⟨fun i hi => Nat.lt_of_lt_of_le (HD2.out.lt i hi) k3.size, .inr ⟨HZ0.out, own, xb, ra, ta, rc, tc, Z, rfl, hb6, by unfold setT; rw [List.length_map]; exact HP.out⟩⟩, (K2.out.mono (fun _ _ h => h.elim)).trans k3⟩
      | false =>
        clear hcb hb5
        go_wp2_with fail
        go_loopw [34] (fun i wr => ∃ k : Nat, k ≤ n ∧ i = .int .i64 k ∧ DBook own wr xb ra ta rc tc G Z (stpT T (t1, t2, t3) 4 k) ∧ Kept (fun i => (Value.slice ta T.length tc).ownBlock = some i) w2 wr) (fun i _ => n - (RowKit.intOf i).toNat)
        case atStart => exact ⟨0, Nat.zero_le _, rfl, HB.out, Kept.refl _ _⟩
        case round =>
          rename World => wr
          obtain ⟨k, hk, rfl, hbk, hkp⟩ := hrel
          have HBR := hid hbk; have KR := hid hkp
          obtain ⟨-, c1⟩ := hbk.cells
          rw [stpT_len, HN.out] at c1
          have hkb2 : ¬ (Value.slice ta T.length tc).ownBlock = some kb := HB.out.takes.ne_block HK2.out (by decide)
          obtain ⟨d0, d1, d2⟩ := cells3 ((hkp.block _ (row_lt HK2.out) hkb2).trans HK2.out)
          clear hbk hkp hkb2
          by_cases hlt : k < n
          · have hltI : (k : Int) < (n : Int) := by omega
            obtain ⟨⟨⟨x1, x2, x3⟩, s0⟩, hgk⟩ : ∃ p, T[k]? = some p := ⟨_, List.getElem?_eq_getElem (by rw [HN.out]; exact hlt)⟩
            have HGK := hid hgk
            have HGS := hid (stpT_at (t := (t1, t2, t3)) (s := 4) hgk)
            obtain ⟨tb, hta, ⟨e0, e1, e2⟩, e3, ef⟩ := HBR.out.tcell HGS.out
            cases hta
            clear hgk
            obtain ⟨b, hb⟩ : ∃ b, decide (((x1, x2, x3) : Tx) = (t1, t2, t3)) = b := ⟨_, rfl⟩
            have hsame : ∀ w', (Op.equalIn 10000 28 (.agg #[.int .u8 x1, .int .u32 x2, .int .u32 x3]) (.agg #[.int .u8 t1, .int .u32 t2, .int .u32 t3])).run Try.prog w' = .ok b w' := fun w' => by
              rw [← hb]; exact tx_same (x1, x2, x3) (t1, t2, t3) w'
            have HBQ := hid hb
            clear hb
            cases b with
            | true =>
              have hxt : (x1, x2, x3) = (t1, t2, t3) := of_decide_eq_true HBQ.out
              have hsx := hid (show stpT T (t1, t2, t3) 4 (k + 1) = (stpT T (t1, t2, t3) 4 k).set k ((t1, t2, t3), 4) by
                rw [stpT_succ HGK.out]
                unfold setS
                rw [if_pos hxt])
              have hgs := HGS.out
              rw [hxt] at hgs
              have HGT := hid hgs
              clear hxt hgs
              go_wp2_with fail
              go_quiet (fail)
              have kq := kept_drewN (F := fun _ => False) wr nq
              have c1' := kq.cell c1 id
              have e3' := kq.cell e3 id
              have ef' := (kq.frozen (p := ⟨tb, k * 4 + 3, none⟩) (HBR.out.takes.lt rfl) id).trans ef
              obtain ⟨hb5x, hk5⟩ := (HBR.out.same kq).putT HGT.out rfl 4
              rw [← hsx.out] at hb5x
              have HB5 := hid hb5x
              have K5 := hid (((kq.mono (fun _ _ h => h.elim)).trans hk5).mono (G := fun i => (Value.slice (some ⟨tb, 0, none⟩) T.length tc).ownBlock = some i) (fun i _ e => by rw [e]; rfl))
              clear kq hb5x hk5 e0 e1 e2 d0 d1 d2 c1 e3 ef
              go_wp2
              go_roundw
              case rel => exact ⟨k + 1, by omega, by go_num, HB5.out, KR.out.trans K5.out⟩
              case measure => (simp only [RowKit.intOf]; omega)
            | false =>
              have hxt : (x1, x2, x3) ≠ (t1, t2, t3) := of_decide_eq_false HBQ.out
              have hsx := hid (show stpT T (t1, t2, t3) 4 (k + 1) = stpT T (t1, t2, t3) 4 k by
                rw [stpT_succ HGK.out]
                unfold setS
                rw [if_neg hxt]
                exact set_same _ _ _ HGS.out)
              clear hxt
              go_wp2_with fail
              go_quiet (fail)
              have KQ := hid (kept_drewN (F := fun _ => False) wr nq)
              go_wp2
              go_roundw
              case rel => exact ⟨k + 1, by omega, by go_num, by rw [hsx.out]; exact HBR.out.same KQ.out, KR.out.trans (KQ.out.mono (fun _ _ h => h.elim))⟩
              case measure => (simp only [RowKit.intOf]; omega)
          · obtain rfl : k = n := by omega
            have hst := hid (show stpT T (t1, t2, t3) 4 k = setT T (t1, t2, t3) 4 by unfold stpT setT; rw [← HN.out, List.take_length, List.drop_length, List.append_nil])
            go_wp2
            go_ret
            rw [HS.out]
            have k3 : Kept P w2 wr := KR.out.mono (fun i _ h => HP.out i (.inr (.inr (.inl h))))
            have hb6 := HBR.out
            rw [hst.out] at hb6
            exact ⟨rfl, ⟨fun i hi => Nat.lt_of_lt_of_le (HD2.out.lt i hi) k3.size, .inr ⟨HZ0.out, own, xb, ra, ta, rc, tc, Z, rfl, hb6, by unfold setT; rw [List.length_map]; exact HP.out⟩⟩, (K2.out.mono (fun _ _ h => h.elim)).trans k3⟩
set_option maxRecDepth 100000 in
set_option maxHeartbeats 1000000 in
theorem kdsettle {P : Nat → Prop} {w : World} {z : Bool} {xa : Option Addr} {G : List (Tx × Rn)} {T : List (Tx × Int)} {t1 t2 t3 : Int} (hd : Dk P w z xa G T) (hz : T.length ≤ 1000000) (s : Int) :
    Calls Try.prog 29 #[.pointer xa, .agg #[.int .u8 t1, .int .u32 t2, .int .u32 t3], .int .i64 s] w fun e w' => e = .returned (.int .i64 (settleD T (t1, t2, t3) s).1) ∧
      Dk P w' z xa G (settleD T (t1, t2, t3) s).2 ∧ Kept P w w' := by
  by_cases h3 : s = 3
  · exact kdsettle_ok3 hd hz s h3
  by_cases h4 : s = 4
  · exact kdsettle_ok4 hd hz s h4
  have HS := hid (show settleD T (t1, t2, t3) s = (1, T) by unfold settleD; rw [if_pos ⟨h3, h4⟩])
  have q3 : (s != 3) = true := by simpa using h3
  have q4 : (s != 4) = true := by simpa using h4
  clear h3 h4
  have hk1 := (Kept.refl (fun _ => False) w).alloc (.cells #[.int .u8 t1, .int .u32 t2, .int .u32 t3] 28)
  have hkb := row_new w (.cells #[.int .u8 t1, .int .u32 t2, .int .u32 t3] 28)
  obtain ⟨w1, hw1⟩ : ∃ w1, w.alloc (.cells #[.int .u8 t1, .int .u32 t2, .int .u32 t3] 28) = w1 := ⟨_, rfl⟩
  obtain ⟨kb, hkb'⟩ : ∃ kb, w.heap.size = kb := ⟨_, rfl⟩
  rw [hw1] at hk1 hkb
  rw [hkb'] at hkb
  have HD := hid (hd.same hk1); have HK := hid hkb; have K1 := hid hk1
  obtain ⟨d0, d1, d2⟩ := cells3 HK.out
  clear hd hkb hk1
  go_enter Try.func29, Try.ntmps29
  go_wp2_with fail
  try rw [hw1, hkb']
  clear hw1 hkb' d0 d1 d2
  go_ret
  rw [HS.out]
  exact ⟨rfl, HD.out, K1.out.mono (fun _ _ h => h.elim)⟩
end Go.Proofs.Ytaobioleodfafaa
/- A row of cells written one by one. -/
namespace Go.Proofs.Ytaobioleodfafaa
open Go.RowKit

def putRow (b : Nat) : World → Nat → List Value → World
  | w, _, [] => w
  | w, i, v :: l => putRow b (w.setCell ⟨b, i, none⟩ v) (i + 1) l
theorem putRow_block {b : Nat} {T : TypeId} : ∀ (l : List Value) (w : World) (i : Nat) (cs : Array Value), w.heap[b]? = some (.cells cs T (0, 0)) → ∃ cs', (putRow b w i l).heap[b]? = some (.cells cs' T (0, 0)) ∧ cs'.size = cs.size ∧
    (∀ j, j < i → cs'[j]? = cs[j]?) ∧ ∀ j, i ≤ j → j < cs.size → cs'[j]? = if j < i + l.length then l[j - i]? else cs[j]?
  | [], w, i, cs, h => ⟨cs, h, rfl, fun _ _ => rfl, fun j h1 _ => by rw [if_neg]; simp; omega⟩
  | v :: l, w, i, cs, h => by
    obtain ⟨cs', h1, h2, h3, h4⟩ := putRow_block l _ (i + 1) _ (row_set h i v)
    refine ⟨cs', h1, by simpa using h2, fun j hj => ?_, fun j hj hs => ?_⟩
    · rw [h3 j (by omega), Array.getElem?_setIfInBounds_ne (by omega)]
    · by_cases e : j = i
      · subst e
        rw [h3 j (by omega), if_pos (by simp)]
        simp [hs]
      · rw [h4 j (by omega) (by simpa using hs)]
        by_cases hl : j < i + 1 + l.length
        · rw [if_pos hl, if_pos (by simp; omega)]
          have : j - i = (j - (i + 1)) + 1 := by omega
          rw [this, List.getElem?_cons_succ]
        · rw [if_neg hl, if_neg (by simp; omega), Array.getElem?_setIfInBounds_ne (by omega)]
/-- the whole row -/
theorem putRow_all {b : Nat} {T : TypeId} {w : World} {cs : Array Value} (l : List Value) (h : w.heap[b]? = some (.cells cs T (0, 0))) (hl : l.length = cs.size) : (putRow b w 0 l).heap[b]? = some (.cells l.toArray T (0, 0)) := by
  obtain ⟨cs', h1, h2, _, h4⟩ := putRow_block l w 0 cs h
  rw [h1]
  congr 2
  apply Array.ext_getElem?
  intro j
  by_cases hj : j < cs.size
  · rw [h4 j (Nat.zero_le _) hj, if_pos (by omega)]
    simp
  · rw [Array.getElem?_eq_none (by omega), Array.getElem?_eq_none (by simp; omega)]
theorem putRow_kept {b : Nat} {F : Nat → Prop} {a : World} (hb : F b ∨ a.heap.size ≤ b) : ∀ (l : List Value) (w : World) (i : Nat), Kept F a w → Kept F a (putRow b w i l)
  | [], _, _, h => h
  | v :: l, _, i, h => putRow_kept hb l _ (i + 1) (h.setCell (p := ⟨b, i, none⟩) hb v)
/-- behind the first j + 1 of them the j-th stands there -/
theorem putRow_got {b : Nat} {T : TypeId} {w : World} {cs : Array Value} (h : w.heap[b]? = some (.cells cs T (0, 0))) (l : List Value) (hl : l.length ≤ cs.size) (j : Nat) (v : Value) (hj : l[j]? = some v) :
    (putRow b w 0 (l.take (j + 1))).cell? ⟨b, j, none⟩ = some v := by
  obtain ⟨cs', h1, h2, _, h4⟩ := putRow_block (l.take (j + 1)) w 0 cs h
  have hlt := (List.getElem?_eq_some_iff.1 hj).1
  rw [row_cell h1, h4 j (Nat.zero_le _) (by omega), if_pos (by simp; omega), Nat.sub_zero, List.getElem?_take, if_pos (by omega), hj]
end Go.Proofs.Ytaobioleodfafaa
