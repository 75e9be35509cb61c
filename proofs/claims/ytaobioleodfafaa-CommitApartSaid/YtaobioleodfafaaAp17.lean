/- Texts of this claim, merged: Dd. -/
import Derived.Test.YtaobioleodfafaaAp1
import Derived.Test.YtaobioleodfafaaAp2
import Derived.Test.YtaobioleodfafaaAp3
import Derived.Test.YtaobioleodfafaaAp4
import Derived.Test.YtaobioleodfafaaAp5
import Derived.Test.YtaobioleodfafaaAp6
import Derived.Test.YtaobioleodfafaaAp7
import Derived.Test.YtaobioleodfafaaAp8
import Derived.Test.YtaobioleodfafaaAp9
import Derived.Test.YtaobioleodfafaaAp10
import Derived.Test.YtaobioleodfafaaAp11
import Derived.Test.YtaobioleodfafaaAp12
import Derived.Test.YtaobioleodfafaaAp13
import Derived.Test.YtaobioleodfafaaAp14
import Derived.Test.YtaobioleodfafaaAp15
import Derived.Test.YtaobioleodfafaaAp16
/- The document: less, State, Stands. -/
namespace Go.Proofs.Ytaobioleodfafaa
open Go.RowKit
set_option maxRecDepth 100000 in
set_option maxHeartbeats 1000000 in
theorem dless (w : World) (x y : Tx) : Calls Try.prog 44 #[txv x, txv y] w fun e w' => e = .returned (.bool (decide (ltT x y))) ∧ Kept (fun _ => False) w w' := by
  obtain ⟨x1, x2, x3⟩ := x
  obtain ⟨y1, y2, y3⟩ := y
  unfold txv
  have htw := two_new w (.cells #[.int .u8 x1, .int .u32 x2, .int .u32 x3] 28) (.cells #[.int .u8 y1, .int .u32 y2, .int .u32 y3] 28)
  have hk := ((Kept.refl (fun _ => False) w).alloc (.cells #[.int .u8 x1, .int .u32 x2, .int .u32 x3] 28)).alloc (.cells #[.int .u8 y1, .int .u32 y2, .int .u32 y3] 28)
  obtain ⟨w1, hw1⟩ : ∃ w1, (w.alloc (.cells #[.int .u8 x1, .int .u32 x2, .int .u32 x3] 28)).alloc (.cells #[.int .u8 y1, .int .u32 y2, .int .u32 y3] 28) = w1 := ⟨_, rfl⟩
  obtain ⟨xb, hxb⟩ : ∃ b, w.heap.size = b := ⟨_, rfl⟩
  rw [hw1] at htw hk
  rw [hxb] at htw
  have K1 := hid hk
  obtain ⟨c0, c1, c2⟩ := cells3 htw.1
  obtain ⟨d0, d1, d2⟩ := cells3 htw.2
  have HA := hid (show decide (ltT (x1, x2, x3) (y1, y2, y3)) = (if (x1 != y1) then decide (x1 < y1) else if (x2 != y2) then decide (x2 < y2) else decide (x3 < y3)) by
    unfold ltT
    by_cases h1 : x1 = y1
    · subst h1
      by_cases h2 : x2 = y2
      · subst h2; simp
      · have : (x2 != y2) = true := by simpa using h2
        simp [h2]
    · simp [h1])
  obtain ⟨b1, hb1⟩ : ∃ b, (x1 != y1) = b := ⟨_, rfl⟩
  obtain ⟨b2, hb2⟩ : ∃ b, (x2 != y2) = b := ⟨_, rfl⟩
  have HA2 := hid (show decide (ltT (x1, x2, x3) (y1, y2, y3)) = (if b1 then decide (x1 < y1) else if b2 then decide (x2 < y2) else decide (x3 < y3)) by rw [HA.out, hb1, hb2])
  clear hk htw
  go_enter Try.func44, Try.ntmps44
  cases b1 with
  | true =>
    go_wp2
    go_ret
    rw [HA2.out]
    exact ⟨rfl, K1.out⟩
  | false =>
    cases b2 with
    | true =>
      go_wp2
      go_ret
      rw [HA2.out]
      exact ⟨rfl, K1.out⟩
    | false =>
      go_wp2
      go_ret
      rw [HA2.out]
      exact ⟨rfl, K1.out⟩
section
variable {P : Nat → Prop} {w : World} {z : Bool} {xa : Option Addr} {G : List (Tx × Rn)} {T : List (Tx × Int)} {t1 t2 t3 : Int}
/-- run, nil or not -/
theorem kdrun (hd : Dk P w z xa G T) (hz : G.length ≤ 1000000) : Calls Try.prog 40 #[.pointer xa, .agg #[.int .u8 t1, .int .u32 t2, .int .u32 t3]] w fun e w' => (∃ i : Int, e = .returned (.int .i64 i) ∧ ((lookG G (t1, t2, t3) = none ∧ i = -1) ∨ ∃ (r : Rn) (k : Nat), lookG G (t1, t2, t3) = some r ∧ i = k ∧ G[k]? = some ((t1, t2, t3), r))) ∧ Kept (fun _ => False) w w' := by
  rcases hd.bk with ⟨rfl, rfl, rfl, rfl⟩ | ⟨rfl, own, xb, ra, ta, rc, tc, Z, rfl, h, -⟩
  · refine (drun_nil w t1 t2 t3).mono ?_
    rintro e w' ⟨rfl, hk⟩
    exact ⟨⟨-1, rfl, .inl ⟨rfl, rfl⟩⟩, hk⟩
  · exact drun_some h hz
/-- the book, where a run is there -/
theorem Dk.some {r : Rn} {t : Tx} (hd : Dk P w z xa G T) (hl : lookG G t = some r) : z = false ∧ ∃ own xb ra ta rc tc Z, xa = some ⟨xb, 0, none⟩ ∧ DBook own w xb ra ta rc tc G Z T ∧ ∀ i, i = xb ∨ (Value.slice ra G.length rc).ownBlock = some i ∨ (Value.slice ta T.length tc).ownBlock = some i ∨ own i ≠ none → P i := by
  rcases hd.bk with ⟨rfl, rfl, rfl, rfl⟩ | h
  · cases hl
  · exact h
set_option maxRecDepth 100000 in
set_option maxHeartbeats 1000000 in
theorem dstate (hd : Dk P w z xa G T) (hz : G.length ≤ 1000000) : Calls Try.prog 32 #[.pointer xa, .agg #[.int .u8 t1, .int .u32 t2, .int .u32 t3]] w fun e w' => e = .returned (.int .i64 (stR (lookG G (t1, t2, t3)))) ∧ Kept (fun _ => False) w w' := by
  have hk1 := (Kept.refl (fun _ => False) w).alloc (.cells #[.int .u8 t1, .int .u32 t2, .int .u32 t3] 28)
  have hkb := row_new w (.cells #[.int .u8 t1, .int .u32 t2, .int .u32 t3] 28)
  obtain ⟨w1, hw1⟩ : ∃ w1, w.alloc (.cells #[.int .u8 t1, .int .u32 t2, .int .u32 t3] 28) = w1 := ⟨_, rfl⟩
  obtain ⟨kb, hkb'⟩ : ∃ kb, w.heap.size = kb := ⟨_, rfl⟩
  rw [hw1] at hk1 hkb
  rw [hkb'] at hkb
  have HD := hid (hd.same hk1); have HK := hid hkb; have K1 := hid hk1
  obtain ⟨d0, d1, d2⟩ := cells3 HK.out
  clear hd hkb hk1
  go_enter Try.func32, Try.ntmps32
  go_wp2_with fail
  try rw [hw1, hkb']
  clear hw1 hkb' d0 d1 d2
  refine (kdrun HD.out hz).mono ?_
  rintro e w2 ⟨⟨i, rfl, hi⟩, hk2⟩
  have K2 := hid (K1.out.trans hk2)
  have HD2 := hid (HD.out.same hk2)
  clear hk2
  rcases hi with ⟨hl, rfl⟩ | ⟨r, k, hl, rfl, hgk⟩
  · have HL := hid hl
    clear hl
    go_wp2
    go_ret
    rw [HL.out]
    exact ⟨rfl, K2.out⟩
  · obtain ⟨-, own, xb, ra, ta, rc, tc, Z, rfl, h, -⟩ := HD2.out.some hl
    have HL := hid hl
    obtain ⟨n, hn⟩ : ∃ n, G.length = n := ⟨_, rfl⟩
    have hkn : (k : Int) < (n : Int) := by have := (List.getElem?_eq_some_iff.1 hgk).1; omega
    obtain ⟨c0, -⟩ := h.cells
    rw [hn] at c0
    obtain ⟨rb, rfl, -, -, -, -, e6, -⟩ := h.rcell hgk
    clear hl hgk hn h
    have h0 : ¬ (k : Int) < 0 := by omega
    go_wp2
    go_ret
    rw [HL.out]
    exact ⟨rfl, K2.out⟩
end
end Go.Proofs.Ytaobioleodfafaa
