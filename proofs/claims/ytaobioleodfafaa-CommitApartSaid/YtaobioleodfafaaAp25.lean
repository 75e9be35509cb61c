/- Texts of this claim, merged: Dm, Dp, Dn. -/
import Derived.Test.YtaobioleodfafaaAp1
import Derived.Test.YtaobioleodfafaaAp2
import Derived.Test.YtaobioleodfafaaAp3
import Derived.Test.YtaobioleodfafaaAp4
import Derived.Test.YtaobioleodfafaaAp5
import Derived.Test.YtaobioleodfafaaAp6
import Derived.Test.YtaobioleodfafaaAp7
import Derived.Test.YtaobioleodfafaaAp8
import Derived.Test.YtaobioleodfafaaAp9
import Derived.Test.YtaobioleodfafaaAp10
import Derived.Test.YtaobioleodfafaaAp11
import Derived.Test.YtaobioleodfafaaAp12
import Derived.Test.YtaobioleodfafaaAp13
import Derived.Test.YtaobioleodfafaaAp14
import Derived.Test.YtaobioleodfafaaAp15
import Derived.Test.YtaobioleodfafaaAp16
import Derived.Test.YtaobioleodfafaaAp17
import Derived.Test.YtaobioleodfafaaAp18
import Derived.Test.YtaobioleodfafaaAp19
import Derived.Test.YtaobioleodfafaaAp20
import Derived.Test.YtaobioleodfafaaAp21
import Derived.Test.YtaobioleodfafaaAp22
import Derived.Test.YtaobioleodfafaaAp23
import Derived.Test.YtaobioleodfafaaAp24
/- The document: DocBegin. -/
namespace Go.Proofs.Ytaobioleodfafaa
open Go.RowKit
def begG (e : Int) (G : List (Tx × Rn)) (t : Tx) (ns : List Int) : List (Tx × Rn) := if e = 0 then G ++ [(t, rn0 ns)] else G
theorem infoRn : (Try.prog.info? 89).map (fun i => (i.zero, i.size, i.bytes)) = some (some (.agg #[.int .u8 0, .int .u32 0, .int .u32 0, .slice none 0 0, .slice none 0 0, .slice none 0 0, .int .i64 0]), 7, 96) := by kernel_rfl
theorem madeBool (m : Nat) : madeCells #[.bool false] m = (List.replicate m (.bool false)).toArray := by
  apply Array.ext_getElem?
  intro j
  by_cases hj : j < m
  · simp [madeCells, hj, Nat.mod_one]
  · simp [madeCells, hj]
theorem mkbool (W : World) (m : Nat) (hm : m ≤ 4) : (Instr.makeSlice 87 (.int .i64 m) (.int .i64 m)).run Try.prog W = .ok (.slice (some ⟨W.heap.size, 0, none⟩) m m) (W.alloc (.cells (List.replicate m (.bool false)).toArray 4)) := by
  have hi : (Try.prog.info? 4).map (fun i => (i.zero, i.size, i.bytes)) = some (some (.bool false), 1, 1) := by kernel_rfl
  obtain ⟨i, hi1, hi2, hi3, hi4⟩ := info_parts hi
  have h := run_makeSlice (P := Try.prog) W 87 4 i (.bool false) Try.underlying87 hi1 hi2 .i64 .i64 m m (by omega) (Int.le_refl _) (by rw [hi3]; simp; omega) (by rw [hi4]; omega) (by omega)
  rw [hi3] at h
  simp only [Int.toNat_natCast, Nat.mul_one] at h
  rw [← madeBool]
  exact h
theorem rn_src (w : World) (t1 t2 t3 : Int) (nb m c yb db : Nat) {b : Nat} (hb : w.heap.size = b) : Src (w.alloc (.cells #[.int .u8 t1, .int .u32 t2, .int .u32 t3, .slice (some ⟨nb, 0, none⟩) m c, .slice (some ⟨yb, 0, none⟩) m m, .slice (some ⟨db, 0, none⟩) m m, .int .i64 1] 89)) 7 (.slice (some ⟨b, 0, none⟩) 1 1) 1 [.int .u8 t1, .int .u32 t2, .int .u32 t3, .slice (some ⟨nb, 0, none⟩) m c, .slice (some ⟨yb, 0, none⟩) m m, .slice (some ⟨db, 0, none⟩) m m, .int .i64 1] := by
  subst hb
  exact src_row rfl (fun j u hu => by rw [row_cell (row_new w _)]; simpa using hu) (by simp [Value.oneCell'])
theorem beg_end {P : Nat → Prop} {own : Nat → Option Tx} {w w1 w2 w6 : World} {xb : Nat} {ra ta : Option Addr} {rc tc : Nat} {G : List (Tx × Rn)} {Z : Tx → Dx} {T : List (Tx × Int)} {t1 t2 t3 : Int} {ns : List Int} {nb m c' yb db n c6 : Nat} {a6 : Option Addr}
    (HD0 : Dk P w false (some ⟨xb, 0, none⟩) G T) (HP : ∀ i, i = xb ∨ (Value.slice ra G.length rc).ownBlock = some i ∨ (Value.slice ta T.length tc).ownBlock = some i ∨ own i ≠ none → P i) (HB : DBook own w1 xb ra ta rc tc G Z T)
    (k1 : Kept (fun _ => False) w w1) (k2 : Kept (fun _ => False) w1 w2) (ho : Own w2 5 1 (.slice (some ⟨nb, 0, none⟩) m c') m (bcells (rise ns 4))) (hnb : w1.heap.size ≤ nb) (hns : ns.length = m) (hro : rise ns 4 = ordered ns)
    (hyd : (yb = w2.heap.size ∧ db = w2.heap.size + 1) ∨ (yb = w2.heap.size + 1 ∧ db = w2.heap.size))
    (ho6 : Own w6 89 7 (.slice a6 (n + 1) c6) (n + 1) ((G.flatMap fun p => runC (Z p.1) p.1 p.2) ++ [.int .u8 t1, .int .u32 t2, .int .u32 t3, .slice (some ⟨nb, 0, none⟩) m c', .slice (some ⟨yb, 0, none⟩) m m, .slice (some ⟨db, 0, none⟩) m m, .int .i64 1]))
    (hk6 : Kept (fun k => (Value.slice ra n rc).ownBlock = some k) (((w2.drew.alloc (.cells (List.replicate m (.bool false)).toArray 4)).alloc (.cells (List.replicate m (.bool false)).toArray 4)).alloc (.cells #[.int .u8 t1, .int .u32 t2, .int .u32 t3, .slice (some ⟨nb, 0, none⟩) m c', .slice (some ⟨yb, 0, none⟩) m m, .slice (some ⟨db, 0, none⟩) m m, .int .i64 1] 89)) w6)
    (hf6 : ∀ g, (Value.slice a6 (n + 1) c6).ownBlock = some g → (Value.slice ra n rc).ownBlock = some g ∨ (((w2.drew.alloc (.cells (List.replicate m (.bool false)).toArray 4)).alloc (.cells (List.replicate m (.bool false)).toArray 4)).alloc (.cells #[.int .u8 t1, .int .u32 t2, .int .u32 t3, .slice (some ⟨nb, 0, none⟩) m c', .slice (some ⟨yb, 0, none⟩) m m, .slice (some ⟨db, 0, none⟩) m m, .int .i64 1] 89)).heap.size ≤ g)
    (hn : G.length = n) (hl : lookG G (t1, t2, t3) = none) :
    Dk (Gr P w (w6.setCell ⟨xb, 0, none⟩ (.slice a6 (n + 1) c6))) (w6.setCell ⟨xb, 0, none⟩ (.slice a6 (n + 1) c6)) false (some ⟨xb, 0, none⟩) (G ++ [((t1, t2, t3), rn0 ns)]) T ∧ Kept P w (w6.setCell ⟨xb, 0, none⟩ (.slice a6 (n + 1) c6)) := by
  subst hn
  have hB2 := HB.same k2
  have hxl := row_lt HB.obj
  have hs12 := k2.size
  have hs01 := k1.size
  have htw := two_new w2.drew (.cells (List.replicate m (.bool false)).toArray 4) (.cells (List.replicate m (.bool false)).toArray 4)
  have kA : Kept (fun _ => False) w2 (((w2.drew.alloc (.cells (List.replicate m (.bool false)).toArray 4)).alloc (.cells (List.replicate m (.bool false)).toArray 4)).alloc (.cells #[.int .u8 t1, .int .u32 t2, .int .u32 t3, .slice (some ⟨nb, 0, none⟩) m c', .slice (some ⟨yb, 0, none⟩) m m, .slice (some ⟨db, 0, none⟩) m m, .int .i64 1] 89)) := ((((Kept.refl _ w2).drew).alloc _).alloc _).alloc _
  have hy5 : ∀ b, b = w2.heap.size ∨ b = w2.heap.size + 1 → (((w2.drew.alloc (.cells (List.replicate m (.bool false)).toArray 4)).alloc (.cells (List.replicate m (.bool false)).toArray 4)).alloc (.cells #[.int .u8 t1, .int .u32 t2, .int .u32 t3, .slice (some ⟨nb, 0, none⟩) m c', .slice (some ⟨yb, 0, none⟩) m m, .slice (some ⟨db, 0, none⟩) m m, .int .i64 1] 89)).heap[b]? = some (.cells (List.replicate m (.bool false)).toArray 4 (0, 0)) := fun b hb => by
    rcases hb with rfl | rfl
    · exact row_old htw.1 _
    · exact row_old htw.2 _
  generalize (((w2.drew.alloc (.cells (List.replicate m (.bool false)).toArray 4)).alloc (.cells (List.replicate m (.bool false)).toArray 4)).alloc (.cells #[.int .u8 t1, .int .u32 t2, .int .u32 t3, .slice (some ⟨nb, 0, none⟩) m c', .slice (some ⟨yb, 0, none⟩) m m, .slice (some ⟨db, 0, none⟩) m m, .int .i64 1] 89)) = w5 at hk6 hf6 kA hy5
  have hs25 := kA.size
  have hrl : ∀ g, (Value.slice ra G.length rc).ownBlock = some g → g < w1.heap.size := fun g hg => HB.runs.lt hg
  have k26 : Kept (fun i => (Value.slice ra G.length rc).ownBlock = some i) w1 w6 := ((k2.trans kA).mono (fun _ _ h => h.elim)).trans hk6
  have kS : Kept (fun i => i = xb) w6 (w6.setCell ⟨xb, 0, none⟩ (.slice a6 (G.length + 1) c6)) := Kept.setCell (F := fun i => i = xb) (Kept.refl _ _) (p := ⟨xb, 0, none⟩) (.inl rfl) _
  have hobj6 : w6.heap[xb]? = some (.cells #[.slice ra G.length rc, .slice ta T.length tc] 41 (0, 0)) := (k26.block _ hxl (fun e => HB.runs.ne_block HB.obj (by decide) e)).trans HB.obj
  have kall : Kept (fun i => i = xb ∨ (Value.slice ra G.length rc).ownBlock = some i) w1 (w6.setCell ⟨xb, 0, none⟩ (.slice a6 (G.length + 1) c6)) := (k26.mono (fun _ _ h => .inr h)).trans (kS.mono (fun _ _ h => .inl h))
  have k57 : ∀ b o, w5.heap[b]? = some o → w1.heap.size ≤ b → (w6.setCell ⟨xb, 0, none⟩ (.slice a6 (G.length + 1) c6)).heap[b]? = some o := fun b o hb h1 => by
    have h6 := (hk6.block _ (row_lt hb) (fun e => by have := hrl b e; omega)).trans hb
    exact (kS.block _ (row_lt h6) (by omega)).trans h6
  have hd : yb = w2.heap.size ∨ yb = w2.heap.size + 1 := by omega
  have hd2 : db = w2.heap.size ∨ db = w2.heap.size + 1 := by omega
  obtain ⟨own', Z', hbk, how⟩ := HB.addR (d := ⟨nb, c', yb, db⟩) (t := (t1, t2, t3)) (r0 := rn0 ns) kall (row_set hobj6 0 _)
    (by
      have e : runC ⟨nb, c', yb, db⟩ (t1, t2, t3) (rn0 ns) = [.int .u8 t1, .int .u32 t2, .int .u32 t3, .slice (some ⟨nb, 0, none⟩) m c', .slice (some ⟨yb, 0, none⟩) m m, .slice (some ⟨db, 0, none⟩) m m, .int .i64 1] := by
        simp [runC, rn0, hns]
      rw [e]
      exact ho6.kept kS (fun g hg e => ho6.ne_block hobj6 (by decide) (e ▸ hg)))
    (fun g hg => (hf6 g hg).imp id (fun h => by omega))
    ⟨by
      show Own _ _ 1 (.slice (some ⟨nb, 0, none⟩) ns.length c') ns.length (bcells (ordered ns))
      rw [hns, ← hro]
      have h5 := ho.kept kA (fun _ _ => id)
      have h6 := h5.kept hk6 (fun g hg e => by simp [Value.ownBlock] at hg; subst hg; have := hrl _ e; omega)
      exact h6.kept kS (fun g hg e => by simp [Value.ownBlock] at hg; omega),
    by
      show _ = some (Obj.cells (boolL (rn0 ns) (rn0 ns).Y).toArray _ _)
      rw [boolL_rn0 ns (Y := (rn0 ns).Y) (fun _ => rfl), hns]
      exact k57 yb _ (hy5 _ hd) (by omega),
    by
      show _ = some (Obj.cells (boolL (rn0 ns) (rn0 ns).D).toArray _ _)
      rw [boolL_rn0 ns (Y := (rn0 ns).D) (fun _ => rfl), hns]
      exact k57 db _ (hy5 _ hd2) (by omega),
    ⟨.inl rfl, .inr (.inl rfl), .inr (.inr rfl)⟩, by show yb ≠ db; omega⟩
    ⟨hnb, by show _ ≤ yb; omega, by show _ ≤ db; omega⟩ hl
  have kP : Kept P w (w6.setCell ⟨xb, 0, none⟩ (.slice a6 (G.length + 1) c6)) := (k1.mono (fun _ _ h => h.elim)).trans (kall.mono (fun i _ h => HP i (h.elim .inl (fun h => .inr (.inl h)))))
  refine ⟨⟨Gr.lt HD0.lt kP.size, .inr ⟨rfl, own', xb, a6, ta, c6, tc, Z', rfl, hbk, ?_⟩⟩, kP⟩
  rintro i (h | h | h | h)
  · exact .inl (HP i (.inl h))
  · have h' : (Value.slice a6 (G.length + 1) c6).ownBlock = some i := (ob_eq _ _ _ _).trans h
    rcases hf6 i h' with h1 | h1
    · exact .inl (HP i (.inr (.inl h1)))
    · exact .inr ⟨by omega, Nat.lt_of_lt_of_le (ho6.lt h') kS.size⟩
  · exact .inl (HP i (.inr (.inr (.inl h))))
  · rcases how i h with h1 | h1
    · exact .inl (HP i (.inr (.inr (.inr h1))))
    · exact .inr ⟨by omega, h1.2⟩
set_option maxRecDepth 100000 in
set_option maxHeartbeats 1000000 in
theorem kdbegin_len {w : World} {xa : Option Addr} {t1 t2 t3 : Int} (a : Option Addr) (N c : Nat) (hN : N = 0 ∨ 4 < N) :
    Calls Try.prog 20 #[.pointer xa, .agg #[.int .u8 t1, .int .u32 t2, .int .u32 t3], .slice a N c] w fun e w' => e = .returned (.int .i64 1) ∧ Kept (fun _ => False) w w' := by
  have K1 := hid ((Kept.refl (fun _ => False) w).alloc (.cells #[.int .u8 t1, .int .u32 t2, .int .u32 t3] 28))
  go_enter Try.func20, Try.ntmps20
  rcases hN with rfl | hN
  · go_wp2
    go_ret
    exact ⟨rfl, K1.out⟩
  · have h1 : ¬ (N : Int) < 1 := by omega
    have h2 : (4 : Int) < (N : Int) := by omega
    go_wp2
    go_ret
    exact ⟨rfl, K1.out⟩
-- $1 $2 where the two lists of answers lie
set_option maxRecDepth 100000 in
set_option maxHeartbeats 2000000 in
theorem kdbegin_some {P : Nat → Prop} {w : World} {z : Bool} {xa : Option Addr} {G : List (Tx × Rn)} {T : List (Tx × Int)} {t1 t2 t3 : Int} (hd : Dk P w z xa G T) (hz : G.length ≤ 100000) {F : Nat → Prop} {a : Option Addr} {N c : Nat} {ns : List Int} (hl : Lies F w 1 (.slice a N c) N (bcells ns)) (hr : ∀ v ∈ ns, 0 ≤ v ∧ v ≤ 255) (h1N : 1 ≤ N) (hN4 : N ≤ 4) :
    Calls Try.prog 20 #[.pointer xa, .agg #[.int .u8 t1, .int .u32 t2, .int .u32 t3], .slice a N c] w fun e w' => e = .returned (.int .i64 (begZ z ns (lookG G (t1, t2, t3)).isSome)) ∧
      Dk (Gr P w w') w' z xa (begG (begZ z ns (lookG G (t1, t2, t3)).isSome) G (t1, t2, t3) ns) T ∧ Kept P w w' := by
  have HD0 := hid hd
  have hk1 := (Kept.refl (fun _ => False) w).alloc (.cells #[.int .u8 t1, .int .u32 t2, .int .u32 t3] 28)
  have hkb := row_new w (.cells #[.int .u8 t1, .int .u32 t2, .int .u32 t3] 28)
  obtain ⟨w1, hw1⟩ : ∃ w1, w.alloc (.cells #[.int .u8 t1, .int .u32 t2, .int .u32 t3] 28) = w1 := ⟨_, rfl⟩
  obtain ⟨kb, hkb'⟩ : ∃ kb, w.heap.size = kb := ⟨_, rfl⟩
  rw [hw1] at hk1 hkb
  rw [hkb'] at hkb
  have HD := hid (hd.same hk1); have HK := hid hkb; have K1 := hid hk1
  obtain ⟨d0, d1, d2⟩ := cells3 HK.out
  clear hd hkb hk1
  have hlen : ns.length = N := by have := hl.len; simpa using this
  have HNS := hid hlen
  have HL := hid (hl.same K1.out)
  have HR := hid hr
  obtain ⟨gs, os, cs, e1, q3, q4, _, hg, zc⟩ := HL.out.cell (by omega)
  simp only [Value.slice.injEq] at e1
  obtain ⟨rfl, _, rfl⟩ := e1
  have ZC := hid (fun (k : Nat) (v : Int) (hv : ns[k]? = some v) => show w1.cell? ⟨gs, os + k, none⟩ = some (.int .u8 v) from zc k _ (by simp [bcells, hv]))
  unfold maxLen at q4
  clear hl hlen hr zc hg
  have q1 : ¬ (N : Int) < 1 := by omega
  have q2 : ¬ (4 : Int) < (N : Int) := by omega
  go_enter Try.func20, Try.ntmps20
  go_wp2_with fail
  try rw [hw1, hkb']
  clear hw1 hkb' d0 d1 d2
  go_loopw [7, 8] (fun o v wr => ∃ (j m : Nat) (a' : Option Addr) (c' : Nat), j ≤ 4 ∧ v = .int .u8 j ∧ o = .slice a' m c' ∧ (rise ns j).length = m ∧ Own wr 5 1 (.slice a' m c') m (bcells (rise ns j)) ∧ (∀ g, (Value.slice a' m c').ownBlock = some g → w1.heap.size ≤ g) ∧ Kept (fun _ => False) w1 wr) (fun _ v _ => 4 - (RowKit.intOf v).toNat)
  case atStart => exact ⟨0, 0, none, 0, by omega, rfl, rfl, rfl, Own.nil _ _ _, fun g hg => by simp [Value.ownBlock] at hg, Kept.refl _ _⟩
  case round =>
    rename World => wo
    obtain ⟨j, m, a', c', hj, rfl, rfl, hm, hown, hbl, hkp⟩ := hrel
    have HM := hid hm; have HO := hid hown; have HBL := hid hbl; have KO := hid hkp
    clear hm hown hbl hkp
    by_cases hj4 : j < 4
    · have hjI : (j : Int) < 4 := by omega
      have hm4 : m ≤ 4 := by have := HM.out; have := rise_len ns j hj; omega
      go_wp2_with fail
      go_loopw [7, 27] (fun o i wr => ∃ k : Nat, k ≤ N ∧ o = .slice a' m c' ∧ i = .int .i64 k ∧ wo = wr ∧ ∀ p v, p < k → ns[p]? = some v → v ≠ (j : Int)) (fun _ i _ => N - (RowKit.intOf i).toNat)
      case atStart => exact ⟨0, Nat.zero_le _, rfl, rfl, rfl, fun p v h => absurd h (Nat.not_lt_zero _)⟩
      case round =>
        obtain ⟨k, hk, rfl, rfl, rfl, hp⟩ := hrel
        have HP := hid hp
        clear hp
        by_cases hlt : k < N
        · have hltI : (k : Int) < (N : Int) := by omega
          obtain ⟨v, hv⟩ : ∃ v, ns[k]? = some v := ⟨_, List.getElem?_eq_getElem (by rw [HNS.out]; exact hlt)⟩
          have cv := KO.out.cell (ZC.out k v hv) id
          have HV := hid hv
          clear hv
          obtain ⟨b, hb⟩ : ∃ b, (v == (j : Int)) = b := ⟨_, rfl⟩
          have HBQ := hid hb
          cases b with
          | true =>
            have HRS := hid (show rise ns (j + 1) = rise ns j ++ [(j : Int)] by
              have hvj : v = (j : Int) := by simpa using HBQ.out
              rw [rise_succ ns j hj4, if_pos (by rw [← hvj]; exact List.mem_of_getElem? HV.out)])
            go_wp2_with (at_builtin; refine wpList_app rfl _ _ 22 rfl 5 _ 1 1 Try.underlying22 infoB2 rfl (by decide) _ m _ rfl (by exact HO.out.alloc _) _ rfl 1 _ (byte_src2 _ (j : Int) (by simp)) (by unfold maxLen; omega) (by omega) ?_; intro a6 c6 w6 ho3 hk3 hf3 _; have HA3 := hid ho3; have HK3 := hid hk3; have HF3 := hid hf3; clear ho3 hk3 hf3)
            go_roundw
            case rel =>
              exact ⟨j + 1, m + 1, a6, c6, by omega, by go_num, rfl, by rw [HRS.out, List.length_append, HM.out]; rfl, by rw [HRS.out]; simp only [bcells, List.map_append]; exact HA3.out, fun g hg => (HF3.out g hg).elim (fun h => HBL.out g h) (fun h => by simp at h; have := KO.out.size; omega), (KO.out.alloc _).trans' HK3.out (fun i hi => .inr (HBL.out i hi))⟩
            case measure => (simp only [RowKit.intOf]; omega)
          | false =>
            have HVJ := hid (show v ≠ (j : Int) by simpa using HBQ.out)
            go_wp2
            go_roundw
            case rel => exact ⟨k + 1, by omega, rfl, by go_num, (by first | rfl | trivial), fun p u hp hu => by
              rcases Nat.lt_succ_iff_lt_or_eq.1 hp with h1 | rfl
              · exact HP.out p u h1 hu
              · rw [HV.out] at hu; cases hu; exact HVJ.out⟩
            case measure => (simp only [RowKit.intOf]; omega)
        · obtain rfl : k = N := by omega
          have HRS := hid (show rise ns (j + 1) = rise ns j by
            rw [rise_succ ns j hj4, if_neg, List.append_nil]
            intro hmem
            obtain ⟨p, hp⟩ := List.getElem?_of_mem hmem
            exact HP.out p _ (by have := (List.getElem?_eq_some_iff.1 hp).1; rw [HNS.out] at this; exact this) hp rfl)
          go_wp2
          go_roundw
          case rel => exact ⟨j + 1, m, a', c', by omega, by go_num, rfl, by rw [HRS.out]; exact HM.out, by rw [HRS.out]; exact HO.out, HBL.out, KO.out⟩
          case measure => (simp only [RowKit.intOf]; omega)
    · obtain rfl : j = 4 := by omega
      have hm4 : m ≤ 4 := by have := HM.out; have := rise_len ns 4 hj; omega
      clear hj hj4
      go_wp2_with fail
      go_loopw [41] (fun i wr => ∃ k : Nat, k ≤ N ∧ i = .int .i64 k ∧ wo = wr ∧ ∀ p v, p < k → ns[p]? = some v → ¬ 4 ≤ v) (fun i _ => N - (RowKit.intOf i).toNat)
      case atStart => exact ⟨0, Nat.zero_le _, rfl, rfl, fun p v h => absurd h (Nat.not_lt_zero _)⟩
      case round =>
        obtain ⟨k, hk, rfl, rfl, hp⟩ := hrel
        have HP := hid hp
        clear hp
        by_cases hlt : k < N
        · have hltI : (k : Int) < (N : Int) := by omega
          obtain ⟨v, hv⟩ : ∃ v, ns[k]? = some v := ⟨_, List.getElem?_eq_getElem (by rw [HNS.out]; exact hlt)⟩
          have cv := KO.out.cell (ZC.out k v hv) id
          have HV := hid hv
          clear hv
          by_cases hv4 : 4 ≤ v
          · have hge : (3 : Int) < v := by omega
            have HB1 := hid (show begZ z ns (lookG G (t1, t2, t3)).isSome = 1 by
              unfold begZ
              rw [if_neg (by rw [HNS.out]; omega), if_pos (List.any_eq_true.2 ⟨v, List.mem_of_getElem? HV.out, by simpa using hv4⟩)])
            clear hv4
            go_wp2
            go_ret
            rw [HB1.out]
            exact ⟨rfl, HD0.out.gr (K1.out.trans KO.out), (K1.out.trans KO.out).mono (fun _ _ h => h.elim)⟩
          · have hge : ¬ (3 : Int) < v := by omega
            have HV4 := hid hv4
            clear hv4
            go_wp2
            go_roundw
            case rel => exact ⟨k + 1, by omega, by go_num, (by first | rfl | trivial), fun p u hp hu => by
              rcases Nat.lt_succ_iff_lt_or_eq.1 hp with h1 | rfl
              · exact HP.out p u h1 hu
              · rw [HV.out] at hu; cases hu; exact HV4.out⟩
            case measure => (simp only [RowKit.intOf]; omega)
        · obtain rfl : k = N := by omega
          have HALL := hid (show ∀ v ∈ ns, ¬ 4 ≤ v from fun v hv => by
            obtain ⟨p, hp⟩ := List.getElem?_of_mem hv
            exact HP.out p v (by have := (List.getElem?_eq_some_iff.1 hp).1; rw [HNS.out] at this; exact this) hp)
          have HDL := hid (show (ded ns).length = m by rw [← rise_ded HR.out HALL.out]; exact HM.out)
          have HBZ := hid (show begZ z ns (lookG G (t1, t2, t3)).isSome = if m < k then 3 else if z then 6 else if (lookG G (t1, t2, t3)).isSome then 7 else 0 by
            unfold begZ
            rw [if_neg (by rw [HNS.out]; omega), if_neg, HDL.out, HNS.out]
            intro h
            obtain ⟨v, hv, h4⟩ := List.any_eq_true.1 h
            exact HALL.out v hv (by simpa using h4))
          have HDO := hid (HD0.out.gr (K1.out.trans KO.out))
          have KOO := hid (show Kept P w wo from (K1.out.trans KO.out).mono (fun _ _ h => h.elim))
          by_cases hmk : m < k
          · have hmkI : (m : Int) < (k : Int) := by omega
            have HB1 := hid (show begZ z ns (lookG G (t1, t2, t3)).isSome = 3 by rw [HBZ.out, if_pos hmk])
            clear hmk
            go_wp2
            go_ret
            rw [HB1.out]
            exact ⟨rfl, HDO.out, KOO.out⟩
          · have hmkI : ¬ (m : Int) < (k : Int) := by omega
            have HBZ2 := hid (show begZ z ns (lookG G (t1, t2, t3)).isSome = if z then 6 else if (lookG G (t1, t2, t3)).isSome then 7 else 0 by rw [HBZ.out, if_neg hmk])
            have HND := hid (show ns.Nodup by
              obtain ⟨h1, h2, -, h4⟩ := ded_all ns
              rw [HDL.out, HNS.out] at h2 h4
              rw [← h4 (by omega)]
              exact h1)
            have HMK := hid (show m = k by have h2 := (ded_all ns).2.1; rw [HDL.out, HNS.out] at h2; omega)
            clear hmk
            rcases HD0.out.bk with ⟨rfl, rfl, rfl, rfl⟩ | ⟨rfl, own, xb, ra, ta, rc, tc, Z, rfl, h, hP⟩
            · go_wp2
              go_ret
              rw [HBZ2.out]
              exact ⟨rfl, HDO.out, KOO.out⟩
            · have HB0 := hid h
              have HPP := hid hP
              have HKO := hid ((KO.out.block _ (row_lt HK.out) id).trans HK.out)
              obtain ⟨d0, d1, d2⟩ := cells3 HKO.out
              have hdr := kdrun (t1 := t1) (t2 := t2) (t3 := t3) (HD.out.same KO.out) (Nat.le_trans hz (by decide))
              have HDR := hid hdr
              clear h hP hdr
              go_wp2_with fail
              refine HDR.out.mono ?_
              rintro e w2 ⟨⟨i, rfl, hi⟩, hk2⟩
              have K2 := hid ((K1.out.trans KO.out).trans hk2)
              have KO2 := hid (KO.out.trans hk2)
              have HB2 := hid (HB0.out.same K2.out)
              have HK2 := hid ((hk2.block _ (row_lt HKO.out) id).trans HKO.out)
              have HO2 := hid (HO.out.same hk2)
              clear hk2 d0 d1 d2
              rcases hi with ⟨hl, rfl⟩ | ⟨r, k0, hl, rfl, hgk⟩
              · have HLG := hid hl
                have HB1 := hid (show begZ false ns (lookG G (t1, t2, t3)).isSome = 0 by rw [HBZ2.out, hl]; rfl)
                obtain ⟨d0, d1, d2⟩ := cells3 HK2.out
                obtain ⟨c0, -⟩ := HB2.out.cells
                clear hl
                go_wp2_with fail
                obtain ⟨nb, ncc, hna, _, _⟩ := HO2.out.some_of_pos (by have := HMK.out; omega)
                simp only [Value.slice.injEq] at hna
                obtain ⟨rfl, -, rfl⟩ := hna
                obtain ⟨n, hn⟩ : ∃ n, G.length = n := ⟨_, rfl⟩
                rw [hn] at c0 hz
                have HN := hid hn
                clear hn
                have HNM := hid (show ns.length = m by rw [HNS.out, HMK.out])
                have HRO := hid (rise_ordered HR.out (fun v hv => by have := HALL.out v hv; omega) HND.out)
                have HRN := hid (show Own w2 89 7 (.slice ra n rc) n (G.flatMap fun p => runC (Z p.1) p.1 p.2) from by rw [← HN.out]; exact HB2.out.runs)
                have HNX := hid (show ¬ (Value.slice ra n rc).ownBlock = some xb from HRN.out.ne_block HB2.out.obj (by decide))
                have HNK := hid (show ¬ (Value.slice ra n rc).ownBlock = some kb from HRN.out.ne_block HK2.out (by decide))
                have hmake := fun W => mkbool W m hm4
                have HSS := hid (fun W (k : Kept (fun _ => False) w2 W) => show (fun w' : World => w'.cell? ⟨xb, 0, none⟩ = some (.slice ra n rc) ∧ w'.cell? ⟨kb, 0, none⟩ = some (.int .u8 t1) ∧ w'.cell? ⟨kb, 1, none⟩ = some (.int .u32 t2) ∧ w'.cell? ⟨kb, 2, none⟩ = some (.int .u32 t3)) W from ⟨k.cell c0 id, k.cell d0 id, k.cell d1 id, k.cell d2 id⟩)
                refine wp_region_till (fun w' : World => w'.cell? ⟨xb, 0, none⟩ = some (.slice ra n rc) ∧ w'.cell? ⟨kb, 0, none⟩ = some (.int .u8 t1) ∧ w'.cell? ⟨kb, 1, none⟩ = some (.int .u32 t2) ∧ w'.cell? ⟨kb, 2, none⟩ = some (.int .u32 t3)) 18 (by kernel_rfl) (by exact ⟨c0, d0, d1, d2⟩) (fun hHeld => ?_)
                refine till_pure 0 (some 59) (v := ?v01) (by decide) rfl (by kernel_rfl) (by kernel_rfl) (by kernel_rfl) (by kernel_rfl) (by decide) (fun _ _ _ h => h) (Or.inl ⟨by rfl, ?y01⟩) (by assumption) ?r01
                case y01 => (intro w hSw; clear hSw; go_simp; (try with_reducible rfl))
                simp only [Act.put, List.setIfInBounds_toArray, List.set_cons_zero, List.set_cons_succ]
                refine till_pure 1 (some 60) (v := ?v02) (by decide) rfl (by kernel_rfl) (by kernel_rfl) (by kernel_rfl) (by kernel_rfl) (by decide) (fun _ _ _ h => h) (Or.inl ⟨by rfl, ?y02⟩) (by assumption) ?r02
                case y02 => (intro w hSw; clear hSw; go_simp; (try with_reducible rfl))
                simp only [Act.put, List.setIfInBounds_toArray, List.set_cons_zero, List.set_cons_succ]
                refine till_pure 2 (some 61) (v := ?v03) (by decide) rfl (by kernel_rfl) (by kernel_rfl) (by kernel_rfl) (by kernel_rfl) (by decide) (fun _ _ _ h => h) (Or.inl ⟨by rfl, ?y03⟩) (by assumption) ?r03
                case y03 => (intro w hSw; clear hSw; go_simp; (try with_reducible rfl))
                simp only [Act.put, List.setIfInBounds_toArray, List.set_cons_zero, List.set_cons_succ]
                refine till_pure 3 (some 62) (v := ?v04) (by decide) rfl (by kernel_rfl) (by kernel_rfl) (by kernel_rfl) (by kernel_rfl) (by decide) (fun _ _ _ h => h) (Or.inl ⟨by rfl, ?y04⟩) (by assumption) ?r04
                case y04 => (intro w hSw; clear hSw; go_simp; (try with_reducible rfl))
                simp only [Act.put, List.setIfInBounds_toArray, List.set_cons_zero, List.set_cons_succ]
                refine till_load 4 (some 63) [15] (v := ?v05) (by decide) rfl (by kernel_rfl) (by kernel_rfl) (by kernel_rfl) (by kernel_rfl) (by kernel_rfl) (by decide) (by decide) (fun _ _ _ h => h) (Or.inl ⟨by rfl, ?y05⟩) (by assumption) ?r05
                case y05 => (intro w hSw; (try dsimp only at hSw); go_simp; (try with_reducible rfl))
                simp only [Act.put, List.setIfInBounds_toArray, List.set_cons_zero, List.set_cons_succ]
                refine till_load 5 (some 64) [15, 14, 13] (v := ?v06) (by decide) rfl (by kernel_rfl) (by kernel_rfl) (by kernel_rfl) (by kernel_rfl) (by kernel_rfl) (by decide) (by decide) (fun _ _ _ h => h) (Or.inl ⟨by rfl, ?y06⟩) (by assumption) ?r06
                case y06 => (intro w hSw; (try dsimp only at hSw); go_simp; (try with_reducible rfl))
                simp only [Act.put, List.setIfInBounds_toArray, List.set_cons_zero, List.set_cons_succ]
                refine till_pure 6 (some 65) (v := ?v07) (by decide) rfl (by kernel_rfl) (by kernel_rfl) (by kernel_rfl) (by kernel_rfl) (by decide) (fun _ _ _ h => h) (Or.inl ⟨by rfl, ?y07⟩) (by assumption) ?r07
                case y07 => (intro w hSw; clear hSw; go_simp; (try with_reducible rfl))
                simp only [Act.put, List.setIfInBounds_toArray, List.set_cons_zero, List.set_cons_succ]
                refine till_pure 7 (some 66) (v := ?v08) (by decide) rfl (by kernel_rfl) (by kernel_rfl) (by kernel_rfl) (by kernel_rfl) (by decide) (fun _ _ _ h => h) (Or.inl ⟨by rfl, ?y08⟩) (by assumption) ?r08
                case y08 => (intro w hSw; clear hSw; go_simp; (try with_reducible rfl))
                simp only [Act.put, List.setIfInBounds_toArray, List.set_cons_zero, List.set_cons_succ]
                refine till_pure 8 (some 67) (v := ?v09) (by decide) rfl (by kernel_rfl) (by kernel_rfl) (by kernel_rfl) (by kernel_rfl) (by decide) (fun _ _ _ h => h) (Or.inl ⟨by rfl, ?y09⟩) (by assumption) ?r09
                case y09 => (intro w hSw; clear hSw; go_simp; (try with_reducible rfl))
                simp only [Act.put, List.setIfInBounds_toArray, List.set_cons_zero, List.set_cons_succ]
                refine till_pure 10 (some 69) (v := ?v10) (by decide) rfl (by kernel_rfl) (by kernel_rfl) (by kernel_rfl) (by kernel_rfl) (by decide) (fun _ _ _ h => h) (Or.inl ⟨by rfl, ?y10⟩) (by assumption) ?r10
                case y10 => (intro w hSw; clear hSw; go_simp; (try with_reducible rfl))
                simp only [Act.put, List.setIfInBounds_toArray, List.set_cons_zero, List.set_cons_succ]
                refine till_pure 11 (some 70) (v := ?v11) (by decide) rfl (by kernel_rfl) (by kernel_rfl) (by kernel_rfl) (by kernel_rfl) (by decide) (fun _ _ _ h => h) (Or.inl ⟨by rfl, ?y11⟩) (by assumption) ?r11
                case y11 => (intro w hSw; clear hSw; go_simp; (try with_reducible rfl))
                simp only [Act.put, List.setIfInBounds_toArray, List.set_cons_zero, List.set_cons_succ]
                refine till_call2 9 12 (by kernel_rfl) rfl rfl (fun K hK => ?_) (fun K hK => ?_)
                · go_simp
                  try dsimp only []
                  refine hK.out _ _ (by exact HSS.out _ (((Kept.refl _ _).drew).alloc _)) (fun hHeld => ?_)
                  clear hK K
                  try simp only [Act.put, List.setIfInBounds_toArray, List.set_cons_zero, List.set_cons_succ]
                  refine till_call 12 (by kernel_rfl) rfl (fun K hK => ?_)
                  go_simp
                  try dsimp only []
                  refine hK.out _ _ (by exact HSS.out _ ((((Kept.refl _ _).drew).alloc _).alloc _)) (fun hHeld => ?_)
                  clear hK K
                  try simp only [Act.put, List.setIfInBounds_toArray, List.set_cons_zero, List.set_cons_succ]
                  refine till_call 13 (by kernel_rfl) rfl (fun K hK => ?_)
                  go_simp
                  try dsimp only []
                  refine hK.out _ _ (by exact hHeld) (fun hHeld => ?_)
                  clear hK K
                  try simp only [Act.put, List.setIfInBounds_toArray, List.set_cons_zero, List.set_cons_succ]
                  refine till_call 14 (by kernel_rfl) rfl (fun K hK => ?_)
                  go_simp
                  have hS5 := HSS.out _ (((((Kept.refl _ w2).drew).alloc (.cells (List.replicate m (.bool false)).toArray 4)).alloc (.cells (List.replicate m (.bool false)).toArray 4)).alloc (.cells #[.int .u8 t1, .int .u32 t2, .int .u32 t3, .slice (some ⟨nb, 0, none⟩) m c', .slice (some ⟨w2.heap.size, 0, none⟩) m m, .slice (some ⟨(w2.heap.size + 1), 0, none⟩) m m, .int .i64 1] 89))
                  try dsimp only []
                  refine hK.out _ _ (by exact hS5) (fun hHeld => ?_)
                  clear hK K
                  try simp only [Act.put, List.setIfInBounds_toArray, List.set_cons_zero, List.set_cons_succ]
                  refine till_call 15 (by kernel_rfl) rfl (fun K hK => ?_)
                  refine step_appd (some 74) rfl (by rfl) (.tmp 63) (.tmp 73) 38 rfl 89 (.agg #[.int .u8 0, .int .u32 0, .int .u32 0, .slice none 0 0, .slice none 0 0, .slice none 0 0, .int .i64 0]) 7 96 Try.underlying38 infoRn rfl (by decide) (.slice ra n rc) n _ rfl (by exact (((HRN.out.drew.alloc _).alloc _).alloc _)) _ rfl 1 _ (by exact rn_src _ t1 t2 t3 nb m c' w2.heap.size (w2.heap.size + 1) (by simp)) (by unfold maxLen; omega) (by omega) ?_
                  intro a6 c6 w6 ho6 hk6 hf6 _
                  simp only [Act.put, List.setIfInBounds_toArray, List.set_cons_zero, List.set_cons_succ]
                  have hS6 : w6.cell? ⟨xb, 0, none⟩ = some (.slice ra n rc) ∧ w6.cell? ⟨kb, 0, none⟩ = some (.int .u8 t1) ∧ w6.cell? ⟨kb, 1, none⟩ = some (.int .u32 t2) ∧ w6.cell? ⟨kb, 2, none⟩ = some (.int .u32 t3) := ⟨hk6.cell hS5.1 HNX.out, hk6.cell hS5.2.1 HNK.out, hk6.cell hS5.2.2.1 HNK.out, hk6.cell hS5.2.2.2 HNK.out⟩
                  try dsimp only []
                  refine hK.out _ _ (by exact hS6) (fun hHeld => ?_)
                  clear hK K
                  try simp only [Act.put, List.setIfInBounds_toArray, List.set_cons_zero, List.set_cons_succ]
                  refine till_pure 16 (some 75) (v := ?v101) (by decide) rfl (by kernel_rfl) (by kernel_rfl) (by kernel_rfl) (by kernel_rfl) (by decide) (fun _ _ _ h => h) (Or.inl ⟨by rfl, ?y101⟩) (by assumption) ?r101
                  case y101 => (intro w hSw; clear hSw; go_simp; (try with_reducible rfl))
                  simp only [Act.put, List.setIfInBounds_toArray, List.set_cons_zero, List.set_cons_succ]
                  refine till_pure 17 (some 76) (v := ?v102) (by decide) rfl (by kernel_rfl) (by kernel_rfl) (by kernel_rfl) (by kernel_rfl) (by decide) (fun _ _ _ h => h) (Or.inl ⟨by rfl, ?y102⟩) (by assumption) ?r102
                  case y102 => (intro w hSw; clear hSw; go_simp; (try with_reducible rfl))
                  simp only [Act.put, List.setIfInBounds_toArray, List.set_cons_zero, List.set_cons_succ]
                  have f6 : w6.frozen? ⟨xb, 0, none⟩ = false := row_free ((hk6.block _ (row_lt (row_old (row_old (row_old HB2.out.obj _) _) _)) HNX.out).trans (row_old (row_old (row_old HB2.out.obj _) _) _)) 0
                  have FIN := hid (beg_end HD0.out HPP.out (HB0.out.same K1.out) K1.out KO2.out HO2.out (HBL.out nb rfl) HNM.out HRO.out (.inl ⟨rfl, rfl⟩) ho6 hk6 hf6 HN.out HLG.out)
                  have e6 := hHeld.1
                  clear ho6 hk6 hf6 hS5 hS6
                  refine till_list [] (by kernel_rfl) (by kernel_rfl) (by decide) (by decide) ?_
                  simp only [pickOps, List.getElem?_toArray, List.getElem?_cons_zero, List.getElem?_cons_succ]
                  go_wp2
                  go_ret
                  rw [HB1.out]
                  exact ⟨rfl, FIN.out.1, FIN.out.2⟩
                · go_simp
                  try dsimp only []
                  refine hK.out _ _ (by exact HSS.out _ (((Kept.refl _ _).drew).alloc _)) (fun hHeld => ?_)
                  clear hK K
                  try simp only [Act.put, List.setIfInBounds_toArray, List.set_cons_zero, List.set_cons_succ]
                  refine till_call 9 (by kernel_rfl) rfl (fun K hK => ?_)
                  go_simp
                  try dsimp only []
                  refine hK.out _ _ (by exact HSS.out _ ((((Kept.refl _ _).drew).alloc _).alloc _)) (fun hHeld => ?_)
                  clear hK K
                  try simp only [Act.put, List.setIfInBounds_toArray, List.set_cons_zero, List.set_cons_succ]
                  refine till_call 13 (by kernel_rfl) rfl (fun K hK => ?_)
                  go_simp
                  try dsimp only []
                  refine hK.out _ _ (by exact hHeld) (fun hHeld => ?_)
                  clear hK K
                  try simp only [Act.put, List.setIfInBounds_toArray, List.set_cons_zero, List.set_cons_succ]
                  refine till_call 14 (by kernel_rfl) rfl (fun K hK => ?_)
                  go_simp
                  have hS5 := HSS.out _ (((((Kept.refl _ w2).drew).alloc (.cells (List.replicate m (.bool false)).toArray 4)).alloc (.cells (List.replicate m (.bool false)).toArray 4)).alloc (.cells #[.int .u8 t1, .int .u32 t2, .int .u32 t3, .slice (some ⟨nb, 0, none⟩) m c', .slice (some ⟨(w2.heap.size + 1), 0, none⟩) m m, .slice (some ⟨w2.heap.size, 0, none⟩) m m, .int .i64 1] 89))
                  try dsimp only []
                  refine hK.out _ _ (by exact hS5) (fun hHeld => ?_)
                  clear hK K
                  try simp only [Act.put, List.setIfInBounds_toArray, List.set_cons_zero, List.set_cons_succ]
                  refine till_call 15 (by kernel_rfl) rfl (fun K hK => ?_)
                  refine step_appd (some 74) rfl (by rfl) (.tmp 63) (.tmp 73) 38 rfl 89 (.agg #[.int .u8 0, .int .u32 0, .int .u32 0, .slice none 0 0, .slice none 0 0, .slice none 0 0, .int .i64 0]) 7 96 Try.underlying38 infoRn rfl (by decide) (.slice ra n rc) n _ rfl (by exact (((HRN.out.drew.alloc _).alloc _).alloc _)) _ rfl 1 _ (by exact rn_src _ t1 t2 t3 nb m c' (w2.heap.size + 1) w2.heap.size (by simp)) (by unfold maxLen; omega) (by omega) ?_
                  intro a6 c6 w6 ho6 hk6 hf6 _
                  simp only [Act.put, List.setIfInBounds_toArray, List.set_cons_zero, List.set_cons_succ]
                  have hS6 : w6.cell? ⟨xb, 0, none⟩ = some (.slice ra n rc) ∧ w6.cell? ⟨kb, 0, none⟩ = some (.int .u8 t1) ∧ w6.cell? ⟨kb, 1, none⟩ = some (.int .u32 t2) ∧ w6.cell? ⟨kb, 2, none⟩ = some (.int .u32 t3) := ⟨hk6.cell hS5.1 HNX.out, hk6.cell hS5.2.1 HNK.out, hk6.cell hS5.2.2.1 HNK.out, hk6.cell hS5.2.2.2 HNK.out⟩
                  try dsimp only []
                  refine hK.out _ _ (by exact hS6) (fun hHeld => ?_)
                  clear hK K
                  try simp only [Act.put, List.setIfInBounds_toArray, List.set_cons_zero, List.set_cons_succ]
                  refine till_pure 16 (some 75) (v := ?v103) (by decide) rfl (by kernel_rfl) (by kernel_rfl) (by kernel_rfl) (by kernel_rfl) (by decide) (fun _ _ _ h => h) (Or.inl ⟨by rfl, ?y103⟩) (by assumption) ?r103
                  case y103 => (intro w hSw; clear hSw; go_simp; (try with_reducible rfl))
                  simp only [Act.put, List.setIfInBounds_toArray, List.set_cons_zero, List.set_cons_succ]
                  refine till_pure 17 (some 76) (v := ?v104) (by decide) rfl (by kernel_rfl) (by kernel_rfl) (by kernel_rfl) (by kernel_rfl) (by decide) (fun _ _ _ h => h) (Or.inl ⟨by rfl, ?y104⟩) (by assumption) ?r104
                  case y104 => (intro w hSw; clear hSw; go_simp; (try with_reducible rfl))
                  simp only [Act.put, List.setIfInBounds_toArray, List.set_cons_zero, List.set_cons_succ]
                  have f6 : w6.frozen? ⟨xb, 0, none⟩ = false := row_free ((hk6.block _ (row_lt (row_old (row_old (row_old HB2.out.obj _) _) _)) HNX.out).trans (row_old (row_old (row_old HB2.out.obj _) _) _)) 0
                  have FIN := hid (beg_end HD0.out HPP.out (HB0.out.same K1.out) K1.out KO2.out HO2.out (HBL.out nb rfl) HNM.out HRO.out (.inr ⟨rfl, rfl⟩) ho6 hk6 hf6 HN.out HLG.out)
                  have e6 := hHeld.1
                  clear ho6 hk6 hf6 hS5 hS6
                  refine till_list [] (by kernel_rfl) (by kernel_rfl) (by decide) (by decide) ?_
                  simp only [pickOps, List.getElem?_toArray, List.getElem?_cons_zero, List.getElem?_cons_succ]
                  go_wp2
                  go_ret
                  rw [HB1.out]
                  exact ⟨rfl, FIN.out.1, FIN.out.2⟩
              · have HB1 := hid (show begZ false ns (lookG G (t1, t2, t3)).isSome = 7 by rw [HBZ2.out, hl]; rfl)
                have h0 : (k0 : Int) ≥ 0 := by omega
                clear hl hgk
                go_wp2
                go_ret
                rw [HB1.out]
                exact ⟨rfl, HD0.out.gr K2.out, K2.out.mono (fun _ _ h => h.elim)⟩
end Go.Proofs.Ytaobioleodfafaa
/- Doubt, nil or not. -/
namespace Go.Proofs.Ytaobioleodfafaa
open Go.RowKit
theorem ndoubt (w : World) : Calls Try.prog 30 #[.pointer none] w fun e w' => e = .returned (.slice none 0 0) ∧ Kept (fun _ => False) w w' := by
  have K1 := hid (Kept.refl (fun _ => False) w)
  go_enter Try.func30, Try.ntmps30
  go_wp2_with fail
  go_ret
  exact ⟨rfl, K1.out⟩
theorem bdoubt {P : Nat → Prop} {w : World} {z : Bool} {ba : Option Addr} {G : List (Tx × Rn)} {K : List (Tx × Int)} (hb : Bk P w z ba G K) (hK : K.length ≤ 1000000) :
    Calls Try.prog 30 #[.pointer ba] w fun e w' => ∃ (a : Option Addr) (n c : Nat) (D : List Tx), e = .returned (.slice a n c) ∧ SlT w.heap.size w' a n c D ∧ D.Perm (heldL K) ∧ D.Pairwise (fun x y => ¬ ltT y x) ∧ Kept (fun _ => False) w w' := by
  obtain ⟨hlt, h⟩ := hb
  rcases h with ⟨rfl, rfl, rfl, rfl⟩ | ⟨rfl, own, B, bb, m1, m2, A, rfl, hb, hP⟩
  · refine (ndoubt w).mono ?_
    rintro e w' ⟨rfl, hk⟩
    exact ⟨none, 0, 0, [], rfl, ⟨rfl, Nat.le_refl _, by decide, .inl ⟨rfl, rfl, rfl⟩⟩, List.Perm.refl _, List.Pairwise.nil, hk⟩
  · exact gdoubt_any hb hK
/-! ### plain: a sorted list is one -/
theorem sortT_unique : ∀ {a b : List Tx}, a.Pairwise (fun x y => ¬ ltT y x) → b.Pairwise (fun x y => ¬ ltT y x) → a.Perm b → a = b
  | [], b, _, _, h => by simpa using h.symm
  | x :: a, [], _, _, h => by simp at h
  | x :: a, y :: b, h1, h2, h => by
    rw [List.pairwise_cons] at h1 h2
    have hxy : x = y := by
      have hx : x ∈ y :: b := h.mem_iff.1 (by simp)
      have hy : y ∈ x :: a := h.mem_iff.2 (by simp)
      rcases List.mem_cons.1 hx with e | hx
      · exact e
      · rcases List.mem_cons.1 hy with e | hy
        · exact e.symm
        · exact ltT_total (h2.1 x hx) (h1.1 y hy)
    subst hxy
    rw [sortT_unique h1.2 h2.2 (List.perm_cons x |>.1 h)]
end Go.Proofs.Ytaobioleodfafaa
/- The step of play, plain. -/
namespace Go.Proofs.Ytaobioleodfafaa
open Go.RowKit
def stG (z : Bool) (G : List (Tx × Rn)) (kd : Int) (t : Tx) (ns : List Int) (x : Int) (yes : Bool) : List (Tx × Rn) :=
  if kd = 0 then begG (begZ z ns (lookG G t).isSome) G t ns else if kd = 1 then updG G t (voteR (lookG G t) x yes).2 else if kd = 2 then updG G t (comR (lookG G t)).2 else if kd = 3 then updG G t (appR (lookG G t) x).2 else G
def stepK (z : Bool) (K : List (Tx × Int)) (kd : Int) (t : Tx) (s : Int) : List (Tx × Int) := if kd = 4 then (takeZ z K t).2 else if kd = 5 then (settleR K t s).2 else K
def stepT (z : Bool) (T : List (Tx × Int)) (kd : Int) (t : Tx) (s : Int) : List (Tx × Int) := if kd = 4 then (takeD z T t).2 else if kd = 5 then (settleD T t s).2 else T
theorem okay_set {G : List (Tx × Rn)} (h : Okay G) {t : Tx} {r r' : Rn} (hl : lookG G t = some r) (hn : r'.ns = r.ns) : Okay (setG G t r') := by
  refine ⟨by rw [setG_keys]; exact h.1, fun p hp => ?_⟩
  unfold setG at hp
  obtain ⟨q, hq, rfl⟩ := List.mem_map.1 hp
  by_cases e : q.1 = t
  · rw [if_pos e]
    have := h.2 _ (lookG_mem hl)
    show r'.ns.Nodup ∧ r'.ns.length ≤ 4
    rw [hn]; exact this
  · rw [if_neg e]; exact h.2 q hq
theorem okay_vote {G : List (Tx × Rn)} (h : Okay G) (t : Tx) (x : Int) (yes : Bool) : Okay (updG G t (voteR (lookG G t) x yes).2) := by
  cases hl : lookG G t with
  | none => exact h
  | some r =>
    unfold voteR
    by_cases hx : x ∈ r.ns
    · by_cases hs : r.st = 1
      · cases yes with
        | true =>
          simp only [if_pos hx, if_pos hs, if_true]
          by_cases ha : r.ns.all (setY r.Y x) = true
          · rw [if_pos ha]; exact okay_set h hl rfl
          · rw [if_neg ha]; exact okay_set h hl rfl
        | false =>
          simp only [if_pos hx, if_pos hs]
          exact okay_set h hl rfl
      · simp only [if_pos hx, if_neg hs]
        by_cases hy : (yes && r.Y x) = true
        · rw [if_pos hy]; exact h
        · rw [if_neg hy]; exact h
    · simp only [if_neg hx]; exact h
theorem okay_com {G : List (Tx × Rn)} (h : Okay G) (t : Tx) : Okay (updG G t (comR (lookG G t)).2) := by
  cases hl : lookG G t with
  | none => exact h
  | some r =>
    unfold comR
    by_cases hs : r.st = 4
    · simp only [if_pos hs]; exact h
    · simp only [if_neg hs]
      by_cases ha : r.ns.all r.Y = true
      · rw [if_pos ha]; exact okay_set h hl rfl
      · rw [if_neg ha]; exact h
theorem okay_app {G : List (Tx × Rn)} (h : Okay G) (t : Tx) (x : Int) : Okay (updG G t (appR (lookG G t) x).2) := by
  cases hl : lookG G t with
  | none => exact h
  | some r =>
    unfold appR
    by_cases hx : x ∈ r.ns
    · by_cases hs : r.st = 3
      · simp only [if_pos hx, if_pos hs]; exact okay_set h hl rfl
      · simp only [if_pos hx, if_neg hs]; exact h
    · simp only [if_neg hx]; exact h
theorem begZ_zero {z : Bool} {ns : List Int} {there : Bool} (h : begZ z ns there = 0) : ns.Nodup ∧ ns.length ≤ 4 ∧ there = false ∧ z = false := by
  unfold begZ at h
  split at h
  · cases h
  rename_i h1
  split at h
  · cases h
  split at h
  · cases h
  rename_i h3
  split at h
  · cases h
  rename_i h4
  split at h
  · cases h
  rename_i h5
  obtain ⟨d1, d2, -, d4⟩ := ded_all ns
  refine ⟨?_, by omega, by simpa using h5, by simpa using h4⟩
  rw [← d4 (by omega)]
  exact d1
theorem okay_beg {z : Bool} {G : List (Tx × Rn)} (h : Okay G) (t : Tx) (ns : List Int) : Okay (begG (begZ z ns (lookG G t).isSome) G t ns) := by
  unfold begG
  by_cases e : begZ z ns (lookG G t).isSome = 0
  · rw [if_pos e]
    obtain ⟨h1, h2, h3, -⟩ := begZ_zero e
    have hl : lookG G t = none := by
      cases hh : lookG G t with
      | none => rfl
      | some r => rw [hh] at h3; cases h3
    refine ⟨?_, fun p hp => ?_⟩
    · rw [List.map_append, List.nodup_append]
      refine ⟨h.1, by simp, fun a ha b hb => ?_⟩
      have hb' : b = t := by simpa using hb
      obtain ⟨p, hp, rfl⟩ := List.mem_map.1 ha
      rw [hb']
      exact lookG_none hl p hp
    · rcases List.mem_append.1 hp with hp | hp
      · exact h.2 p hp
      · have : p = (t, rn0 ns) := by simpa using hp
        subst this
        exact ⟨h1, h2⟩
  · rw [if_neg e]; exact h
theorem okay_st {z : Bool} {G : List (Tx × Rn)} (h : Okay G) (kd : Int) (t : Tx) (ns : List Int) (x : Int) (yes : Bool) : Okay (stG z G kd t ns x yes) := by
  unfold stG
  split
  · exact okay_beg h t ns
  split
  · exact okay_vote h t x yes
  split
  · exact okay_com h t
  split
  · exact okay_app h t x
  · exact h
theorem updG_len (G : List (Tx × Rn)) (t : Tx) (o : Option Rn) : (updG G t o).length = G.length := by
  cases o with
  | none => rfl
  | some r => exact setG_len G t r
theorem stG_len (z : Bool) (G : List (Tx × Rn)) (kd : Int) (t : Tx) (ns : List Int) (x : Int) (yes : Bool) : (stG z G kd t ns x yes).length ≤ G.length + 1 := by
  unfold stG
  split
  · unfold begG; split
    · simp
    · omega
  split
  · rw [updG_len]; omega
  split
  · rw [updG_len]; omega
  split
  · rw [updG_len]; omega
  · omega
/-- the takes: the program's, as they came, and the document's, in order -/
def Rel (K T : List (Tx × Int)) : Prop := T.Perm K ∧ (T.map (·.1)).Pairwise ltT ∧ (K.map (·.1)).Nodup ∧ ∀ p ∈ K, p.2 ≠ 0
theorem stK_mem : ∀ (K : List (Tx × Int)) (t : Tx) (s : Int), (K.map (·.1)).Nodup → (t, s) ∈ K → stK K t = s
  | [], _, _, _, h => by cases h
  | (a, x) :: K, t, s, hn, h => by
    simp only [List.map_cons, List.nodup_cons] at hn
    unfold stK
    rcases List.mem_cons.1 h with e | e
    · cases e; rw [if_pos rfl]
    · rw [if_neg (fun e2 : t = a => hn.1 (by rw [← e2]; exact List.mem_map.2 ⟨_, e, rfl⟩)), stK_mem K t s hn.2 e]
theorem stK_out : ∀ (K : List (Tx × Int)) (t : Tx), t ∉ K.map (·.1) → stK K t = 0
  | [], _, _ => rfl
  | (a, x) :: K, t, h => by
    simp only [List.map_cons, List.mem_cons, not_or] at h
    unfold stK
    rw [if_neg h.1, stK_out K t h.2]
theorem Rel.nodupT {K T : List (Tx × Int)} (h : Rel K T) : (T.map (·.1)).Nodup := (h.1.map (·.1)).nodup_iff.2 h.2.2.1
theorem Rel.stK {K T : List (Tx × Int)} (h : Rel K T) (t : Tx) : stK T t = stK K t := by
  by_cases hm : t ∈ T.map (·.1)
  · obtain ⟨⟨a, s⟩, hp, rfl⟩ := List.mem_map.1 hm
    rw [stK_mem T a s h.nodupT hp, stK_mem K a s h.2.2.1 (h.1.mem_iff.1 hp)]
  · rw [stK_out T t hm, stK_out K t (fun e => hm ((h.1.map (·.1)).mem_iff.2 e))]
theorem layK_out : ∀ (K : List (Tx × Int)) (t : Tx) (s : Int), t ∉ K.map (·.1) → layK K t s = K ++ [(t, s)]
  | [], _, _, _ => rfl
  | (a, x) :: K, t, s, h => by
    simp only [List.map_cons, List.mem_cons, not_or] at h
    unfold layK
    rw [if_neg h.1, layK_out K t s h.2]
    rfl
theorem layK_in : ∀ (K : List (Tx × Int)) (t : Tx) (s : Int), (K.map (·.1)).Nodup → t ∈ K.map (·.1) → layK K t s = setT K t s
  | [], _, _, _, h => by simp at h
  | (a, x) :: K, t, s, hn, h => by
    simp only [List.map_cons, List.nodup_cons] at hn
    unfold layK
    by_cases e : t = a
    · subst e
      rw [if_pos rfl]
      show _ = (if t = t then (t, s) else (t, x)) :: setT K t s
      rw [if_pos rfl]
      congr 1
      have : ∀ p ∈ K, setS t s p = p := fun p hp => if_neg (fun e => hn.1 (List.mem_map.2 ⟨p, hp, e⟩))
      unfold setT
      rw [List.map_congr_left this, List.map_id']
    · rw [if_neg e]
      show _ = (if a = t then (t, s) else (a, x)) :: setT K t s
      rw [if_neg (fun e2 => e e2.symm), layK_in K t s hn.2 (by simpa [e] using h)]
theorem setT_keys (K : List (Tx × Int)) (t : Tx) (s : Int) : (setT K t s).map (·.1) = K.map (·.1) := by
  unfold setT
  rw [List.map_map]
  refine List.map_congr_left fun p _ => ?_
  simp only [Function.comp, setS]
  split
  · rename_i h; exact h.symm
  · rfl
theorem ltT_irr {x y : Tx} (h : ltT x y) : x ≠ y := fun e => ltT_irrefl y (e ▸ h)
/-- a sorted list, with one more laid in its place -/
theorem ins_done (t : Tx) : ∀ (T : List (Tx × Int)) (O : List (Tx × Int)), T.foldl (stpK t) (O, true) = (O ++ T, true)
  | [], O => by simp
  | p :: T, O => by
    rw [List.foldl_cons]
    show T.foldl (stpK t) (O ++ [p], true) = _
    rw [ins_done t T, List.append_assoc]; rfl
theorem ins_spec (t : Tx) : ∀ (T O : List (Tx × Int)), t ∉ T.map (·.1) → (T.map (·.1)).Pairwise ltT →
    ∃ M, (if (T.foldl (stpK t) (O, false)).2 then (T.foldl (stpK t) (O, false)).1 else (T.foldl (stpK t) (O, false)).1 ++ [(t, 2)]) = O ++ M ∧ M.Perm ((t, 2) :: T) ∧ (M.map (·.1)).Pairwise ltT
  | [], O, _, _ => ⟨[(t, 2)], rfl, List.Perm.refl _, by simp⟩
  | p :: T, O, hm, hs => by
    simp only [List.map_cons, List.mem_cons, not_or] at hm
    simp only [List.map_cons, List.pairwise_cons] at hs
    rw [List.foldl_cons]
    by_cases hlt : ltT t p.1
    · have e : stpK t (O, false) p = (O ++ [(t, 2)] ++ [p], true) := by unfold stpK; simp [hlt]
      rw [e, ins_done]
      refine ⟨(t, 2) :: p :: T, by simp, List.Perm.refl _, ?_⟩
      simp only [List.map_cons, List.pairwise_cons]
      refine ⟨fun a ha => ?_, hs.1, hs.2⟩
      rcases List.mem_cons.1 ha with rfl | ha
      · exact hlt
      · exact ltT_trans hlt (hs.1 a ha)
    · have e : stpK t (O, false) p = (O ++ [p], false) := by unfold stpK; simp [hlt]
      rw [e]
      obtain ⟨M, h1, h2, h3⟩ := ins_spec t T (O ++ [p]) hm.2 hs.2
      refine ⟨p :: M, by rw [h1]; simp, (h2.cons p).trans (List.Perm.swap _ _ _), ?_⟩
      simp only [List.map_cons, List.pairwise_cons]
      refine ⟨fun a ha => ?_, h3⟩
      have ha2 := (h2.map (·.1)).mem_iff.1 ha
      rcases List.mem_cons.1 ha2 with he | ha2
      · rw [he]
        rcases Classical.em (ltT p.1 t) with h | h
        · exact h
        · exact absurd (ltT_total hlt h) hm.1
      · exact hs.1 a ha2
theorem Rel.take {K T : List (Tx × Int)} (h : Rel K T) (z : Bool) (t : Tx) : (takeZ z K t).1 = (takeD z T t).1 ∧ Rel (takeZ z K t).2 (takeD z T t).2 := by
  unfold takeZ takeD
  cases z with
  | true => exact ⟨rfl, h⟩
  | false =>
    simp only [Bool.false_eq_true, if_false]
    unfold takeR
    rw [h.stK]
    by_cases h0 : Go.Proofs.Ytaobioleodfafaa.stK K t = 0
    · rw [if_pos h0, if_pos h0]
      refine ⟨rfl, ?_⟩
      have hm : t ∉ K.map (·.1) := fun e => by
        obtain ⟨⟨a, s⟩, hp, he⟩ := List.mem_map.1 e
        simp only at he
        subst he
        rw [stK_mem K a s h.2.2.1 hp] at h0
        exact h.2.2.2 _ hp h0
      obtain ⟨M, h1, h2, h3⟩ := ins_spec t T [] (fun e => hm ((h.1.map (·.1)).mem_iff.1 e)) h.2.1
      have e : insK T t = M := h1.trans (by simp)
      show Rel (layK K t 2) (insK T t)
      rw [e, layK_out K t 2 hm]
      have hp : M.Perm (K ++ [(t, 2)]) := (h2.trans (h.1.cons _)).trans (List.perm_append_singleton _ _).symm
      refine ⟨hp, h3, ?_, fun p hp => ?_⟩
      · rw [List.map_append, List.nodup_append]
        refine ⟨h.2.2.1, by simp, fun a ha b hb => ?_⟩
        have hb' : b = t := by simpa using hb
        exact fun e => hm (by rw [← hb', ← e]; exact ha)
      · rcases List.mem_append.1 hp with hp | hp
        · exact h.2.2.2 p hp
        · have : p = (t, 2) := by simpa using hp
          subst this
          show (2 : Int) ≠ 0
          decide
    · rw [if_neg h0, if_neg h0]
      exact ⟨rfl, h⟩
theorem Rel.settle {K T : List (Tx × Int)} (h : Rel K T) (t : Tx) (s : Int) : (settleR K t s).1 = (settleD T t s).1 ∧ Rel (settleR K t s).2 (settleD T t s).2 := by
  unfold settleR settleD
  rw [h.stK]
  by_cases h1 : s ≠ 3 ∧ s ≠ 4
  · rw [if_pos h1, if_pos h1]; exact ⟨rfl, h⟩
  rw [if_neg h1, if_neg h1]
  by_cases h2 : Go.Proofs.Ytaobioleodfafaa.stK K t = 0
  · rw [if_pos h2, if_pos h2]; exact ⟨rfl, h⟩
  rw [if_neg h2, if_neg h2]
  by_cases h3 : Go.Proofs.Ytaobioleodfafaa.stK K t ≠ 2 ∧ Go.Proofs.Ytaobioleodfafaa.stK K t ≠ s
  · rw [if_pos h3, if_pos h3]; exact ⟨rfl, h⟩
  rw [if_neg h3, if_neg h3]
  refine ⟨rfl, ?_⟩
  have hm : t ∈ K.map (·.1) := Classical.byContradiction fun e => h2 (stK_out K t e)
  show Rel (layK K t s) (setT T t s)
  rw [layK_in K t s h.2.2.1 hm]
  refine ⟨h.1.map _, by rw [setT_keys]; exact h.2.1, by rw [setT_keys]; exact h.2.2.1, fun p hp => ?_⟩
  unfold setT at hp
  obtain ⟨q, hq, rfl⟩ := List.mem_map.1 hp
  unfold setS
  split
  · show s ≠ 0
    omega
  · exact h.2.2.2 q hq
theorem Rel.step {K T : List (Tx × Int)} (h : Rel K T) (z : Bool) (kd : Int) (t : Tx) (s : Int) : Rel (stepK z K kd t s) (stepT z T kd t s) := by
  unfold stepK stepT
  split
  · exact (h.take z t).2
  split
  · exact (h.settle t s).2
  · exact h
theorem layK_len (K : List (Tx × Int)) (t : Tx) (s : Int) : (layK K t s).length ≤ K.length + 1 := by
  induction K with
  | nil => simp [layK]
  | cons p K ih =>
    obtain ⟨a, x⟩ := p
    unfold layK
    split
    · simp
    · simp only [List.length_cons]; omega
theorem stepK_len (z : Bool) (K : List (Tx × Int)) (kd : Int) (t : Tx) (s : Int) : (stepK z K kd t s).length ≤ K.length + 1 := by
  unfold stepK
  split
  · unfold takeZ
    split
    · simp
    · unfold takeR
      split
      · exact layK_len K t 2
      · simp
  split
  · unfold settleR
    split
    · simp
    split
    · simp
    split
    · simp
    · exact layK_len K t s
  · omega
theorem held_eq {K T : List (Tx × Int)} (h : Rel K T) {D : List Tx} (hp : D.Perm (heldL K)) (hs : D.Pairwise (fun x y => ¬ ltT y x)) : D = heldL T := by
  refine sortT_unique hs ?_ (hp.trans ((h.1.filter _).map _).symm)
  unfold heldL
  have h1 : ((T.filter fun p => p.2 == 2).map (·.1)).Pairwise ltT := by
    have h2 := h.2.1
    rw [List.pairwise_map] at h2 ⊢
    exact h2.filter _
  exact h1.imp (fun {x y} hxy e => ltT_irrefl x (ltT_trans hxy e))
end Go.Proofs.Ytaobioleodfafaa
