/- Texts of this claim, merged: P, Q, R, S, T, U, V, Bk, Da, Db, Dc, W. -/
import Derived.Deep.RegionHeld3
import Derived.Test.YtaobioleodfafaaAp1
import Derived.Test.YtaobioleodfafaaAp2
import Derived.Test.YtaobioleodfafaaAp3
import Derived.Test.YtaobioleodfafaaAp4
import Derived.Test.YtaobioleodfafaaAp5
import Derived.Test.YtaobioleodfafaaAp6
import Derived.Test.YtaobioleodfafaaAp7
import Derived.Test.YtaobioleodfafaaAp8
import Derived.Test.YtaobioleodfafaaAp9
import Derived.Test.YtaobioleodfafaaAp10
import Derived.Test.YtaobioleodfafaaAp11
import Derived.Test.YtaobioleodfafaaAp12
import Derived.Test.YtaobioleodfafaaAp13
import Derived.Test.YtaobioleodfafaaAp14
/- Commit: Owing at a book with many runs. -/
namespace Go.Proofs.Ytaobioleodfafaa
open Go.RowKit
theorem infoB2 : (Try.prog.info? 5).map (fun i => (i.zero, i.size, i.bytes)) = some (some (.int .u8 0), 1, 1) := by kernel_rfl
theorem byte_src2 (w : World) (x : Int) {b : Nat} (hb : w.heap.size = b) : Src (w.alloc (.cells #[.int .u8 x] 5)) 1 (.slice (some ⟨b, 0, none⟩) 1 1) 1 [.int .u8 x] := by
  subst hb
  exact src_row rfl (fun j u hu => by rw [row_cell (row_new w _)]; simpa using hu) (by simp [Value.oneCell'])
def owes (r : Rn) (v : Int) : Bool := (r.st == 1 && !r.Y v) || (r.st == 3 && !r.D v)
def oweL (r : Rn) : List Int := (ordered r.ns).filter (owes r)
def oweR (o : Option Rn) : List Int := match o with | none => [] | some r => oweL r
section
variable {own : Nat → Option Tx} {B : Nat} {w : World} {bb m1 m2 : Nat} {G : List (Tx × Rn)} {A : Tx → Ad} {K : List (Tx × Int)} {t1 t2 t3 : Int}
set_option maxRecDepth 100000 in
set_option maxHeartbeats 1000000 in
theorem gowing_any (hb : GBook own B w bb m1 m2 G A K) (hn4 : ∀ p ∈ G, p.2.ns.length ≤ 4) :
    Calls Try.prog 16 #[.pointer (some ⟨bb, 0, none⟩), .agg #[.int .u8 t1, .int .u32 t2, .int .u32 t3]] w fun e w' => ∃ (a : Option Addr) (n c : Nat), e = .returned (.slice a n c) ∧ n ≤ 4 ∧ Own w' 5 1 (.slice a n c) n (bcells (oweR (lookG G (t1, t2, t3)))) ∧ (∀ g, (Value.slice a n c).ownBlock = some g → w.heap.size ≤ g) ∧ Kept (fun _ => False) w w' := by
  cases hl : lookG G (t1, t2, t3) with
  | none =>
    have hk1 := (Kept.refl (fun _ => False) w).alloc (.cells #[.int .u8 t1, .int .u32 t2, .int .u32 t3] 28)
    have hkb := row_new w (.cells #[.int .u8 t1, .int .u32 t2, .int .u32 t3] 28)
    obtain ⟨w1, hw1⟩ : ∃ w1, w.alloc (.cells #[.int .u8 t1, .int .u32 t2, .int .u32 t3] 28) = w1 := ⟨_, rfl⟩
    obtain ⟨kb, hkb'⟩ : ∃ kb, w.heap.size = kb := ⟨_, rfl⟩
    rw [hw1] at hk1 hkb
    rw [hkb'] at hkb
    have HB := hid (hb.same hk1); have HK := hid hkb; have K1 := hid hk1
    have hcb := HB.out.cells
    obtain ⟨c0, c1⟩ := hcb
    obtain ⟨d0, d1, d2⟩ := cells3 HK.out
    have HL := hid hl
    clear hb hk1 hkb hl
    have l0 := HB.out.look0 HL.out
    go_enter Try.func16, Try.ntmps16
    go_wp2_with fail
    try rw [hw1, hkb']
    clear hw1 hkb'
    go_quiet (fail)
    have K2 := hid (K1.out.trans (kept_drewN (F := fun _ => False) w1 nq))
    go_wp2
    go_ret
    exact ⟨none, 0, 0, rfl, Nat.zero_le _, Own.nil _ _ _, fun g hg => by simp [Value.ownBlock] at hg, K2.out⟩
  | some r =>
    have hns := hn4 _ (lookG_mem hl)
    have HNS := hid hns
    clear hn4 hns
    have hk1 := (Kept.refl (fun _ => False) w).alloc (.cells #[.int .u8 t1, .int .u32 t2, .int .u32 t3] 28)
    have hkb := row_new w (.cells #[.int .u8 t1, .int .u32 t2, .int .u32 t3] 28)
    obtain ⟨w1, hw1⟩ : ∃ w1, w.alloc (.cells #[.int .u8 t1, .int .u32 t2, .int .u32 t3] 28) = w1 := ⟨_, rfl⟩
    obtain ⟨kb, hkb'⟩ : ∃ kb, w.heap.size = kb := ⟨_, rfl⟩
    rw [hw1] at hk1 hkb
    rw [hkb'] at hkb
    have HB := hid (hb.same hk1); have HK := hid hkb; have K1 := hid hk1
    have hcb := HB.out.cells
    obtain ⟨c0, c1⟩ := hcb
    obtain ⟨d0, d1, d2⟩ := cells3 HK.out
    have HL := hid hl
    clear hb hk1 hkb hl
    have l0 := HB.out.look1 HL.out
    go_enter Try.func16, Try.ntmps16
    go_wp2_with fail
    try rw [hw1, hkb']
    clear hw1 hkb'
    go_quiet (fail)
    clear c0 c1 d0 d1 d2 l0
    have KQ := kept_drewN (F := fun _ => False) w1 nq
    have HB2 := hid (HB.out.same KQ); have HK2 := hid ((KQ.block _ (row_lt HK.out) id).trans HK.out); have K2 := hid (K1.out.trans KQ)
    obtain ⟨w2, hw2⟩ : ∃ w2, w1.drewN nq = w2 := ⟨_, rfl⟩
    rw [hw2] at HB2 HK2 K2 ⊢
    have hcb := HB2.out.cells
    obtain ⟨c0, c1⟩ := hcb
    have l0 := HB2.out.look1 HL.out
    obtain ⟨d0, d1, d2⟩ := cells3 HK2.out
    have HR2 := hid (HB2.out.run HL.out)
    clear HB HK K1 KQ hw2
    go_wp2_with fail
    go_quiet (fail)
    have KQ := kept_drewN (F := fun _ => False) w2 nq
    have HR3 := hid (HR2.out.same KQ); have K3 := hid (K2.out.trans KQ)
    obtain ⟨w3, hw3⟩ : ∃ w3, w2.drewN nq = w3 := ⟨_, rfl⟩
    rw [hw3] at HR3 K3 ⊢
    have hrc := HR3.out.cells
    obtain ⟨r0, r1, _⟩ := hrc
    clear HB2 HK2 K2 KQ hw3 c0 c1 l0 d0 d1 d2 r1 HR2
    obtain ⟨ns, Y, Dd, st⟩ := r
    obtain ⟨⟨rb, mp, pb⟩, hAd⟩ : ∃ x, A (t1, t2, t3) = x := ⟨_, rfl⟩
    rw [hAd] at HR3 r0 ⊢
    clear hAd
    obtain ⟨r, hrr⟩ : ∃ r : Rn, r = ⟨ns, Y, Dd, st⟩ := ⟨_, rfl⟩
    have HRR := hid hrr
    clear hrr
    simp only at r0 HNS
    obtain ⟨N, hN⟩ : ∃ N, ns.length = N := ⟨_, rfl⟩
    have HN := hid hN
    have hn : N ≤ 4 := by rw [← hN]; exact HNS.out
    clear hN
    go_wp2_with fail
    refine (keys_any (some mp) w3).mono ?_
    rintro e w4 ⟨rfl, hw4⟩
    have hb := row_new w3 (.cells #[.map (some mp)] 55)
    have hk4 := (Kept.refl (fun _ => False) w3).alloc (.cells #[.map (some mp)] 55)
    rw [← hw4] at hb hk4
    have cb := row_cell hb 0
    simp only [List.getElem?_toArray, List.getElem?_cons_zero] at cb
    obtain ⟨bm, hbm⟩ : ∃ bm, w3.heap.size = bm := ⟨_, rfl⟩
    rw [hbm] at cb ⊢
    have HR4 := hid (HR3.out.same hk4); have K4 := hid (K3.out.trans hk4)
    clear hb hk4 hw4 hbm HR3 K3 r0
    go_wp2_with fail
    have hpl : (pents ns pb).length = N := by simp [pents, HN.out]
    have hpk : (pents ns pb).map (·.1) = ns := by
      simp only [pents, List.map_map]
      have e : ((fun p : Int × Value => p.1) ∘ fun v => (v, ptr (pb v))) = id := rfl
      rw [e, List.map_id]
    refine (sorted_any cb (L := pents ns pb) (by exact (show MapIs w4 mp .u8 (pents ns pb) from HR4.out.map).mapOf) (by rw [hpl]; omega)).mono ?_
    rintro e w5 ⟨sa, sc, rfl, hs, hf, hk5⟩
    rw [hpk] at hs
    rw [hpl] at hs hf ⊢
    have HOM := hid (fun (x : Int) (hx : x ∈ ordered ns) => show x ∈ ns from (List.mergeSort_perm ns _).mem_iff.1 hx)
    obtain ⟨D, hD⟩ : ∃ D, ordered ns = D := ⟨_, rfl⟩
    have hDl : D.length = N := by rw [← hD, ordered_len]; exact HN.out
    have HOWE := hid (show oweR (some (⟨ns, Y, Dd, st⟩ : Rn)) = D.filter (owes r) by rw [HRR.out, ← hD]; rfl)
    rw [hD] at hs HOM
    have HS := hid hs; have HF := hid hf; have HR5 := hid (HR4.out.same hk5); have K5 := hid (K4.out.trans hk5); have HDL := hid hDl
    have hle5 := K5.out.size
    have HLE := hid hle5
    clear hs hf hk5 cb hpl hpk hD hDl HR4 K4 hle5
    go_wp2_with fail
    go_loopw [6, 34] (fun o i wr => ∃ (k m : Nat) (a : Option Addr) (c : Nat), i = .int .i64 k ∧ k ≤ N ∧ m ≤ k ∧ o = .slice a m c ∧ Own wr 5 1 (.slice a m c) m (bcells ((D.take k).filter (owes r))) ∧ (∀ b, (Value.slice a m c).ownBlock = some b → w5.heap.size ≤ b) ∧ Kept (fun _ => False) w5 wr) (fun _ i _ => N - (RowKit.intOf i).toNat)
    case atStart => exact ⟨0, 0, none, 0, rfl, Nat.zero_le _, Nat.le_refl _, rfl, Own.nil _ _ _, fun b hb => by simp [Value.ownBlock] at hb, Kept.refl _ _⟩
    case round =>
      rename World => wA
      obtain ⟨k, m, a, c, rfl, hk, hmk, rfl, ho, hf, hkp⟩ := hrel
      have HA := hid ho; have HAF := hid hf; have KA := hid hkp
      clear ho hf hkp
      by_cases hlt : k < N
      · have hltI : (k : Int) < (N : Int) := by omega
        obtain ⟨v, hv⟩ : ∃ v, D[k]? = some v := ⟨_, List.getElem?_eq_getElem (by rw [HDL.out]; exact hlt)⟩
        have hvn := HOM.out v (List.mem_of_getElem? hv)
        have HRA := hid (HR5.out.same KA.out)
        have hrc := HRA.out.cells
        obtain ⟨r0, r1, _⟩ := hrc
        have hpc := HRA.out.pcell hvn
        obtain ⟨p0, p1, _⟩ := hpc
        simp only at r0 r1 p0 p1
        have lk0 : (Instr.lookup 55 (.map (some mp)) (.int .u8 v) false).run Try.prog wA = .ok (.pointer (some ⟨pb v, 0, none⟩)) wA := HRA.out.look hvn 0
        obtain ⟨gs, sc', hse, hs1, hs2⟩ := HS.out.some_of_pos (by omega)
        simp only [Value.slice.injEq] at hse
        obtain ⟨rfl, _, rfl⟩ := hse
        have cs : wA.cell? ⟨gs, k, none⟩ = some (.int .u8 v) := by
          have := KA.out.cell (HS.out.cells rfl k (by simp [HDL.out]; exact hlt)) id
          rw [this]
          simp only [List.getElem_map]
          rw [(List.getElem?_eq_some_iff.1 hv).2]
        unfold maxLen at hs2
        obtain ⟨y, hy⟩ : ∃ y, Y v = y := ⟨_, rfl⟩
        obtain ⟨z, hz⟩ : ∃ z, Dd v = z := ⟨_, rfl⟩
        rw [hy] at p0
        rw [hz] at p1
        have HQ := hid (show owes r v = ((st == 1 && !y) || (st == 3 && !z)) by rw [HRR.out]; simp only [owes, hy, hz])
        clear hvn hs1 hy hz
        by_cases h1 : st = 1
        · have e1 : (st == 1) = true := by simpa using h1
          have e3 : (st == 3) = false := by simp [h1]
          clear h1
          cases y with
          | false =>
            have HOW := hid (show owes r v = true by rw [HQ.out, e1]; rfl)
            have HFI := hid (show (D.take (k + 1)).filter (owes r) = (D.take k).filter (owes r) ++ [v] by rw [List.take_add_one, hv]; simp [List.filter_append, HOW.out])
            clear hv
            go_wp2_with (at_builtin; refine wpList_app rfl _ _ 22 rfl 5 _ 1 1 Try.underlying22 infoB2 rfl (by decide) _ m _ rfl (by exact HA.out.alloc _) _ rfl 1 _ (byte_src2 _ v (by simp)) (by unfold maxLen; omega) (by omega) ?_; intro a' c' w6 ho3 hk3 hf3 _; have HA3 := hid ho3; have HK3 := hid hk3; have HF3 := hid hf3; clear ho3 hk3 hf3)
            go_roundw
            case rel =>
              refine ⟨k + 1, m + 1, a', c', by go_num, by omega, by omega, rfl, by rw [HFI.out]; simp only [bcells, List.map_append]; exact HA3.out, fun b hb => ?_, (KA.out.alloc _).trans' HK3.out (fun i hi => .inr (HAF.out i hi))⟩
              rcases HF3.out b hb with h | h
              · exact HAF.out b h
              · simp at h; have := KA.out.size; omega
            case measure => (simp only [RowKit.intOf]; omega)
          | true =>
            have HOW := hid (show owes r v = false by rw [HQ.out, e1, e3]; rfl)
            have HFI := hid (show (D.take (k + 1)).filter (owes r) = (D.take k).filter (owes r) by rw [List.take_add_one, hv]; simp [List.filter_append, HOW.out])
            clear hv
            go_wp2_with fail
            go_roundw
            case rel => exact ⟨k + 1, m, a, c, by go_num, by omega, by omega, rfl, by rw [HFI.out]; exact HA.out, HAF.out, KA.out⟩
            case measure => (simp only [RowKit.intOf]; omega)
        · have e1 : (st == 1) = false := by simpa using h1
          clear h1
          by_cases h3 : st = 3
          · have e3 : (st == 3) = true := by simpa using h3
            clear h3
            cases z with
            | false =>
              have HOW := hid (show owes r v = true by rw [HQ.out, e1, e3]; rfl)
              have HFI := hid (show (D.take (k + 1)).filter (owes r) = (D.take k).filter (owes r) ++ [v] by rw [List.take_add_one, hv]; simp [List.filter_append, HOW.out])
              clear hv
              go_wp2_with (at_builtin; refine wpList_app rfl _ _ 22 rfl 5 _ 1 1 Try.underlying22 infoB2 rfl (by decide) _ m _ rfl (by exact HA.out.alloc _) _ rfl 1 _ (byte_src2 _ v (by simp)) (by unfold maxLen; omega) (by omega) ?_; intro a' c' w6 ho3 hk3 hf3 _; have HA3 := hid ho3; have HK3 := hid hk3; have HF3 := hid hf3; clear ho3 hk3 hf3)
              go_roundw
              case rel =>
                refine ⟨k + 1, m + 1, a', c', by go_num, by omega, by omega, rfl, by rw [HFI.out]; simp only [bcells, List.map_append]; exact HA3.out, fun b hb => ?_, (KA.out.alloc _).trans' HK3.out (fun i hi => .inr (HAF.out i hi))⟩
                rcases HF3.out b hb with h | h
                · exact HAF.out b h
                · simp at h; have := KA.out.size; omega
              case measure => (simp only [RowKit.intOf]; omega)
            | true =>
              have HOW := hid (show owes r v = false by rw [HQ.out, e1, e3]; rfl)
              have HFI := hid (show (D.take (k + 1)).filter (owes r) = (D.take k).filter (owes r) by rw [List.take_add_one, hv]; simp [List.filter_append, HOW.out])
              clear hv
              go_wp2_with fail
              go_roundw
              case rel => exact ⟨k + 1, m, a, c, by go_num, by omega, by omega, rfl, by rw [HFI.out]; exact HA.out, HAF.out, KA.out⟩
              case measure => (simp only [RowKit.intOf]; omega)
          · have e3 : (st == 3) = false := by simpa using h3
            clear h3
            have HOW := hid (show owes r v = false by rw [HQ.out, e1, e3]; rfl)
            have HFI := hid (show (D.take (k + 1)).filter (owes r) = (D.take k).filter (owes r) by rw [List.take_add_one, hv]; simp [List.filter_append, HOW.out])
            clear hv
            go_wp2_with fail
            go_roundw
            case rel => exact ⟨k + 1, m, a, c, by go_num, by omega, by omega, rfl, by rw [HFI.out]; exact HA.out, HAF.out, KA.out⟩
            case measure => (simp only [RowKit.intOf]; omega)
      · obtain rfl : k = N := by omega
        have HT := hid (show D.take k = D by rw [← HDL.out, List.take_length])
        go_wp2_with fail
        go_ret
        refine ⟨a, m, c, rfl, by omega, ?_, fun g hg => Nat.le_trans HLE.out (HAF.out g hg), K5.out.trans KA.out⟩
        rw [HOWE.out]
        have h := HA.out
        rwa [HT.out] at h
end
end Go.Proofs.Ytaobioleodfafaa
/- Commit: Stands, Take, Settle at a book with many runs. -/
namespace Go.Proofs.Ytaobioleodfafaa
open Go.RowKit
def kv (p : Tx × Int) : Tx × Value := (p.1, .int .i64 p.2)
def stK : List (Tx × Int) → Tx → Int
  | [], _ => 0
  | (a, s) :: K, t => if t = a then s else stK K t
def layK : List (Tx × Int) → Tx → Int → List (Tx × Int)
  | [], t, s => [(t, s)]
  | (a, x) :: K, t, s => if t = a then (a, s) :: K else (a, x) :: layK K t s
theorem layK_map : ∀ (K : List (Tx × Int)) (t : Tx) (s : Int), (layK K t s).map kv = layT (K.map kv) t (.int .i64 s)
  | [], t, s => rfl
  | (a, x) :: K, t, s => by
    simp only [layK, List.map_cons, kv, layT]
    split
    · rfl
    · simp only [List.map_cons]
      rw [← layK_map K t s]
      rfl
theorem stK_lay : ∀ (K : List (Tx × Int)) (t : Tx) (s : Int) (t' : Tx), stK (layK K t s) t' = if t' = t then s else stK K t'
  | [], t, s, t' => by simp [layK, stK]
  | (a, x) :: K, t, s, t' => by
    unfold layK
    split
    · rename_i h
      subst h
      simp only [stK]
      split <;> rfl
    · rename_i h
      simp only [stK, stK_lay K t s t']
      by_cases h1 : t' = a
      · subst h1
        simp [Ne.symm h]
      · simp [h1]
theorem look_stK : ∀ (K : List (Tx × Int)) (t : Tx), (lookT (K.map kv) t = none ∧ stK K t = 0) ∨ lookT (K.map kv) t = some (.int .i64 (stK K t))
  | [], t => .inl ⟨rfl, rfl⟩
  | (a, x) :: K, t => by
    simp only [List.map_cons, kv, lookT, stK]
    by_cases h : t = a
    · simp [h]
    · simp only [if_neg h]
      exact look_stK K t
section
variable {own : Nat → Option Tx} {B : Nat} {w : World} {bb m1 m2 : Nat} {G : List (Tx × Rn)} {A : Tx → Ad} {K : List (Tx × Int)} {t1 t2 t3 : Int}
theorem GBook.look2 (h : GBook own B w bb m1 m2 G A K) (t1 t2 t3 : Int) (q : Nat) :
    (Instr.lookup 52 (.map (some m2)) (.agg #[.int .u8 t1, .int .u32 t2, .int .u32 t3]) false).run Try.prog (w.drewN q) = .ok (.int .i64 (stK K (t1, t2, t3))) (w.drewN q) := by
  have hm : MapT (w.drewN q) m2 (K.map kv) := (h.same (kept_drewN (F := fun _ => False) w q)).map2
  rcases look_stK K (t1, t2, t3) with ⟨h1, h2⟩ | h1
  · rw [h2]
    exact hm.run_look_none Try.underlying52 (k := (t1, t2, t3)) (z := .int .i64 0) (by kernel_rfl) h1 false
  · exact hm.run_look_some Try.underlying52 (k := (t1, t2, t3)) h1 false
/-- m2[t] = s -/
theorem GBook.layS (h : GBook own B w bb m1 m2 G A K) (t1 t2 t3 s : Int) :
    ∃ w', (Instr.mapUpdate 52 (.map (some m2)) (.agg #[.int .u8 t1, .int .u32 t2, .int .u32 t3]) (.int .i64 s)).run Try.prog w = .ok () w' ∧ GBook own B w' bb m1 m2 G A (layK K (t1, t2, t3) s) ∧ Kept (fun i => i = m2) w w' := by
  have hm : MapT w m2 (K.map kv) := h.map2
  obtain ⟨es, c, h1, h2⟩ := hm.run_lay Try.underlying52 (t1, t2, t3) (.int .i64 s)
  have k : Kept (fun i => i = m2) w (ChangeMaps.setBlock w m2 (.map es c)) := Kept.setBlock (F := fun i => i = m2) (Kept.refl _ _) _ (.inl rfl)
  refine ⟨_, h1, ⟨?_, ?_, ?_, ?_, h.top, fun i hi => h.new i (Nat.le_trans k.size hi), h.low⟩, k⟩
  · refine (k.block _ (row_lt h.obj) (fun e => ?_)).trans h.obj
    obtain ⟨es', c', hb, _⟩ := hm
    have := h.obj
    rw [e, hb] at this
    cases this
  · exact h.map1.of_block (k.block _ h.map1.lt h.top.2.2.2)
  · rw [← layK_map] at h2
    exact h2
  · exact fun p hp => (h.runs p hp).kept k (fun i hi e => by rw [e, h.top.2.2.1] at hi; cases hi)
set_option maxRecDepth 100000 in
set_option maxHeartbeats 1000000 in
theorem gstands_any (hb : GBook own B w bb m1 m2 G A K) :
    Calls Try.prog 14 #[.pointer (some ⟨bb, 0, none⟩), .agg #[.int .u8 t1, .int .u32 t2, .int .u32 t3]] w fun e w' => e = .returned (.int .i64 (stK K (t1, t2, t3))) ∧ Kept (fun _ => False) w w' := by
  have hl : True := trivial
  have hk1 := (Kept.refl (fun _ => False) w).alloc (.cells #[.int .u8 t1, .int .u32 t2, .int .u32 t3] 28)
  have hkb := row_new w (.cells #[.int .u8 t1, .int .u32 t2, .int .u32 t3] 28)
  obtain ⟨w1, hw1⟩ : ∃ w1, w.alloc (.cells #[.int .u8 t1, .int .u32 t2, .int .u32 t3] 28) = w1 := ⟨_, rfl⟩
  obtain ⟨kb, hkb'⟩ : ∃ kb, w.heap.size = kb := ⟨_, rfl⟩
  rw [hw1] at hk1 hkb
  rw [hkb'] at hkb
  have HB := hid (hb.same hk1); have HK := hid hkb; have K1 := hid hk1
  have hcb := HB.out.cells
  obtain ⟨c0, c1⟩ := hcb
  obtain ⟨d0, d1, d2⟩ := cells3 HK.out
  have HL := hid hl
  clear hb hk1 hkb hl
  have l0 := HB.out.look2 t1 t2 t3
  go_enter Try.func14, Try.ntmps14
  go_wp2_with fail
  try rw [hw1, hkb']
  clear hw1 hkb'
  go_quiet (fail)
  have K2 := hid (K1.out.trans (kept_drewN (F := fun _ => False) w1 nq))
  go_wp2
  go_ret
  exact ⟨rfl, K2.out⟩
def takeR (K : List (Tx × Int)) (t : Tx) : Int × List (Tx × Int) := if stK K t = 0 then (0, layK K t 2) else (7, K)
set_option maxRecDepth 100000 in
set_option maxHeartbeats 1000000 in
theorem gtake_any (hb : GBook own B w bb m1 m2 G A K) :
    Calls Try.prog 26 #[.pointer (some ⟨bb, 0, none⟩), .agg #[.int .u8 t1, .int .u32 t2, .int .u32 t3]] w fun e w' => e = .returned (.int .i64 (takeR K (t1, t2, t3)).1) ∧ GBook own B w' bb m1 m2 G A (takeR K (t1, t2, t3)).2 ∧ Kept (fun i => i = m2) w w' := by
  have hl : True := trivial
  have hk1 := (Kept.refl (fun _ => False) w).alloc (.cells #[.int .u8 t1, .int .u32 t2, .int .u32 t3] 28)
  have hkb := row_new w (.cells #[.int .u8 t1, .int .u32 t2, .int .u32 t3] 28)
  obtain ⟨w1, hw1⟩ : ∃ w1, w.alloc (.cells #[.int .u8 t1, .int .u32 t2, .int .u32 t3] 28) = w1 := ⟨_, rfl⟩
  obtain ⟨kb, hkb'⟩ : ∃ kb, w.heap.size = kb := ⟨_, rfl⟩
  rw [hw1] at hk1 hkb
  rw [hkb'] at hkb
  have HB := hid (hb.same hk1); have HK := hid hkb; have K1 := hid hk1
  have hcb := HB.out.cells
  obtain ⟨c0, c1⟩ := hcb
  obtain ⟨d0, d1, d2⟩ := cells3 HK.out
  have HL := hid hl
  clear hb hk1 hkb hl
  have l0 := HB.out.look2 t1 t2 t3
  obtain ⟨s, hs⟩ : ∃ s, stK K (t1, t2, t3) = s := ⟨_, rfl⟩
  have HSS := hid hs
  rw [hs] at l0
  clear hs
  go_enter Try.func26, Try.ntmps26
  go_wp2_with fail
  try rw [hw1, hkb']
  clear hw1 hkb'
  go_quiet (fail)
  clear c0 c1 d0 d1 d2 l0
  have KQ := kept_drewN (F := fun _ => False) w1 nq
  have HB2 := hid (HB.out.same KQ); have HK2 := hid ((KQ.block _ (row_lt HK.out) id).trans HK.out); have K2 := hid (K1.out.trans KQ)
  obtain ⟨w2, hw2⟩ : ∃ w2, w1.drewN nq = w2 := ⟨_, rfl⟩
  rw [hw2] at HB2 HK2 K2 ⊢
  clear HB HK K1 KQ hw2
  by_cases h0 : s = 0
  · have hne : (s != 0) = false := by simp [h0]
    have HT := hid (show takeR K (t1, t2, t3) = (0, layK K (t1, t2, t3) 2) by unfold takeR; rw [HSS.out, if_pos h0])
    obtain ⟨w3, hrun, hb3, hk3⟩ := (HB2.out.same ((Kept.refl (fun _ => False) w2).drew)).layS t1 t2 t3 2
    have hcb := HB2.out.cells
    obtain ⟨c0, c1⟩ := hcb
    obtain ⟨d0, d1, d2⟩ := cells3 HK2.out
    have c1' : w2.drew.cell? ⟨bb, 1, none⟩ = some (.map (some m2)) := c1
    have d0' : w2.drew.cell? ⟨kb, 0, none⟩ = some (.int .u8 t1) := d0
    have d1' : w2.drew.cell? ⟨kb, 1, none⟩ = some (.int .u32 t2) := d1
    have d2' : w2.drew.cell? ⟨kb, 2, none⟩ = some (.int .u32 t3) := d2
    have HB3 := hid hb3; have K3 := hid (show Kept (fun i => i = m2) w w3 from (K2.out.mono (fun _ _ h => h.elim)).trans ((Kept.refl _ w2).drew.trans hk3))
    clear h0 hb3 hk3
    go_wp2_with fail
    go_region
    all_goals
      go_wp2
      go_ret
      rw [HT.out]
      exact ⟨rfl, HB3.out, K3.out⟩
  · have hne : (s != 0) = true := by simp [h0]
    have HT := hid (show takeR K (t1, t2, t3) = (7, K) by unfold takeR; rw [HSS.out, if_neg h0])
    clear h0
    go_wp2
    go_ret
    rw [HT.out]
    exact ⟨rfl, HB2.out, K2.out.mono (fun _ _ h => h.elim)⟩
end
end Go.Proofs.Ytaobioleodfafaa
/- Commit: Settle at a book with many runs. -/
namespace Go.Proofs.Ytaobioleodfafaa
open Go.RowKit
def settleR (K : List (Tx × Int)) (t : Tx) (s : Int) : Int × List (Tx × Int) :=
  if s ≠ 3 ∧ s ≠ 4 then (1, K) else if stK K t = 0 then (6, K) else if stK K t ≠ 2 ∧ stK K t ≠ s then (9, K) else (0, layK K t s)
section
variable {own : Nat → Option Tx} {B : Nat} {w : World} {bb m1 m2 : Nat} {G : List (Tx × Rn)} {A : Tx → Ad} {K : List (Tx × Int)} {t1 t2 t3 : Int}
set_option maxRecDepth 100000 in
set_option maxHeartbeats 1000000 in
theorem gsettle_ok (hb : GBook own B w bb m1 m2 G A K) (s : Int) (h34 : s = 3 ∨ s = 4) :
    Calls Try.prog 28 #[.pointer (some ⟨bb, 0, none⟩), .agg #[.int .u8 t1, .int .u32 t2, .int .u32 t3], .int .i64 s] w fun e w' => e = .returned (.int .i64 (settleR K (t1, t2, t3) s).1) ∧ GBook own B w' bb m1 m2 G A (settleR K (t1, t2, t3) s).2 ∧ Kept (fun i => i = m2) w w' := by
  have hl : True := trivial
  have hk1 := (Kept.refl (fun _ => False) w).alloc (.cells #[.int .u8 t1, .int .u32 t2, .int .u32 t3] 28)
  have hkb := row_new w (.cells #[.int .u8 t1, .int .u32 t2, .int .u32 t3] 28)
  obtain ⟨w1, hw1⟩ : ∃ w1, w.alloc (.cells #[.int .u8 t1, .int .u32 t2, .int .u32 t3] 28) = w1 := ⟨_, rfl⟩
  obtain ⟨kb, hkb'⟩ : ∃ kb, w.heap.size = kb := ⟨_, rfl⟩
  rw [hw1] at hk1 hkb
  rw [hkb'] at hkb
  have HB := hid (hb.same hk1); have HK := hid hkb; have K1 := hid hk1
  have hcb := HB.out.cells
  obtain ⟨c0, c1⟩ := hcb
  obtain ⟨d0, d1, d2⟩ := cells3 HK.out
  have HL := hid hl
  clear hb hk1 hkb hl
  have l0 := HB.out.look2 t1 t2 t3
  obtain ⟨n, hs⟩ : ∃ n, stK K (t1, t2, t3) = n := ⟨_, rfl⟩
  rw [hs] at l0
  have HSS := hid hs
  have HT0 := hid (show settleR K (t1, t2, t3) s = if n = 0 then (6, K) else if n ≠ 2 ∧ n ≠ s then (9, K) else (0, layK K (t1, t2, t3) s) by
    unfold settleR
    rw [if_neg (by omega), hs])
  clear hs
  have hcnd : (s != 3) = false ∨ ((s != 3) = true ∧ (s != 4) = false) := by rcases h34 with h | h <;> simp [h]
  go_enter Try.func28, Try.ntmps28
  have HW := hid hw1; have HKB := hid hkb'
  obtain ⟨b3, hb3⟩ : ∃ b, (s != 3) = b := ⟨_, rfl⟩
  obtain ⟨b4, hb4⟩ : ∃ b, (s != 4) = b := ⟨_, rfl⟩
  have hbb : b3 = false ∨ (b3 = true ∧ b4 = false) := by rw [← hb3, ← hb4]; exact hcnd
  clear hcnd h34
  rcases hbb with rfl | ⟨rfl, rfl⟩
  · go_wp2_with fail
    try rw [HW.out, HKB.out]
    clear hw1 hkb'
    go_quiet (fail)
    have KQ := kept_drewN (F := fun _ => False) w1 nq
    have HB2 := hid (HB.out.same KQ); have HK2 := hid ((KQ.block _ (row_lt HK.out) id).trans HK.out); have K2 := hid (K1.out.trans KQ)
    obtain ⟨w2, hw2⟩ : ∃ w2, w1.drewN nq = w2 := ⟨_, rfl⟩
    rw [hw2] at HB2 HK2 K2 ⊢
    clear c0 c1 d0 d1 d2 l0 KQ hw2
    by_cases h0 : n = 0
    · have hne : (n == 0) = true := by simp [h0]
      have HT := hid (show settleR K (t1, t2, t3) s = (6, K) by rw [HT0.out, if_pos h0])
      clear h0
      go_wp2
      go_ret
      rw [HT.out]
      exact ⟨rfl, HB2.out, K2.out.mono (fun _ _ h => h.elim)⟩
    · have hne : (n == 0) = false := by simp [h0]
      have HT1 := hid (show settleR K (t1, t2, t3) s = if n ≠ 2 ∧ n ≠ s then (9, K) else (0, layK K (t1, t2, t3) s) by rw [HT0.out, if_neg h0])
      clear h0
      have hcb := HB2.out.cells
      obtain ⟨c0, c1⟩ := hcb
      obtain ⟨d0, d1, d2⟩ := cells3 HK2.out
      have l0 := HB2.out.look2 t1 t2 t3
      rw [HSS.out] at l0
      by_cases h2 : n = 2
      · have hn2 : (n != 2) = false := by simp [h2]
        have HT := hid (show settleR K (t1, t2, t3) s = (0, layK K (t1, t2, t3) s) by rw [HT1.out, if_neg (fun h => h.1 h2)])
        clear h2
        have l1 : (Instr.lookup 52 (.map (some m2)) (.agg #[.int .u8 t1, .int .u32 t2, .int .u32 t3]) false).run Try.prog w2.drew = .ok (.int .i64 n) w2.drew := l0 1
        have e1 : w2.drew.cell? ⟨bb, 1, none⟩ = some (.map (some m2)) := c1
        have e2 : w2.drew.cell? ⟨kb, 0, none⟩ = some (.int .u8 t1) := d0
        have e3 : w2.drew.cell? ⟨kb, 1, none⟩ = some (.int .u32 t2) := d1
        have e4 : w2.drew.cell? ⟨kb, 2, none⟩ = some (.int .u32 t3) := d2
        go_wp2_with fail
        refine wp_region_held_drew (S := fun w' => w' = w2.drew) (by kernel_rfl) rfl (fun hHeld => ?_)
        refine wpAnyH_at 0 (some 27) (v := ?v9100) (by decide) rfl (by kernel_rfl) (by kernel_rfl) (by kernel_rfl) (fun _ _ _ h => h) (Or.inl ⟨by rfl, ?y9100⟩) (by assumption) ?r9100
        case y9100 => (intro w hSw; (try dsimp only at hSw); go_simp; (try with_reducible rfl))
        simp only [Act.put, List.setIfInBounds_toArray, List.set_cons_zero, List.set_cons_succ]
        refine wpAnyH_at 1 (some 28) (v := ?v9101) (by decide) rfl (by kernel_rfl) (by kernel_rfl) (by kernel_rfl) (fun _ _ _ h => h) (Or.inl ⟨by rfl, ?y9101⟩) (by assumption) ?r9101
        case y9101 => (intro w hSw; (try dsimp only at hSw); go_simp; (try with_reducible rfl))
        simp only [Act.put, List.setIfInBounds_toArray, List.set_cons_zero, List.set_cons_succ]
        refine wpAnyH_at 2 (some 29) (v := ?v9102) (by decide) rfl (by kernel_rfl) (by kernel_rfl) (by kernel_rfl) (fun _ _ _ h => h) (Or.inl ⟨by rfl, ?y9102⟩) (by assumption) ?r9102
        case y9102 => (intro w hSw; (try dsimp only at hSw); go_simp; (try with_reducible rfl))
        simp only [Act.put, List.setIfInBounds_toArray, List.set_cons_zero, List.set_cons_succ]
        refine wpAnyH_at 3 (some 30) (v := ?v9103) (by decide) rfl (by kernel_rfl) (by kernel_rfl) (by kernel_rfl) (fun _ _ _ h => h) (Or.inl ⟨by rfl, ?y9103⟩) (by assumption) ?r9103
        case y9103 => (intro w hSw; (try dsimp only at hSw); go_simp; (try with_reducible rfl))
        simp only [Act.put, List.setIfInBounds_toArray, List.set_cons_zero, List.set_cons_succ]
        refine wpAnyH_at 4 (some 31) (v := ?v9104) (by decide) rfl (by kernel_rfl) (by kernel_rfl) (by kernel_rfl) (fun _ _ _ h => h) (Or.inl ⟨by rfl, ?y9104⟩) (by assumption) ?r9104
        case y9104 => (intro w hSw; (try dsimp only at hSw); go_simp; (try with_reducible rfl))
        simp only [Act.put, List.setIfInBounds_toArray, List.set_cons_zero, List.set_cons_succ]
        refine wpAnyH_at 5 (some 32) (v := ?v9105) (by decide) rfl (by kernel_rfl) (by kernel_rfl) (by kernel_rfl) (fun _ _ _ h => h) (Or.inl ⟨by rfl, ?y9105⟩) (by assumption) ?r9105
        case y9105 => (intro w hSw; (try dsimp only at hSw); go_simp; (try with_reducible rfl))
        simp only [Act.put, List.setIfInBounds_toArray, List.set_cons_zero, List.set_cons_succ]
        refine wpAnyH_at 6 (some 33) (v := ?v9106) (by decide) rfl (by kernel_rfl) (by kernel_rfl) (by kernel_rfl) (fun _ _ _ h => h) (Or.inl ⟨by rfl, ?y9106⟩) (by assumption) ?r9106
        case y9106 => (intro w hSw; (try dsimp only at hSw); go_simp; (try with_reducible rfl))
        simp only [Act.put, List.setIfInBounds_toArray, List.set_cons_zero, List.set_cons_succ]
        refine wpAnyH_at 7 (some 34) (v := ?v9107) (by decide) rfl (by kernel_rfl) (by kernel_rfl) (by kernel_rfl) (fun _ _ _ h => h) (Or.inl ⟨by rfl, ?y9107⟩) (by assumption) ?r9107
        case y9107 => (intro w hSw; (try dsimp only at hSw); go_simp; (try with_reducible rfl))
        simp only [Act.put, List.setIfInBounds_toArray, List.set_cons_zero, List.set_cons_succ]
        refine wpAnyH_at 8 (some 35) (v := undef) (by decide) rfl (by kernel_rfl) (by kernel_rfl) (by kernel_rfl) (fun _ _ _ h => h) (Or.inr ⟨by rfl, rfl⟩) (by assumption) ?_
        simp only [Act.put, List.setIfInBounds_toArray, List.set_cons_zero, List.set_cons_succ]
        refine wpAnyH_at 9 (some 36) (v := undef) (by decide) rfl (by kernel_rfl) (by kernel_rfl) (by kernel_rfl) (fun _ _ _ h => h) (Or.inr ⟨by rfl, rfl⟩) (by assumption) ?_
        simp only [Act.put, List.setIfInBounds_toArray, List.set_cons_zero, List.set_cons_succ]
        refine wpAnyH_at 10 (some 37) (v := undef) (by decide) rfl (by kernel_rfl) (by kernel_rfl) (by kernel_rfl) (fun _ _ _ h => h) (Or.inr ⟨by rfl, rfl⟩) (by assumption) ?_
        simp only [Act.put, List.setIfInBounds_toArray, List.set_cons_zero, List.set_cons_succ]
        refine wpAnyH_at 11 (some 38) (v := undef) (by decide) rfl (by kernel_rfl) (by kernel_rfl) (by kernel_rfl) (fun _ _ _ h => h) (Or.inr ⟨by rfl, rfl⟩) (by assumption) ?_
        simp only [Act.put, List.setIfInBounds_toArray, List.set_cons_zero, List.set_cons_succ]
        refine wpAnyH_at 12 (some 39) (v := undef) (by decide) rfl (by kernel_rfl) (by kernel_rfl) (by kernel_rfl) (fun _ _ _ h => h) (Or.inr ⟨by rfl, rfl⟩) (by assumption) ?_
        simp only [Act.put, List.setIfInBounds_toArray, List.set_cons_zero, List.set_cons_succ]
        refine wpAnyH_at 13 (some 40) (v := undef) (by decide) rfl (by kernel_rfl) (by kernel_rfl) (by kernel_rfl) (fun _ _ _ h => h) (Or.inr ⟨by rfl, rfl⟩) (by assumption) ?_
        simp only [Act.put, List.setIfInBounds_toArray, List.set_cons_zero, List.set_cons_succ]
        refine wpAnyH_at 14 (some 41) (v := undef) (by decide) rfl (by kernel_rfl) (by kernel_rfl) (by kernel_rfl) (fun _ _ _ h => h) (Or.inr ⟨by rfl, rfl⟩) (by assumption) ?_
        simp only [Act.put, List.setIfInBounds_toArray, List.set_cons_zero, List.set_cons_succ]
        refine wpAnyH_at 15 (some 42) (v := undef) (by decide) rfl (by kernel_rfl) (by kernel_rfl) (by kernel_rfl) (fun _ _ _ h => h) (Or.inr ⟨by rfl, rfl⟩) (by assumption) ?_
        simp only [Act.put, List.setIfInBounds_toArray, List.set_cons_zero, List.set_cons_succ]
        refine wpAnyH_at 16 (some 43) (v := ?v9108) (by decide) rfl (by kernel_rfl) (by kernel_rfl) (by kernel_rfl) (fun _ _ _ h => h) (Or.inl ⟨by rfl, ?y9108⟩) (by assumption) ?r9108
        case y9108 => (intro w hSw; (try dsimp only at hSw); go_simp; (try with_reducible rfl))
        simp only [Act.put, List.setIfInBounds_toArray, List.set_cons_zero, List.set_cons_succ]
        refine wpAnyH_at 17 (some 26) (v := ?v9109) (by decide) rfl (by kernel_rfl) (by kernel_rfl) (by kernel_rfl) (fun _ _ _ h => h) (Or.inl ⟨by rfl, ?y9109⟩) (by assumption) ?r9109
        case y9109 => (intro w hSw; (try dsimp only at hSw); go_simp; (try with_reducible rfl))
        simp only [Act.put, List.setIfInBounds_toArray, List.set_cons_zero, List.set_cons_succ]
        refine wpAnyH_done (by kernel_rfl) ?_ _
        have HB3 := hid (HB2.out.same ((Kept.refl (fun _ => False) w2).drew)); have HK3 := hid (show w2.drew.heap[kb]? = _ from HK2.out); have K3 := hid (K2.out.drew)
        obtain ⟨w3, hw3⟩ : ∃ w3, w2.drew = w3 := ⟨_, rfl⟩
        rw [hw3] at HB3 HK3 K3 ⊢
        clear hHeld l0 l1 e1 e2 e3 e4 c0 c1 d0 d1 d2 hw3
        obtain ⟨w4, hrun, hb3, hk3⟩ := (HB3.out.same ((Kept.refl (fun _ => False) w3).drew)).layS t1 t2 t3 s
        have hcb := HB3.out.cells
        obtain ⟨c0, c1⟩ := hcb
        obtain ⟨d0, d1, d2⟩ := cells3 HK3.out
        have c1' : w3.drew.cell? ⟨bb, 1, none⟩ = some (.map (some m2)) := c1
        have d0' : w3.drew.cell? ⟨kb, 0, none⟩ = some (.int .u8 t1) := d0
        have d1' : w3.drew.cell? ⟨kb, 1, none⟩ = some (.int .u32 t2) := d1
        have d2' : w3.drew.cell? ⟨kb, 2, none⟩ = some (.int .u32 t3) := d2
        have HB4 := hid hb3; have K4 := hid (show Kept (fun i => i = m2) w w4 from (K3.out.mono (fun _ _ h => h.elim)).trans ((Kept.refl _ w3).drew.trans hk3))
        clear hb3 hk3
        go_wp2_with fail
        go_region
        all_goals
          go_wp2
          go_ret
          rw [HT.out]
          exact ⟨rfl, HB4.out, K4.out⟩
      · have hn2 : (n != 2) = true := by simp [h2]
        go_wp2_with fail
        go_quiet (fail)
        have KQ := kept_drewN (F := fun _ => False) w2 nq
        have HB3 := hid (HB2.out.same KQ); have HK3 := hid ((KQ.block _ (row_lt HK2.out) id).trans HK2.out); have K3 := hid (K2.out.trans KQ)
        obtain ⟨w3, hw3⟩ : ∃ w3, w2.drewN nq = w3 := ⟨_, rfl⟩
        rw [hw3] at HB3 HK3 K3 ⊢
        clear l0 c0 c1 d0 d1 d2 KQ hw3
        by_cases hns : n = s
        · have hne2 : (n != s) = false := by simp [hns]
          have HT := hid (show settleR K (t1, t2, t3) s = (0, layK K (t1, t2, t3) s) by rw [HT1.out, if_neg (fun h => h.2 hns)])
          clear hns h2
          obtain ⟨w4, hrun, hb3, hk3⟩ := (HB3.out.same ((Kept.refl (fun _ => False) w3).drew)).layS t1 t2 t3 s
          have hcb := HB3.out.cells
          obtain ⟨c0, c1⟩ := hcb
          obtain ⟨d0, d1, d2⟩ := cells3 HK3.out
          have c1' : w3.drew.cell? ⟨bb, 1, none⟩ = some (.map (some m2)) := c1
          have d0' : w3.drew.cell? ⟨kb, 0, none⟩ = some (.int .u8 t1) := d0
          have d1' : w3.drew.cell? ⟨kb, 1, none⟩ = some (.int .u32 t2) := d1
          have d2' : w3.drew.cell? ⟨kb, 2, none⟩ = some (.int .u32 t3) := d2
          have HB4 := hid hb3; have K4 := hid (show Kept (fun i => i = m2) w w4 from (K3.out.mono (fun _ _ h => h.elim)).trans ((Kept.refl _ w3).drew.trans hk3))
          clear hb3 hk3
          go_wp2_with fail
          go_region
          all_goals
            go_wp2
            go_ret
            rw [HT.out]
            exact ⟨rfl, HB4.out, K4.out⟩
        · have hne2 : (n != s) = true := by simp [hns]
          have HT := hid (show settleR K (t1, t2, t3) s = (9, K) by rw [HT1.out, if_pos ⟨h2, hns⟩])
          clear hns h2
          go_wp2
          go_ret
          rw [HT.out]
          exact ⟨rfl, HB3.out, K3.out.mono (fun _ _ h => h.elim)⟩
  · go_wp2_with fail
    try rw [HW.out, HKB.out]
    clear hw1 hkb'
    go_quiet (fail)
    have KQ := kept_drewN (F := fun _ => False) w1 nq
    have HB2 := hid (HB.out.same KQ); have HK2 := hid ((KQ.block _ (row_lt HK.out) id).trans HK.out); have K2 := hid (K1.out.trans KQ)
    obtain ⟨w2, hw2⟩ : ∃ w2, w1.drewN nq = w2 := ⟨_, rfl⟩
    rw [hw2] at HB2 HK2 K2 ⊢
    clear c0 c1 d0 d1 d2 l0 KQ hw2
    by_cases h0 : n = 0
    · have hne : (n == 0) = true := by simp [h0]
      have HT := hid (show settleR K (t1, t2, t3) s = (6, K) by rw [HT0.out, if_pos h0])
      clear h0
      go_wp2
      go_ret
      rw [HT.out]
      exact ⟨rfl, HB2.out, K2.out.mono (fun _ _ h => h.elim)⟩
    · have hne : (n == 0) = false := by simp [h0]
      have HT1 := hid (show settleR K (t1, t2, t3) s = if n ≠ 2 ∧ n ≠ s then (9, K) else (0, layK K (t1, t2, t3) s) by rw [HT0.out, if_neg h0])
      clear h0
      have hcb := HB2.out.cells
      obtain ⟨c0, c1⟩ := hcb
      obtain ⟨d0, d1, d2⟩ := cells3 HK2.out
      have l0 := HB2.out.look2 t1 t2 t3
      rw [HSS.out] at l0
      by_cases h2 : n = 2
      · have hn2 : (n != 2) = false := by simp [h2]
        have HT := hid (show settleR K (t1, t2, t3) s = (0, layK K (t1, t2, t3) s) by rw [HT1.out, if_neg (fun h => h.1 h2)])
        clear h2
        have l1 : (Instr.lookup 52 (.map (some m2)) (.agg #[.int .u8 t1, .int .u32 t2, .int .u32 t3]) false).run Try.prog w2.drew = .ok (.int .i64 n) w2.drew := l0 1
        have e1 : w2.drew.cell? ⟨bb, 1, none⟩ = some (.map (some m2)) := c1
        have e2 : w2.drew.cell? ⟨kb, 0, none⟩ = some (.int .u8 t1) := d0
        have e3 : w2.drew.cell? ⟨kb, 1, none⟩ = some (.int .u32 t2) := d1
        have e4 : w2.drew.cell? ⟨kb, 2, none⟩ = some (.int .u32 t3) := d2
        go_wp2_with fail
        refine wp_region_held_drew (S := fun w' => w' = w2.drew) (by kernel_rfl) rfl (fun hHeld => ?_)
        refine wpAnyH_at 0 (some 27) (v := ?v9200) (by decide) rfl (by kernel_rfl) (by kernel_rfl) (by kernel_rfl) (fun _ _ _ h => h) (Or.inl ⟨by rfl, ?y9200⟩) (by assumption) ?r9200
        case y9200 => (intro w hSw; (try dsimp only at hSw); go_simp; (try with_reducible rfl))
        simp only [Act.put, List.setIfInBounds_toArray, List.set_cons_zero, List.set_cons_succ]
        refine wpAnyH_at 1 (some 28) (v := ?v9201) (by decide) rfl (by kernel_rfl) (by kernel_rfl) (by kernel_rfl) (fun _ _ _ h => h) (Or.inl ⟨by rfl, ?y9201⟩) (by assumption) ?r9201
        case y9201 => (intro w hSw; (try dsimp only at hSw); go_simp; (try with_reducible rfl))
        simp only [Act.put, List.setIfInBounds_toArray, List.set_cons_zero, List.set_cons_succ]
        refine wpAnyH_at 2 (some 29) (v := ?v9202) (by decide) rfl (by kernel_rfl) (by kernel_rfl) (by kernel_rfl) (fun _ _ _ h => h) (Or.inl ⟨by rfl, ?y9202⟩) (by assumption) ?r9202
        case y9202 => (intro w hSw; (try dsimp only at hSw); go_simp; (try with_reducible rfl))
        simp only [Act.put, List.setIfInBounds_toArray, List.set_cons_zero, List.set_cons_succ]
        refine wpAnyH_at 3 (some 30) (v := ?v9203) (by decide) rfl (by kernel_rfl) (by kernel_rfl) (by kernel_rfl) (fun _ _ _ h => h) (Or.inl ⟨by rfl, ?y9203⟩) (by assumption) ?r9203
        case y9203 => (intro w hSw; (try dsimp only at hSw); go_simp; (try with_reducible rfl))
        simp only [Act.put, List.setIfInBounds_toArray, List.set_cons_zero, List.set_cons_succ]
        refine wpAnyH_at 4 (some 31) (v := ?v9204) (by decide) rfl (by kernel_rfl) (by kernel_rfl) (by kernel_rfl) (fun _ _ _ h => h) (Or.inl ⟨by rfl, ?y9204⟩) (by assumption) ?r9204
        case y9204 => (intro w hSw; (try dsimp only at hSw); go_simp; (try with_reducible rfl))
        simp only [Act.put, List.setIfInBounds_toArray, List.set_cons_zero, List.set_cons_succ]
        refine wpAnyH_at 5 (some 32) (v := ?v9205) (by decide) rfl (by kernel_rfl) (by kernel_rfl) (by kernel_rfl) (fun _ _ _ h => h) (Or.inl ⟨by rfl, ?y9205⟩) (by assumption) ?r9205
        case y9205 => (intro w hSw; (try dsimp only at hSw); go_simp; (try with_reducible rfl))
        simp only [Act.put, List.setIfInBounds_toArray, List.set_cons_zero, List.set_cons_succ]
        refine wpAnyH_at 6 (some 33) (v := ?v9206) (by decide) rfl (by kernel_rfl) (by kernel_rfl) (by kernel_rfl) (fun _ _ _ h => h) (Or.inl ⟨by rfl, ?y9206⟩) (by assumption) ?r9206
        case y9206 => (intro w hSw; (try dsimp only at hSw); go_simp; (try with_reducible rfl))
        simp only [Act.put, List.setIfInBounds_toArray, List.set_cons_zero, List.set_cons_succ]
        refine wpAnyH_at 7 (some 34) (v := ?v9207) (by decide) rfl (by kernel_rfl) (by kernel_rfl) (by kernel_rfl) (fun _ _ _ h => h) (Or.inl ⟨by rfl, ?y9207⟩) (by assumption) ?r9207
        case y9207 => (intro w hSw; (try dsimp only at hSw); go_simp; (try with_reducible rfl))
        simp only [Act.put, List.setIfInBounds_toArray, List.set_cons_zero, List.set_cons_succ]
        refine wpAnyH_at 8 (some 35) (v := undef) (by decide) rfl (by kernel_rfl) (by kernel_rfl) (by kernel_rfl) (fun _ _ _ h => h) (Or.inr ⟨by rfl, rfl⟩) (by assumption) ?_
        simp only [Act.put, List.setIfInBounds_toArray, List.set_cons_zero, List.set_cons_succ]
        refine wpAnyH_at 9 (some 36) (v := undef) (by decide) rfl (by kernel_rfl) (by kernel_rfl) (by kernel_rfl) (fun _ _ _ h => h) (Or.inr ⟨by rfl, rfl⟩) (by assumption) ?_
        simp only [Act.put, List.setIfInBounds_toArray, List.set_cons_zero, List.set_cons_succ]
        refine wpAnyH_at 10 (some 37) (v := undef) (by decide) rfl (by kernel_rfl) (by kernel_rfl) (by kernel_rfl) (fun _ _ _ h => h) (Or.inr ⟨by rfl, rfl⟩) (by assumption) ?_
        simp only [Act.put, List.setIfInBounds_toArray, List.set_cons_zero, List.set_cons_succ]
        refine wpAnyH_at 11 (some 38) (v := undef) (by decide) rfl (by kernel_rfl) (by kernel_rfl) (by kernel_rfl) (fun _ _ _ h => h) (Or.inr ⟨by rfl, rfl⟩) (by assumption) ?_
        simp only [Act.put, List.setIfInBounds_toArray, List.set_cons_zero, List.set_cons_succ]
        refine wpAnyH_at 12 (some 39) (v := undef) (by decide) rfl (by kernel_rfl) (by kernel_rfl) (by kernel_rfl) (fun _ _ _ h => h) (Or.inr ⟨by rfl, rfl⟩) (by assumption) ?_
        simp only [Act.put, List.setIfInBounds_toArray, List.set_cons_zero, List.set_cons_succ]
        refine wpAnyH_at 13 (some 40) (v := undef) (by decide) rfl (by kernel_rfl) (by kernel_rfl) (by kernel_rfl) (fun _ _ _ h => h) (Or.inr ⟨by rfl, rfl⟩) (by assumption) ?_
        simp only [Act.put, List.setIfInBounds_toArray, List.set_cons_zero, List.set_cons_succ]
        refine wpAnyH_at 14 (some 41) (v := undef) (by decide) rfl (by kernel_rfl) (by kernel_rfl) (by kernel_rfl) (fun _ _ _ h => h) (Or.inr ⟨by rfl, rfl⟩) (by assumption) ?_
        simp only [Act.put, List.setIfInBounds_toArray, List.set_cons_zero, List.set_cons_succ]
        refine wpAnyH_at 15 (some 42) (v := undef) (by decide) rfl (by kernel_rfl) (by kernel_rfl) (by kernel_rfl) (fun _ _ _ h => h) (Or.inr ⟨by rfl, rfl⟩) (by assumption) ?_
        simp only [Act.put, List.setIfInBounds_toArray, List.set_cons_zero, List.set_cons_succ]
        refine wpAnyH_at 16 (some 43) (v := ?v9208) (by decide) rfl (by kernel_rfl) (by kernel_rfl) (by kernel_rfl) (fun _ _ _ h => h) (Or.inl ⟨by rfl, ?y9208⟩) (by assumption) ?r9208
        case y9208 => (intro w hSw; (try dsimp only at hSw); go_simp; (try with_reducible rfl))
        simp only [Act.put, List.setIfInBounds_toArray, List.set_cons_zero, List.set_cons_succ]
        refine wpAnyH_at 17 (some 26) (v := ?v9209) (by decide) rfl (by kernel_rfl) (by kernel_rfl) (by kernel_rfl) (fun _ _ _ h => h) (Or.inl ⟨by rfl, ?y9209⟩) (by assumption) ?r9209
        case y9209 => (intro w hSw; (try dsimp only at hSw); go_simp; (try with_reducible rfl))
        simp only [Act.put, List.setIfInBounds_toArray, List.set_cons_zero, List.set_cons_succ]
        refine wpAnyH_done (by kernel_rfl) ?_ _
        have HB3 := hid (HB2.out.same ((Kept.refl (fun _ => False) w2).drew)); have HK3 := hid (show w2.drew.heap[kb]? = _ from HK2.out); have K3 := hid (K2.out.drew)
        obtain ⟨w3, hw3⟩ : ∃ w3, w2.drew = w3 := ⟨_, rfl⟩
        rw [hw3] at HB3 HK3 K3 ⊢
        clear hHeld l0 l1 e1 e2 e3 e4 c0 c1 d0 d1 d2 hw3
        obtain ⟨w4, hrun, hb3, hk3⟩ := (HB3.out.same ((Kept.refl (fun _ => False) w3).drew)).layS t1 t2 t3 s
        have hcb := HB3.out.cells
        obtain ⟨c0, c1⟩ := hcb
        obtain ⟨d0, d1, d2⟩ := cells3 HK3.out
        have c1' : w3.drew.cell? ⟨bb, 1, none⟩ = some (.map (some m2)) := c1
        have d0' : w3.drew.cell? ⟨kb, 0, none⟩ = some (.int .u8 t1) := d0
        have d1' : w3.drew.cell? ⟨kb, 1, none⟩ = some (.int .u32 t2) := d1
        have d2' : w3.drew.cell? ⟨kb, 2, none⟩ = some (.int .u32 t3) := d2
        have HB4 := hid hb3; have K4 := hid (show Kept (fun i => i = m2) w w4 from (K3.out.mono (fun _ _ h => h.elim)).trans ((Kept.refl _ w3).drew.trans hk3))
        clear hb3 hk3
        go_wp2_with fail
        go_region
        all_goals
          go_wp2
          go_ret
          rw [HT.out]
          exact ⟨rfl, HB4.out, K4.out⟩
      · have hn2 : (n != 2) = true := by simp [h2]
        go_wp2_with fail
        go_quiet (fail)
        have KQ := kept_drewN (F := fun _ => False) w2 nq
        have HB3 := hid (HB2.out.same KQ); have HK3 := hid ((KQ.block _ (row_lt HK2.out) id).trans HK2.out); have K3 := hid (K2.out.trans KQ)
        obtain ⟨w3, hw3⟩ : ∃ w3, w2.drewN nq = w3 := ⟨_, rfl⟩
        rw [hw3] at HB3 HK3 K3 ⊢
        clear l0 c0 c1 d0 d1 d2 KQ hw3
        by_cases hns : n = s
        · have hne2 : (n != s) = false := by simp [hns]
          have HT := hid (show settleR K (t1, t2, t3) s = (0, layK K (t1, t2, t3) s) by rw [HT1.out, if_neg (fun h => h.2 hns)])
          clear hns h2
          obtain ⟨w4, hrun, hb3, hk3⟩ := (HB3.out.same ((Kept.refl (fun _ => False) w3).drew)).layS t1 t2 t3 s
          have hcb := HB3.out.cells
          obtain ⟨c0, c1⟩ := hcb
          obtain ⟨d0, d1, d2⟩ := cells3 HK3.out
          have c1' : w3.drew.cell? ⟨bb, 1, none⟩ = some (.map (some m2)) := c1
          have d0' : w3.drew.cell? ⟨kb, 0, none⟩ = some (.int .u8 t1) := d0
          have d1' : w3.drew.cell? ⟨kb, 1, none⟩ = some (.int .u32 t2) := d1
          have d2' : w3.drew.cell? ⟨kb, 2, none⟩ = some (.int .u32 t3) := d2
          have HB4 := hid hb3; have K4 := hid (show Kept (fun i => i = m2) w w4 from (K3.out.mono (fun _ _ h => h.elim)).trans ((Kept.refl _ w3).drew.trans hk3))
          clear hb3 hk3
          go_wp2_with fail
          go_region
          all_goals
            go_wp2
            go_ret
            rw [HT.out]
            exact ⟨rfl, HB4.out, K4.out⟩
        · have hne2 : (n != s) = true := by simp [hns]
          have HT := hid (show settleR K (t1, t2, t3) s = (9, K) by rw [HT1.out, if_pos ⟨h2, hns⟩])
          clear hns h2
          go_wp2
          go_ret
          rw [HT.out]
          exact ⟨rfl, HB3.out, K3.out.mono (fun _ _ h => h.elim)⟩
end
section
set_option maxRecDepth 100000 in
theorem gsettle_arg (b : Value) (w : World) (t1 t2 t3 s : Int) (h3 : s ≠ 3) (h4 : s ≠ 4) :
    Calls Try.prog 28 #[b, .agg #[.int .u8 t1, .int .u32 t2, .int .u32 t3], .int .i64 s] w fun e w' => e = .returned (.int .i64 1) ∧ Kept (fun _ => False) w w' := by
  have e3 : (s != 3) = true := by simpa using h3
  have e4 : (s != 4) = true := by simpa using h4
  have K1 := hid ((Kept.refl (fun _ => False) w).alloc (.cells #[.int .u8 t1, .int .u32 t2, .int .u32 t3] 28))
  clear h3 h4
  go_enter Try.func28, Try.ntmps28
  go_wp2
  go_ret
  exact ⟨rfl, K1.out⟩
end
end Go.Proofs.Ytaobioleodfafaa
/- Commit: Begin: the nodes. -/
namespace Go.Proofs.Ytaobioleodfafaa
open Go.RowKit
def addS (S : List Int) (v : Int) : List Int := if v ∈ S then S else S ++ [v]
def ded (l : List Int) : List Int := l.foldl addS []
theorem ded_snoc (l : List Int) (v : Int) : ded (l ++ [v]) = addS (ded l) v := by simp [ded, List.foldl_append]
theorem addS_nodup {S : List Int} (h : S.Nodup) (v : Int) : (addS S v).Nodup := by
  unfold addS
  split
  · exact h
  · rename_i hv
    rw [List.nodup_append]
    exact ⟨h, by simp, fun a ha b hb e => by simp at hb; rw [e, hb] at ha; exact hv ha⟩
theorem mem_addS {S : List Int} {v x : Int} : x ∈ addS S v ↔ x ∈ S ∨ x = v := by
  unfold addS
  split
  · rename_i h
    exact ⟨.inl, fun h2 => h2.elim id (fun e => e ▸ h)⟩
  · simp
theorem ded_facts (l : List Int) : ∀ k, k ≤ l.length → (ded (l.take k)).Nodup ∧ (ded (l.take k)).length ≤ k ∧ (∀ x, x ∈ ded (l.take k) ↔ x ∈ l.take k) ∧ ((ded (l.take k)).length = k → ded (l.take k) = l.take k) := by
  intro k
  induction k with
  | zero => intro _; simp [ded]
  | succ k ih =>
    intro hk
    obtain ⟨h1, h2, h3, h4⟩ := ih (by omega)
    obtain ⟨v, hv⟩ : ∃ v, l[k]? = some v := ⟨_, List.getElem?_eq_getElem (by omega)⟩
    have e : l.take (k + 1) = l.take k ++ [v] := by rw [List.take_add_one, hv]; rfl
    rw [e, ded_snoc]
    refine ⟨addS_nodup h1 v, ?_, fun x => by rw [mem_addS, h3, List.mem_append, List.mem_singleton], fun hl => ?_⟩
    · unfold addS
      split
      · omega
      · rw [List.length_append, List.length_singleton]; omega
    · unfold addS at hl ⊢
      split at hl
      · omega
      · rename_i hn
        rw [if_neg hn]
        rw [List.length_append, List.length_singleton] at hl
        rw [h4 (by omega)]
theorem pents_add : ∀ {S : List Int} {pb : Int → Nat} {v : Int}, S.Nodup → ∀ b, lay (pents S pb) v (ptr b) = pents (addS S v) (fun x => if x = v then b else pb x)
  | S, pb, v, hn, b => by
    by_cases hv : v ∈ S
    · have e : addS S v = S := by unfold addS; rw [if_pos hv]
      rw [e]
      clear e
      induction S with
      | nil => cases hv
      | cons a S ih =>
        simp only [List.nodup_cons] at hn
        have e2 : ∀ (f : Int → Nat) (T : List Int), pents (a :: T) f = (a, ptr (f a)) :: pents T f := fun _ _ => rfl
        rw [e2, e2]
        unfold lay
        by_cases hva : v = a
        · subst hva
          simp only [if_true]
          congr 1
          unfold pents
          apply List.map_congr_left
          intro x hx
          have hxv : ¬ x = v := by rintro rfl; exact hn.1 hx
          simp only [if_neg hxv]
        · rw [if_neg hva, if_neg (fun e => hva e.symm), ih hn.2 ((List.mem_cons.1 hv).resolve_left hva)]
    · have e : addS S v = S ++ [v] := by unfold addS; rw [if_neg hv]
      rw [e]
      exact pents_put hv b
/-- what Begin comes to -/
def begR (ns : List Int) (there : Bool) : Int :=
  if ns.length = 0 ∨ 4 < ns.length then 1 else if ns.any (fun v => decide (4 ≤ v)) then 1 else if (ded ns).length < ns.length then 3 else if there then 7 else 0
section
variable {own : Nat → Option Tx} {B : Nat} {w : World} {bb m1 m2 : Nat} {G : List (Tx × Rn)} {A : Tx → Ad} {K : List (Tx × Int)} {t1 t2 t3 : Int}
set_option maxRecDepth 100000 in
set_option maxHeartbeats 1000000 in
theorem begin_len (b : Value) (w : World) (t1 t2 t3 : Int) (a : Option Addr) (N c : Nat) (h : N = 0 ∨ 4 < N) :
    Calls Try.prog 9 #[b, .agg #[.int .u8 t1, .int .u32 t2, .int .u32 t3], .slice a N c] w fun e w' => e = .returned (.int .i64 1) ∧ Kept (fun _ => False) w w' := by
  have K1 := hid ((Kept.refl (fun _ => False) w).alloc (.cells #[.int .u8 t1, .int .u32 t2, .int .u32 t3] 28))
  go_enter Try.func9, Try.ntmps9
  by_cases h0 : N = 0
  · have hz : ((N : Int) == 0) = true := by simp [h0]
    clear h h0
    go_wp2
    go_ret
    exact ⟨rfl, K1.out⟩
  · have hz : ((N : Int) == 0) = false := by rw [beq_eq_false_iff_ne]; omega
    have hd4 : decide (4 < (N : Int)) = true := by simp; omega
    clear h h0
    go_wp2
    go_ret
    exact ⟨rfl, K1.out⟩
set_option maxRecDepth 100000 in
set_option maxHeartbeats 1000000 in
theorem begin_nil (w : World) (t1 t2 t3 : Int) {F : Nat → Prop} {a : Option Addr} {N c : Nat} {ns : List Int} (hl : Lies F w 1 (.slice a N c) N (bcells ns)) (h4 : 1 ≤ N ∧ N ≤ 4) (hr : ∀ v ∈ ns, 0 ≤ v ∧ v ≤ 255) :
    Calls Try.prog 9 #[.pointer none, .agg #[.int .u8 t1, .int .u32 t2, .int .u32 t3], .slice a N c] w fun e w' => e = .returned (.int .i64 (if ns.any (fun v => decide (4 ≤ v)) then 1 else if (ded ns).length < ns.length then 3 else 6)) ∧ Kept (fun _ => False) w w' := by
  obtain ⟨res, hres⟩ : ∃ x : Int, (if ns.any (fun v => decide (4 ≤ v)) then (1 : Int) else if (ded ns).length < ns.length then 3 else 6) = x := ⟨_, rfl⟩
  rw [hres]
  have HRES := hid hres
  clear hres
  have hlen : ns.length = N := by have := hl.len; simpa using this
  have HLN := hid hlen; have HR := hid hr; have HL := hid hl
  obtain ⟨n1, n4⟩ := h4
  have hmm := @run_makeMap Try.prog
  clear hlen hr hl
  go_enter Try.func9, Try.ntmps9
  have hz : ((N : Int) == 0) = false := by rw [beq_eq_false_iff_ne]; omega
  have hd4 : decide (4 < (N : Int)) = false := by simp; omega
  go_wp2_with fail
  have hk1 := (((Kept.refl (fun _ => False) w).alloc (.cells #[.int .u8 t1, .int .u32 t2, .int .u32 t3] 28)).alloc (.map #[] 0))
  have hm1 : MapIs ((w.alloc (.cells #[.int .u8 t1, .int .u32 t2, .int .u32 t3] 28)).alloc (.map #[] 0)) (w.heap.size + 1) .u8 [] := by
    simpa using MapIs.made (w.alloc (.cells #[.int .u8 t1, .int .u32 t2, .int .u32 t3] 28)) .u8
  have hkb := (two_new w (.cells #[.int .u8 t1, .int .u32 t2, .int .u32 t3] 28) (.map #[] 0)).1
  obtain ⟨w1, hw1⟩ : ∃ w1, (w.alloc (.cells #[.int .u8 t1, .int .u32 t2, .int .u32 t3] 28)).alloc (.map #[] 0) = w1 := ⟨_, rfl⟩
  obtain ⟨mp, hmp⟩ : ∃ mp, w.heap.size + 1 = mp := ⟨_, rfl⟩
  obtain ⟨kb, hkb'⟩ : ∃ kb, w.heap.size = kb := ⟨_, rfl⟩
  rw [hw1] at hk1 hm1 hkb ⊢
  rw [hmp] at hm1 ⊢
  rw [hkb'] at hkb ⊢
  have HSZ := hid (show w.heap.size = kb ∧ mp = kb + 1 from ⟨hkb', by omega⟩)
  have K1 := hid hk1; have M1 := hid hm1; have KB := hid hkb
  clear hw1 hmp hkb' hk1 hm1 hkb hz hd4
  go_loopw [21] (fun i wr => ∃ (k : Nat) (pb : Int → Nat), k ≤ N ∧ i = .int .i64 k ∧ (∀ v ∈ ns.take k, v < 4) ∧ MapIs wr mp .u8 (pents (ded (ns.take k)) pb) ∧ (∀ v ∈ ded (ns.take k), wr.heap[pb v]? = some (.cells #[.bool false, .bool false] 58 (0, 0)) ∧ mp < pb v) ∧ (∀ a ∈ ded (ns.take k), ∀ b ∈ ded (ns.take k), pb a = pb b → a = b) ∧ Kept (fun i => i = mp) w1 wr) (fun i _ => N - (RowKit.intOf i).toNat)
  case atStart => exact ⟨0, fun _ => 0, Nat.zero_le _, rfl, by simp, M1.out, by simp [ded], by simp [ded], Kept.refl _ _⟩
  case round =>
    rename World => wr
    obtain ⟨k, pb, hk, rfl, hlt4, hm, hp, hi, hkp⟩ := hrel
    have MR := hid hm; have PR := hid hp; have IR := hid hi; have KR := hid hkp; have H4 := hid hlt4
    clear hm hp hi hkp hlt4
    by_cases hlt : k < N
    · have hltI : (k : Int) < (N : Int) := by omega
      obtain ⟨v, hv⟩ : ∃ v, ns[k]? = some v := ⟨_, List.getElem?_eq_getElem (by rw [HLN.out]; exact hlt)⟩
      obtain ⟨v0, v255⟩ := HR.out v (List.mem_of_getElem? hv)
      obtain ⟨gs, os, cs, e1, q2, q3, _, hg, zc⟩ := HL.out.cell (by omega)
      simp only [Value.slice.injEq] at e1
      obtain ⟨rfl, _, rfl⟩ := e1
      have y0 := zc k _ (show (bcells ns)[k]? = some (.int .u8 v) by simp [hv])
      have c0 := KR.out.cell (K1.out.cell y0 id) (show ¬ gs = mp by have := HSZ.out; omega)
      have HND := hid (ded_facts ns k (by rw [HLN.out]; omega)).1
      have hTK := hid (show ns.take (k + 1) = ns.take k ++ [v] by rw [List.take_add_one, hv]; rfl)
      have HVM := hid (List.mem_of_getElem? hv)
      unfold maxLen at q3
      clear hv zc y0
      by_cases hv4 : 4 ≤ v
      · have hge : decide (v ≥ 4) = true := by simpa using hv4
        have HANY := hid (show ns.any (fun v => decide (4 ≤ v)) = true from List.any_eq_true.2 ⟨v, HVM.out, by simpa using hv4⟩)
        go_wp2_with fail
        go_ret
        exact ⟨ret_int (by rw [← HRES.out, HANY.out]; rfl), K1.out.trans' KR.out (fun i e => .inr (by have := HSZ.out; omega))⟩
      · have hge : ¬ v ≥ 4 := by omega
        have HV4 := hid (show v < 4 by omega)
        go_wp2_with (refine wpList_lay rfl 55 5 56 (.tmp 27) (.tmp 28) (.tmp 30) rfl mp .u8 v (ptr wr.heap.size) rfl rfl rfl Try.underlying55 Try.underlying5 _ (by exact MR.out.of_block (Below.heap_alloc _ _ _ MR.out.lt)) ?_; intro w2 hm2 hk2; have M2 := hid hm2; have K2 := hid hk2; clear hm2 hk2)
        go_roundw
        case rel =>
          have hpz : ∀ x ∈ ded (ns.take k), pb x < wr.heap.size := fun x hx => row_lt (PR.out x hx).1
          have hmlt := MR.out.lt
          have hnew : w2.heap[wr.heap.size]? = some (.cells #[.bool false, .bool false] 58 (0, 0)) := (K2.out.block _ (by simp) (by omega)).trans (row_new wr _)
          refine ⟨k + 1, fun x => if x = v then wr.heap.size else pb x, by omega, by go_num, fun x hx => ?_, ?_, fun x hx => ?_, fun x hx y hy e => ?_, (KR.out.alloc _).trans K2.out⟩
          · rw [hTK.out, List.mem_append, List.mem_singleton] at hx
            rcases hx with hx | rfl
            · exact H4.out x hx
            · exact HV4.out
          · rw [hTK.out, ded_snoc, ← pents_add HND.out]; exact M2.out
          · rw [hTK.out, ded_snoc, mem_addS] at hx
            by_cases hxv : x = v
            · simp only [if_pos hxv]; exact ⟨hnew, hmlt⟩
            · have hx' := hx.resolve_right hxv
              simp only [if_neg hxv]
              have h1 := PR.out x hx'
              exact ⟨((K2.out.block _ (by have := hpz x hx'; simp; omega) (by omega)).trans (Below.heap_alloc _ _ _ (hpz x hx'))).trans h1.1, h1.2⟩
          · rw [hTK.out, ded_snoc, mem_addS] at hx hy
            by_cases hxv : x = v <;> by_cases hyv : y = v <;> simp only [hxv, hyv, if_true, if_false] at e ⊢
            · have := hpz y (hy.resolve_right hyv); omega
            · have := hpz x (hx.resolve_right hxv); omega
            · exact IR.out x (hx.resolve_right hxv) y (hy.resolve_right hyv) e
        case measure => (simp only [RowKit.intOf]; omega)
    · obtain rfl : k = N := by omega
      have htk : ns.take k = ns := by rw [← HLN.out, List.take_length]
      rw [htk] at MR PR IR H4
      have HNOT := hid (show ns.any (fun v => decide (4 ≤ v)) = false by
        rw [List.any_eq_false]
        intro x hx
        have := H4.out x hx
        simp; omega)
      have HKW := hid (show Kept (fun _ => False) w wr from K1.out.trans' KR.out (fun i e => .inr (by have := HSZ.out; omega)))
      have hdl : (ded ns).length ≤ k := by have h := (ded_facts ns ns.length (Nat.le_refl _)).2.1; rw [List.take_length, HLN.out] at h; exact h
      have hpl : (pents (ded ns) pb).length = (ded ns).length := by simp [pents]
      clear htk
      obtain ⟨M, hM⟩ : ∃ M, (ded ns).length = M := ⟨_, rfl⟩
      rw [hM] at hpl hdl
      have HM := hid hM
      by_cases hd : M < k
      · have hdI : (M : Int) < (k : Int) := by omega
        have HV := hid (show (if ns.any (fun v => decide (4 ≤ v)) then (1 : Int) else if (ded ns).length < ns.length then 3 else 6) = 3 by rw [HNOT.out, HM.out, HLN.out]; simp [hd])
        clear hd hM
        go_wp2_with (refine wpList_mlen rfl (.tmp 33) 55 _ _ rfl mp rfl Try.underlying55 .u8 (pents (ded ns) pb) MR.out ?_)
        go_ret
        exact ⟨ret_int (by rw [← HRES.out, HV.out]), HKW.out⟩
      · have hdI : ¬ (M : Int) < (k : Int) := by omega
        have HV := hid (show (if ns.any (fun v => decide (4 ≤ v)) then (1 : Int) else if (ded ns).length < ns.length then 3 else 6) = 6 by rw [HNOT.out, HM.out, HLN.out]; simp [hd])
        clear hd hM
        go_wp2_with (refine wpList_mlen rfl (.tmp 33) 55 _ _ rfl mp rfl Try.underlying55 .u8 (pents (ded ns) pb) MR.out ?_)
        go_ret
        exact ⟨ret_int (by rw [← HRES.out, HV.out]), HKW.out⟩
end
end Go.Proofs.Ytaobioleodfafaa
/- Commit: Begin at a book with many runs. -/
namespace Go.Proofs.Ytaobioleodfafaa
open Go.RowKit
def rn0 (ns : List Int) : Rn := ⟨ns, fun _ => false, fun _ => false, 1⟩
section
variable {own : Nat → Option Tx} {B : Nat} {w : World} {bb m1 m2 : Nat} {G : List (Tx × Rn)} {A : Tx → Ad} {K : List (Tx × Int)} {t1 t2 t3 : Int}
/-- a run that is new -/
theorem GBook.add {w' : World} (h : GBook own B w bb m1 m2 G A K) {t : Tx} (hl : lookG G t = none) {rb mp : Nat} {pb : Int → Nat} {ns : List Int}
    (hm : MapT w' m1 ((G.map fun p => (p.1, ptr (A p.1).rb)) ++ [(t, ptr rb)])) (k : Kept (fun i => i = m1) w w')
    (ho : w'.heap[rb]? = some (.cells #[.map (some mp), .int .i64 1] 61 (0, 0))) (hmp : MapIs w' mp .u8 (pents ns pb)) (hp : ∀ v ∈ ns, w'.heap[pb v]? = some (.cells #[.bool false, .bool false] 58 (0, 0)))
    (hi : ∀ a ∈ ns, ∀ b ∈ ns, pb a = pb b → a = b) (hz : w.heap.size ≤ rb ∧ w.heap.size ≤ mp ∧ ∀ v ∈ ns, w.heap.size ≤ pb v) :
    ∃ own' A', (∀ i, own' i ≠ none → own i ≠ none ∨ w.heap.size ≤ i) ∧ GBook own' B w' bb m1 m2 (G ++ [(t, rn0 ns)]) A' K := by
  have hbw := row_lt h.obj
  have hlow := h.low.1
  have hne : ∀ p ∈ G, p.1 ≠ t := lookG_none hl
  refine ⟨fun i => if w.heap.size ≤ i ∧ i < w'.heap.size then some t else own i, fun x => if x = t then ⟨rb, mp, pb⟩ else A x, fun i hi => by
    by_cases hc : w.heap.size ≤ i ∧ i < w'.heap.size
    · exact .inr hc.1
    · simp only [if_neg hc] at hi
      exact .inl hi, ?_⟩
  have hold : ∀ i, i < w.heap.size → (if w.heap.size ≤ i ∧ i < w'.heap.size then some t else own i) = own i := fun i hi => if_neg (by omega)
  have hnew : ∀ i, w.heap.size ≤ i → i < w'.heap.size → (if w.heap.size ≤ i ∧ i < w'.heap.size then some t else own i) = some t := fun i h1 h2 => if_pos ⟨h1, h2⟩
  refine ⟨?_, ?_, ?_, fun p hpm => ?_, ⟨?_, ?_, ?_, h.top.2.2.2⟩, fun i hi => ?_, ⟨h.low.1, h.low.2.1, h.low.2.2.1, fun i x hx => ?_⟩⟩
  · refine (k.block _ hbw (fun e => ?_)).trans h.obj
    obtain ⟨es, c, hb, _⟩ := h.map1
    have := h.obj
    rw [e, hb] at this
    cases this
  · have e : (G ++ [(t, rn0 ns)]).map (fun p => (p.1, ptr ((fun x => if x = t then (⟨rb, mp, pb⟩ : Ad) else A x) p.1).rb)) = (G.map fun p => (p.1, ptr (A p.1).rb)) ++ [(t, ptr rb)] := by
      rw [List.map_append]
      congr 1
      · apply List.map_congr_left
        intro p hp
        simp only [if_neg (hne p hp)]
      · simp
    rw [e]
    exact hm
  · exact h.map2.of_block (k.block _ h.map2.lt (fun e => h.top.2.2.2 e.symm))
  · rcases List.mem_append.1 hpm with hpm | hpm
    · have hr := h.runs p hpm
      simp only [if_neg (hne p hpm)]
      have hr' := hr.kept k (fun i hi e => by rw [e, h.top.2.1] at hi; cases hi)
      exact ⟨hr'.obj, hr'.map, hr'.part, hr'.inj, by rw [hold _ (row_lt hr.obj)]; exact hr.own.1, by rw [hold _ hr.map.lt]; exact hr.own.2.1, fun v hv => by rw [hold _ (row_lt (hr.part v hv))]; exact hr.own.2.2 v hv⟩
    · rw [List.mem_singleton] at hpm
      subst hpm
      simp only [if_true]
      exact ⟨ho, hmp, hp, hi, hnew _ hz.1 (row_lt ho), hnew _ hz.2.1 hmp.lt, fun v hv => hnew _ (hz.2.2 v hv) (row_lt (hp v hv))⟩
  · rw [hold _ hbw]; exact h.top.1
  · rw [hold _ h.map1.lt]; exact h.top.2.1
  · rw [hold _ h.map2.lt]; exact h.top.2.2.1
  · have h1 : ¬ (w.heap.size ≤ i ∧ i < w'.heap.size) := by omega
    simp only [if_neg h1]
    exact h.new i (Nat.le_trans k.size hi)
  · by_cases hc : w.heap.size ≤ i ∧ i < w'.heap.size
    · omega
    · simp only [if_neg hc] at hx
      exact h.low.2.2.2 i x hx
set_option maxRecDepth 100000 in
set_option maxHeartbeats 2000000 in
theorem gbegin_any (hb : GBook own B w bb m1 m2 G A K) {F : Nat → Prop} {a : Option Addr} {N c : Nat} {ns : List Int} (hl : Lies F w 1 (.slice a N c) N (bcells ns)) (h4 : 1 ≤ N ∧ N ≤ 4) (hr : ∀ v ∈ ns, 0 ≤ v ∧ v ≤ 255) :
    Calls Try.prog 9 #[.pointer (some ⟨bb, 0, none⟩), .agg #[.int .u8 t1, .int .u32 t2, .int .u32 t3], .slice a N c] w fun e w' => e = .returned (.int .i64 (begR ns (lookG G (t1, t2, t3)).isSome)) ∧ Kept (fun i => i = m1) w w' ∧
      ∃ own' A', (∀ i, own' i ≠ none → own i ≠ none ∨ w.heap.size ≤ i) ∧ GBook own' B w' bb m1 m2 (if begR ns (lookG G (t1, t2, t3)).isSome = 0 then G ++ [((t1, t2, t3), rn0 ns)] else G) A' K := by
  have HB := hid hb
  obtain ⟨res, hres⟩ : ∃ x : Int, begR ns (lookG G (t1, t2, t3)).isSome = x := ⟨_, rfl⟩
  rw [hres]
  have HLEN := hid (show ns.length = N by have := hl.len; simpa using this)
  have HRES := hid (show (if ns.any (fun v => decide (4 ≤ v)) then (1 : Int) else if (ded ns).length < ns.length then 3 else if (lookG G (t1, t2, t3)).isSome then 7 else 0) = res by rw [← hres]; unfold begR; rw [if_neg (c := ns.length = 0 ∨ 4 < ns.length) (by rw [HLEN.out]; omega)])
  obtain ⟨G', hG'⟩ : ∃ G', (if res = 0 then G ++ [((t1, t2, t3), rn0 ns)] else G) = G' := ⟨_, rfl⟩
  rw [hG']
  have HGG := hid hG'
  clear hres hb hG'
  have hlen : ns.length = N := by have := hl.len; simpa using this
  have HLN := hid hlen; have HR := hid hr; have HL := hid hl
  obtain ⟨n1, n4⟩ := h4
  have hmm := @run_makeMap Try.prog
  clear hlen hr hl
  go_enter Try.func9, Try.ntmps9
  have hz : ((N : Int) == 0) = false := by rw [beq_eq_false_iff_ne]; omega
  have hd4 : decide (4 < (N : Int)) = false := by simp; omega
  go_wp2_with fail
  have hk1 := (((Kept.refl (fun _ => False) w).alloc (.cells #[.int .u8 t1, .int .u32 t2, .int .u32 t3] 28)).alloc (.map #[] 0))
  have hm1 : MapIs ((w.alloc (.cells #[.int .u8 t1, .int .u32 t2, .int .u32 t3] 28)).alloc (.map #[] 0)) (w.heap.size + 1) .u8 [] := by
    simpa using MapIs.made (w.alloc (.cells #[.int .u8 t1, .int .u32 t2, .int .u32 t3] 28)) .u8
  have hkb := (two_new w (.cells #[.int .u8 t1, .int .u32 t2, .int .u32 t3] 28) (.map #[] 0)).1
  obtain ⟨w1, hw1⟩ : ∃ w1, (w.alloc (.cells #[.int .u8 t1, .int .u32 t2, .int .u32 t3] 28)).alloc (.map #[] 0) = w1 := ⟨_, rfl⟩
  obtain ⟨mp, hmp⟩ : ∃ mp, w.heap.size + 1 = mp := ⟨_, rfl⟩
  obtain ⟨kb, hkb'⟩ : ∃ kb, w.heap.size = kb := ⟨_, rfl⟩
  rw [hw1] at hk1 hm1 hkb ⊢
  rw [hmp] at hm1 ⊢
  rw [hkb'] at hkb ⊢
  have HSZ := hid (show w.heap.size = kb ∧ mp = kb + 1 from ⟨hkb', by omega⟩)
  have K1 := hid hk1; have M1 := hid hm1; have KB := hid hkb
  clear hw1 hmp hkb' hk1 hm1 hkb hz hd4
  go_loopw [21] (fun i wr => ∃ (k : Nat) (pb : Int → Nat), k ≤ N ∧ i = .int .i64 k ∧ (∀ v ∈ ns.take k, v < 4) ∧ MapIs wr mp .u8 (pents (ded (ns.take k)) pb) ∧ (∀ v ∈ ded (ns.take k), wr.heap[pb v]? = some (.cells #[.bool false, .bool false] 58 (0, 0)) ∧ mp < pb v) ∧ (∀ a ∈ ded (ns.take k), ∀ b ∈ ded (ns.take k), pb a = pb b → a = b) ∧ Kept (fun i => i = mp) w1 wr) (fun i _ => N - (RowKit.intOf i).toNat)
  case atStart => exact ⟨0, fun _ => 0, Nat.zero_le _, rfl, by simp, M1.out, by simp [ded], by simp [ded], Kept.refl _ _⟩
  case round =>
    rename World => wr
    obtain ⟨k, pb, hk, rfl, hlt4, hm, hp, hi, hkp⟩ := hrel
    have MR := hid hm; have PR := hid hp; have IR := hid hi; have KR := hid hkp; have H4 := hid hlt4
    clear hm hp hi hkp hlt4
    by_cases hlt : k < N
    · have hltI : (k : Int) < (N : Int) := by omega
      obtain ⟨v, hv⟩ : ∃ v, ns[k]? = some v := ⟨_, List.getElem?_eq_getElem (by rw [HLN.out]; exact hlt)⟩
      obtain ⟨v0, v255⟩ := HR.out v (List.mem_of_getElem? hv)
      obtain ⟨gs, os, cs, e1, q2, q3, _, hg, zc⟩ := HL.out.cell (by omega)
      simp only [Value.slice.injEq] at e1
      obtain ⟨rfl, _, rfl⟩ := e1
      have y0 := zc k _ (show (bcells ns)[k]? = some (.int .u8 v) by simp [hv])
      have c0 := KR.out.cell (K1.out.cell y0 id) (show ¬ gs = mp by have := HSZ.out; omega)
      have HND := hid (ded_facts ns k (by rw [HLN.out]; omega)).1
      have hTK := hid (show ns.take (k + 1) = ns.take k ++ [v] by rw [List.take_add_one, hv]; rfl)
      have HVM := hid (List.mem_of_getElem? hv)
      unfold maxLen at q3
      clear hv zc y0
      by_cases hv4 : 4 ≤ v
      · have hge : decide (v ≥ 4) = true := by simpa using hv4
        have HANY := hid (show ns.any (fun v => decide (4 ≤ v)) = true from List.any_eq_true.2 ⟨v, HVM.out, by simpa using hv4⟩)
        go_wp2_with fail
        go_ret
        exact ⟨ret_int (by rw [← HRES.out, HANY.out]; rfl), (K1.out.trans' KR.out (fun i e => .inr (by have := HSZ.out; omega)) : Kept (fun _ => False) w wr).mono (fun _ _ h => h.elim), own, A, fun _ h => .inl h, by rw [← HGG.out, if_neg (by rw [← HRES.out, HANY.out, if_pos rfl]; decide)]; exact HB.out.same (K1.out.trans' KR.out (fun i e => .inr (by have := HSZ.out; omega)))⟩
      · have hge : ¬ v ≥ 4 := by omega
        have HV4 := hid (show v < 4 by omega)
        go_wp2_with (refine wpList_lay rfl 55 5 56 (.tmp 27) (.tmp 28) (.tmp 30) rfl mp .u8 v (ptr wr.heap.size) rfl rfl rfl Try.underlying55 Try.underlying5 _ (by exact MR.out.of_block (Below.heap_alloc _ _ _ MR.out.lt)) ?_; intro w2 hm2 hk2; have M2 := hid hm2; have K2 := hid hk2; clear hm2 hk2)
        go_roundw
        case rel =>
          have hpz : ∀ x ∈ ded (ns.take k), pb x < wr.heap.size := fun x hx => row_lt (PR.out x hx).1
          have hmlt := MR.out.lt
          have hnew : w2.heap[wr.heap.size]? = some (.cells #[.bool false, .bool false] 58 (0, 0)) := (K2.out.block _ (by simp) (by omega)).trans (row_new wr _)
          refine ⟨k + 1, fun x => if x = v then wr.heap.size else pb x, by omega, by go_num, fun x hx => ?_, ?_, fun x hx => ?_, fun x hx y hy e => ?_, (KR.out.alloc _).trans K2.out⟩
          · rw [hTK.out, List.mem_append, List.mem_singleton] at hx
            rcases hx with hx | rfl
            · exact H4.out x hx
            · exact HV4.out
          · rw [hTK.out, ded_snoc, ← pents_add HND.out]; exact M2.out
          · rw [hTK.out, ded_snoc, mem_addS] at hx
            by_cases hxv : x = v
            · simp only [if_pos hxv]; exact ⟨hnew, hmlt⟩
            · have hx' := hx.resolve_right hxv
              simp only [if_neg hxv]
              have h1 := PR.out x hx'
              exact ⟨((K2.out.block _ (by have := hpz x hx'; simp; omega) (by omega)).trans (Below.heap_alloc _ _ _ (hpz x hx'))).trans h1.1, h1.2⟩
          · rw [hTK.out, ded_snoc, mem_addS] at hx hy
            by_cases hxv : x = v <;> by_cases hyv : y = v <;> simp only [hxv, hyv, if_true, if_false] at e ⊢
            · have := hpz y (hy.resolve_right hyv); omega
            · have := hpz x (hx.resolve_right hxv); omega
            · exact IR.out x (hx.resolve_right hxv) y (hy.resolve_right hyv) e
        case measure => (simp only [RowKit.intOf]; omega)
    · obtain rfl : k = N := by omega
      have htk : ns.take k = ns := by rw [← HLN.out, List.take_length]
      rw [htk] at MR PR IR H4
      have HNOT := hid (show ns.any (fun v => decide (4 ≤ v)) = false by
        rw [List.any_eq_false]
        intro x hx
        have := H4.out x hx
        simp; omega)
      have HKW := hid (show Kept (fun _ => False) w wr from K1.out.trans' KR.out (fun i e => .inr (by have := HSZ.out; omega)))
      have hdl : (ded ns).length ≤ k := by have h := (ded_facts ns ns.length (Nat.le_refl _)).2.1; rw [List.take_length, HLN.out] at h; exact h
      have hpl : (pents (ded ns) pb).length = (ded ns).length := by simp [pents]
      clear htk
      have BR := hid (HB.out.same HKW.out)
      have kbz := (KR.out.block kb (row_lt KB.out) (by have := HSZ.out; omega)).trans KB.out
      have hcb := BR.out.cells
      obtain ⟨c0, c1⟩ := hcb
      obtain ⟨d0, d1, d2⟩ := cells3 kbz
      have HKB := hid kbz
      obtain ⟨M, hM⟩ : ∃ M, (ded ns).length = M := ⟨_, rfl⟩
      rw [hM] at hpl hdl
      have HM := hid hM
      clear hM kbz
      by_cases hd : M < k
      · have hdI : (M : Int) < (k : Int) := by omega
        have HV := hid (show res = 3 by rw [← HRES.out, HNOT.out, HM.out, HLN.out]; simp [hd])
        clear hd
        go_wp2_with (refine wpList_mlen rfl (.tmp 33) 55 _ _ rfl mp rfl Try.underlying55 .u8 (pents (ded ns) pb) MR.out ?_)
        go_ret
        exact ⟨ret_int HV.out.symm, HKW.out.mono (fun _ _ h => h.elim), own, A, fun _ h => .inl h, by rw [← HGG.out, if_neg (by rw [HV.out]; decide)]; exact BR.out⟩
      · have hdI : ¬ (M : Int) < (k : Int) := by omega
        have HDE := hid (show ded ns = ns by
          have h := (ded_facts ns ns.length (Nat.le_refl _)).2.2.2
          rw [List.take_length] at h
          exact h (by rw [HM.out, HLN.out]; omega))
        have HRES2 := hid (show (if (lookG G (t1, t2, t3)).isSome then (7 : Int) else 0) = res by rw [← HRES.out, HNOT.out, HM.out, HLN.out]; simp [hd])
        clear hd
        cases hlk : lookG G (t1, t2, t3) with
        | some r =>
          have l0 := BR.out.look1 hlk
          have HV := hid (show res = 7 by rw [← HRES2.out, hlk]; rfl)
          clear hlk
          go_wp2_with (refine wpList_mlen rfl (.tmp 33) 55 _ _ rfl mp rfl Try.underlying55 .u8 (pents (ded ns) pb) MR.out ?_)
          go_quiet (fail)
          have KQ := hid (HKW.out.trans (kept_drewN (F := fun _ => False) wr nq))
          go_wp2
          go_ret
          exact ⟨ret_int HV.out.symm, KQ.out.mono (fun _ _ h => h.elim), own, A, fun _ h => .inl h, by rw [← HGG.out, if_neg (by rw [HV.out]; decide)]; exact HB.out.same KQ.out⟩
        | none =>
          have l0 := BR.out.look0 hlk
          have HV := hid (show res = 0 by rw [← HRES2.out, hlk]; rfl)
          have HLK := hid hlk
          clear hlk
          go_wp2_with (refine wpList_mlen rfl (.tmp 33) 55 _ _ rfl mp rfl Try.underlying55 .u8 (pents (ded ns) pb) MR.out ?_)
          go_quiet (fail)
          have KQ := kept_drewN (F := fun _ => False) wr nq
          obtain ⟨wq, hwq⟩ : ∃ wq, wr.drewN nq = wq := ⟨_, rfl⟩
          rw [hwq] at KQ
          have HKQ := hid KQ
          go_wp2_with fail
          rw [hwq]
          clear hwq l0 c0 c1 d0 d1 d2 hpl
          have hkd := (HKQ.out.block _ (row_lt HKB.out) id).trans HKB.out
          have BD := hid (BR.out.same HKQ.out)
          have hLN : lookT (G.map fun p => (p.1, ptr (A p.1).rb)) (t1, t2, t3) = none := by rw [lookT_G, HLK.out]; rfl
          obtain ⟨es, clock, hes⟩ := BD.out.map1.lay_all Try.underlying51 (k := (t1, t2, t3)) hLN
          have HES := hid hes
          have hup : ∀ o v, (Instr.mapUpdate 51 (.map (some m1)) (.agg #[.int .u8 t1, .int .u32 t2, .int .u32 t3]) v).run Try.prog (wq.alloc o).drew = .ok () (ChangeMaps.setBlock (wq.alloc o).drew m1 (.map (es.push ⟨txv (t1, t2, t3), v, clock⟩) (clock + 1))) := fun o v => (HES.out (wq.alloc o).drew v (Below.heap_alloc _ _ _ BD.out.map1.lt)).1
          have x0 := BD.out.cells.1
          obtain ⟨x1, x2, x3⟩ := cells3 hkd
          have z0 : ∀ o, (wq.alloc o).cell? ⟨bb, 0, none⟩ = some (.map (some m1)) := fun o => ((Kept.refl (fun _ => False) wq).alloc o).cell x0 id
          have z1 : ∀ o, (wq.alloc o).cell? ⟨kb, 0, none⟩ = some (.int .u8 t1) := fun o => ((Kept.refl (fun _ => False) wq).alloc o).cell x1 id
          have z2 : ∀ o, (wq.alloc o).cell? ⟨kb, 1, none⟩ = some (.int .u32 t2) := fun o => ((Kept.refl (fun _ => False) wq).alloc o).cell x2 id
          have z3 : ∀ o, (wq.alloc o).cell? ⟨kb, 2, none⟩ = some (.int .u32 t3) := fun o => ((Kept.refl (fun _ => False) wq).alloc o).cell x3 id
          have y0 : ∀ o, (wq.alloc o).drew.cell? ⟨bb, 0, none⟩ = some (.map (some m1)) := z0
          have y1 : ∀ o, (wq.alloc o).drew.cell? ⟨kb, 0, none⟩ = some (.int .u8 t1) := z1
          have y2 : ∀ o, (wq.alloc o).drew.cell? ⟨kb, 1, none⟩ = some (.int .u32 t2) := z2
          have y3 : ∀ o, (wq.alloc o).drew.cell? ⟨kb, 2, none⟩ = some (.int .u32 t3) := z3
          clear hes hkd KQ hLN
          go_region
          have hmz := (HES.out (wq.alloc (.cells #[.map (some mp), .int .i64 1] 61)).drew (ptr wq.heap.size) (Below.heap_alloc _ _ _ BD.out.map1.lt)).2
          have hka : Kept (fun _ => False) wq (wq.alloc (.cells #[.map (some mp), .int .i64 1] 61)).drew := ((Kept.refl (fun _ => False) wq).alloc _).drew
          have hra : (wq.alloc (.cells #[.map (some mp), .int .i64 1] 61)).drew.heap[wq.heap.size]? = some (.cells #[.map (some mp), .int .i64 1] 61 (0, 0)) := row_new wq _
          have hsa : wq.heap.size < (wq.alloc (.cells #[.map (some mp), .int .i64 1] 61)).drew.heap.size := row_lt hra
          have hkz := (Kept.refl (fun i => i = m1) (wq.alloc (.cells #[.map (some mp), .int .i64 1] 61)).drew).setBlock (b := m1) (.map (es.push ⟨txv (t1, t2, t3), ptr wq.heap.size, clock⟩) (clock + 1)) (.inl rfl)
          have hEZ : ∃ wz, ChangeMaps.setBlock (wq.alloc (.cells #[.map (some mp), .int .i64 1] 61)).drew m1 (.map (es.push ⟨txv (t1, t2, t3), ptr wq.heap.size, clock⟩) (clock + 1)) = wz := ⟨_, rfl⟩
          obtain ⟨wz, hwz⟩ := hEZ
          have hwz' := hwz
          unfold ptr at hwz'
          rw [hwz'] at *
          rw [hwz] at hmz hkz
          have KZ := hid ((hka.mono (fun _ _ h => h.elim) : Kept (fun i => i = m1) wq _).trans hkz)
          have hm1w : m1 < w.heap.size := HB.out.map1.lt
          have hrz := (hkz.block wq.heap.size hsa (by have := HKW.out.size; have := HKQ.out.size; omega)).trans hra
          have KWQ := hid (HKW.out.trans HKQ.out)
          have MZ := hid hmz; have RZ := hid hrz
          clear hmz hka hra hkz hwz hwz' hsa hup hrz
          go_wp2
          go_ret
          have kw : Kept (fun i => i = m1) w wz := (KWQ.out.mono (fun _ _ h => h.elim)).trans KZ.out
          have kr : Kept (fun i => i = m1) wr wz := (HKQ.out.mono (fun _ _ h => h.elim)).trans KZ.out
          have hwr := HKW.out.size
          have hrq := HKQ.out.size
          have hml := MR.out.lt
          have hsz := HSZ.out
          refine ⟨ret_int HV.out.symm, kw, ?_⟩
          rw [← HGG.out, if_pos HV.out]
          have MR' := MR.out
          have PR' := PR.out
          have IR' := IR.out
          rw [HDE.out] at MR' PR' IR'
          exact HB.out.add HLK.out MZ.out kw RZ.out (MR'.of_block (kr.block _ hml (by omega))) (fun v hv => (kr.block _ (row_lt (PR' v hv).1) (by have := (PR' v hv).2; omega)).trans (PR' v hv).1) IR' ⟨by omega, by omega, fun v hv => by have := (PR' v hv).2; omega⟩
end
end Go.Proofs.Ytaobioleodfafaa
/- Commit: the nil book; New. -/
namespace Go.Proofs.Ytaobioleodfafaa
open Go.RowKit
section
variable (w : World) (t1 t2 t3 : Int)
set_option maxRecDepth 100000 in
theorem nvote (x : Int) (yes : Bool) : Calls Try.prog 10 #[.pointer none, .agg #[.int .u8 t1, .int .u32 t2, .int .u32 t3], .int .u8 x, .bool yes] w fun e w' => e = .returned (.tuple #[.int .i64 0, .int .i64 6]) ∧ Kept (fun _ => False) w w' := by
  have K1 := hid ((Kept.refl (fun _ => False) w).alloc (.cells #[.int .u8 t1, .int .u32 t2, .int .u32 t3] 28))
  go_enter Try.func10, Try.ntmps10
  go_wp2_with fail
  refine (gat_nil _ t1 t2 t3 x).mono ?_
  rintro e w2 ⟨rfl, hk2⟩
  have K2 := hid (K1.out.trans hk2)
  clear hk2
  go_wp2
  go_returns
  exact ⟨rfl, K2.out⟩
set_option maxRecDepth 100000 in
theorem napplied (x : Int) : Calls Try.prog 24 #[.pointer none, .agg #[.int .u8 t1, .int .u32 t2, .int .u32 t3], .int .u8 x] w fun e w' => e = .returned (.tuple #[.bool false, .int .i64 6]) ∧ Kept (fun _ => False) w w' := by
  have K1 := hid ((Kept.refl (fun _ => False) w).alloc (.cells #[.int .u8 t1, .int .u32 t2, .int .u32 t3] 28))
  go_enter Try.func24, Try.ntmps24
  go_wp2_with fail
  refine (gat_nil _ t1 t2 t3 x).mono ?_
  rintro e w2 ⟨rfl, hk2⟩
  have K2 := hid (K1.out.trans hk2)
  clear hk2
  go_wp2
  go_returns
  exact ⟨rfl, K2.out⟩
set_option maxRecDepth 100000 in
theorem ncommit : Calls Try.prog 11 #[.pointer none, .agg #[.int .u8 t1, .int .u32 t2, .int .u32 t3]] w fun e w' => e = .returned (.int .i64 6) ∧ Kept (fun _ => False) w w' := by
  have K1 := hid ((Kept.refl (fun _ => False) w).alloc (.cells #[.int .u8 t1, .int .u32 t2, .int .u32 t3] 28))
  go_enter Try.func11, Try.ntmps11
  go_wp2_with fail
  refine wp_region_held_drew (S := fun _ => True) (by kernel_rfl) trivial (fun hHeld => ?_)
  refine wpAnyH_at 0 (some 6) (v := ?v900) (by decide) rfl (by kernel_rfl) (by kernel_rfl) (by kernel_rfl) (fun _ _ _ h => h) (Or.inl ⟨by rfl, ?y900⟩) (by assumption) ?r900
  case y900 => (intro w hSw; (try dsimp only at hSw); go_simp; (try with_reducible rfl))
  simp only [Act.put, List.setIfInBounds_toArray, List.set_cons_zero, List.set_cons_succ]
  refine wpAnyH_at 1 (some 7) (v := ?v901) (by decide) rfl (by kernel_rfl) (by kernel_rfl) (by kernel_rfl) (fun _ _ _ h => h) (Or.inl ⟨by rfl, ?y901⟩) (by assumption) ?r901
  case y901 => (intro w hSw; (try dsimp only at hSw); go_simp; (try with_reducible rfl))
  simp only [Act.put, List.setIfInBounds_toArray, List.set_cons_zero, List.set_cons_succ]
  refine wpAnyH_at 2 (some 8) (v := ?v902) (by decide) rfl (by kernel_rfl) (by kernel_rfl) (by kernel_rfl) (fun _ _ _ h => h) (Or.inl ⟨by rfl, ?y902⟩) (by assumption) ?r902
  case y902 => (intro w hSw; (try dsimp only at hSw); go_simp; (try with_reducible rfl))
  simp only [Act.put, List.setIfInBounds_toArray, List.set_cons_zero, List.set_cons_succ]
  refine wpAnyH_at 3 (some 9) (v := undef) (by decide) rfl (by kernel_rfl) (by kernel_rfl) (by kernel_rfl) (fun _ _ _ h => h) (Or.inr ⟨by rfl, rfl⟩) (by assumption) ?_
  simp only [Act.put, List.setIfInBounds_toArray, List.set_cons_zero, List.set_cons_succ]
  refine wpAnyH_at 4 (some 10) (v := undef) (by decide) rfl (by kernel_rfl) (by kernel_rfl) (by kernel_rfl) (fun _ _ _ h => h) (Or.inr ⟨by rfl, rfl⟩) (by assumption) ?_
  simp only [Act.put, List.setIfInBounds_toArray, List.set_cons_zero, List.set_cons_succ]
  refine wpAnyH_at 5 (some 11) (v := undef) (by decide) rfl (by kernel_rfl) (by kernel_rfl) (by kernel_rfl) (fun _ _ _ h => h) (Or.inr ⟨by rfl, rfl⟩) (by assumption) ?_
  simp only [Act.put, List.setIfInBounds_toArray, List.set_cons_zero, List.set_cons_succ]
  refine wpAnyH_at 6 (some 12) (v := undef) (by decide) rfl (by kernel_rfl) (by kernel_rfl) (by kernel_rfl) (fun _ _ _ h => h) (Or.inr ⟨by rfl, rfl⟩) (by assumption) ?_
  simp only [Act.put, List.setIfInBounds_toArray, List.set_cons_zero, List.set_cons_succ]
  refine wpAnyH_at 7 (some 13) (v := undef) (by decide) rfl (by kernel_rfl) (by kernel_rfl) (by kernel_rfl) (fun _ _ _ h => h) (Or.inr ⟨by rfl, rfl⟩) (by assumption) ?_
  simp only [Act.put, List.setIfInBounds_toArray, List.set_cons_zero, List.set_cons_succ]
  refine wpAnyH_at 8 (some 14) (v := undef) (by decide) rfl (by kernel_rfl) (by kernel_rfl) (by kernel_rfl) (fun _ _ _ h => h) (Or.inr ⟨by rfl, rfl⟩) (by assumption) ?_
  simp only [Act.put, List.setIfInBounds_toArray, List.set_cons_zero, List.set_cons_succ]
  refine wpAnyH_at 9 (some 15) (v := undef) (by decide) rfl (by kernel_rfl) (by kernel_rfl) (by kernel_rfl) (fun _ _ _ h => h) (Or.inr ⟨by rfl, rfl⟩) (by assumption) ?_
  simp only [Act.put, List.setIfInBounds_toArray, List.set_cons_zero, List.set_cons_succ]
  refine wpAnyH_at 10 (some 16) (v := ?v990) (by decide) rfl (by kernel_rfl) (by kernel_rfl) (by kernel_rfl) (fun _ _ _ h => h) (Or.inl ⟨by rfl, ?y990⟩) (by assumption) ?r990
  case y990 => (intro w hSw; (try dsimp only at hSw); go_simp; (try with_reducible rfl))
  simp only [Act.put, List.setIfInBounds_toArray, List.set_cons_zero, List.set_cons_succ]
  refine wpAnyH_done (by kernel_rfl) ?_ _
  go_wp2_with fail
  go_ret
  exact ⟨rfl, K1.out.drew⟩
set_option maxRecDepth 100000 in
theorem nowing : Calls Try.prog 16 #[.pointer none, .agg #[.int .u8 t1, .int .u32 t2, .int .u32 t3]] w fun e w' => e = .returned (.slice none 0 0) ∧ Kept (fun _ => False) w w' := by
  have K1 := hid ((Kept.refl (fun _ => False) w).alloc (.cells #[.int .u8 t1, .int .u32 t2, .int .u32 t3] 28))
  go_enter Try.func16, Try.ntmps16
  go_wp2_with fail
  refine wp_region_held_drew (S := fun _ => True) (by kernel_rfl) trivial (fun hHeld => ?_)
  refine wpAnyH_at 0 (some 10) (v := ?v900) (by decide) rfl (by kernel_rfl) (by kernel_rfl) (by kernel_rfl) (fun _ _ _ h => h) (Or.inl ⟨by rfl, ?y900⟩) (by assumption) ?r900
  case y900 => (intro w hSw; (try dsimp only at hSw); go_simp; (try with_reducible rfl))
  simp only [Act.put, List.setIfInBounds_toArray, List.set_cons_zero, List.set_cons_succ]
  refine wpAnyH_at 1 (some 11) (v := ?v901) (by decide) rfl (by kernel_rfl) (by kernel_rfl) (by kernel_rfl) (fun _ _ _ h => h) (Or.inl ⟨by rfl, ?y901⟩) (by assumption) ?r901
  case y901 => (intro w hSw; (try dsimp only at hSw); go_simp; (try with_reducible rfl))
  simp only [Act.put, List.setIfInBounds_toArray, List.set_cons_zero, List.set_cons_succ]
  refine wpAnyH_at 2 (some 12) (v := ?v902) (by decide) rfl (by kernel_rfl) (by kernel_rfl) (by kernel_rfl) (fun _ _ _ h => h) (Or.inl ⟨by rfl, ?y902⟩) (by assumption) ?r902
  case y902 => (intro w hSw; (try dsimp only at hSw); go_simp; (try with_reducible rfl))
  simp only [Act.put, List.setIfInBounds_toArray, List.set_cons_zero, List.set_cons_succ]
  refine wpAnyH_at 3 (some 13) (v := undef) (by decide) rfl (by kernel_rfl) (by kernel_rfl) (by kernel_rfl) (fun _ _ _ h => h) (Or.inr ⟨by rfl, rfl⟩) (by assumption) ?_
  simp only [Act.put, List.setIfInBounds_toArray, List.set_cons_zero, List.set_cons_succ]
  refine wpAnyH_at 4 (some 14) (v := undef) (by decide) rfl (by kernel_rfl) (by kernel_rfl) (by kernel_rfl) (fun _ _ _ h => h) (Or.inr ⟨by rfl, rfl⟩) (by assumption) ?_
  simp only [Act.put, List.setIfInBounds_toArray, List.set_cons_zero, List.set_cons_succ]
  refine wpAnyH_at 5 (some 15) (v := undef) (by decide) rfl (by kernel_rfl) (by kernel_rfl) (by kernel_rfl) (fun _ _ _ h => h) (Or.inr ⟨by rfl, rfl⟩) (by assumption) ?_
  simp only [Act.put, List.setIfInBounds_toArray, List.set_cons_zero, List.set_cons_succ]
  refine wpAnyH_at 6 (some 16) (v := undef) (by decide) rfl (by kernel_rfl) (by kernel_rfl) (by kernel_rfl) (fun _ _ _ h => h) (Or.inr ⟨by rfl, rfl⟩) (by assumption) ?_
  simp only [Act.put, List.setIfInBounds_toArray, List.set_cons_zero, List.set_cons_succ]
  refine wpAnyH_at 7 (some 17) (v := undef) (by decide) rfl (by kernel_rfl) (by kernel_rfl) (by kernel_rfl) (fun _ _ _ h => h) (Or.inr ⟨by rfl, rfl⟩) (by assumption) ?_
  simp only [Act.put, List.setIfInBounds_toArray, List.set_cons_zero, List.set_cons_succ]
  refine wpAnyH_at 8 (some 18) (v := undef) (by decide) rfl (by kernel_rfl) (by kernel_rfl) (by kernel_rfl) (fun _ _ _ h => h) (Or.inr ⟨by rfl, rfl⟩) (by assumption) ?_
  simp only [Act.put, List.setIfInBounds_toArray, List.set_cons_zero, List.set_cons_succ]
  refine wpAnyH_at 9 (some 19) (v := undef) (by decide) rfl (by kernel_rfl) (by kernel_rfl) (by kernel_rfl) (fun _ _ _ h => h) (Or.inr ⟨by rfl, rfl⟩) (by assumption) ?_
  simp only [Act.put, List.setIfInBounds_toArray, List.set_cons_zero, List.set_cons_succ]
  refine wpAnyH_at 10 (some 20) (v := ?v990) (by decide) rfl (by kernel_rfl) (by kernel_rfl) (by kernel_rfl) (fun _ _ _ h => h) (Or.inl ⟨by rfl, ?y990⟩) (by assumption) ?r990
  case y990 => (intro w hSw; (try dsimp only at hSw); go_simp; (try with_reducible rfl))
  simp only [Act.put, List.setIfInBounds_toArray, List.set_cons_zero, List.set_cons_succ]
  refine wpAnyH_done (by kernel_rfl) ?_ _
  go_wp2_with fail
  go_ret
  exact ⟨rfl, K1.out.drew⟩
set_option maxRecDepth 100000 in
theorem ntake : Calls Try.prog 26 #[.pointer none, .agg #[.int .u8 t1, .int .u32 t2, .int .u32 t3]] w fun e w' => e = .returned (.int .i64 6) ∧ Kept (fun _ => False) w w' := by
  have K1 := hid ((Kept.refl (fun _ => False) w).alloc (.cells #[.int .u8 t1, .int .u32 t2, .int .u32 t3] 28))
  go_enter Try.func26, Try.ntmps26
  go_wp2_with fail
  go_ret
  exact ⟨rfl, K1.out⟩
set_option maxRecDepth 100000 in
theorem nstands : Calls Try.prog 14 #[.pointer none, .agg #[.int .u8 t1, .int .u32 t2, .int .u32 t3]] w fun e w' => e = .returned (.int .i64 0) ∧ Kept (fun _ => False) w w' := by
  have K1 := hid ((Kept.refl (fun _ => False) w).alloc (.cells #[.int .u8 t1, .int .u32 t2, .int .u32 t3] 28))
  go_enter Try.func14, Try.ntmps14
  go_wp2_with fail
  go_ret
  exact ⟨rfl, K1.out⟩
end
end Go.Proofs.Ytaobioleodfafaa
/- Commit: the nil book's Runs, Settle; New. -/
namespace Go.Proofs.Ytaobioleodfafaa
open Go.RowKit
set_option maxRecDepth 100000 in
theorem nruns (w : World) (t1 t2 t3 : Int) : Calls Try.prog 13 #[.pointer none, .agg #[.int .u8 t1, .int .u32 t2, .int .u32 t3]] w fun e w' => e = .returned (.int .i64 0) ∧ Kept (fun _ => False) w w' := by
  have K1 := hid ((Kept.refl (fun _ => False) w).alloc (.cells #[.int .u8 t1, .int .u32 t2, .int .u32 t3] 28))
  go_enter Try.func13, Try.ntmps13
  go_wp2_with fail
  refine wp_region_held_drew (S := fun _ => True) (by kernel_rfl) trivial (fun hHeld => ?_)
  refine wpAnyH_at 0 (some 5) (v := ?v900) (by decide) rfl (by kernel_rfl) (by kernel_rfl) (by kernel_rfl) (fun _ _ _ h => h) (Or.inl ⟨by rfl, ?y900⟩) (by assumption) ?r900
  case y900 => (intro w hSw; (try dsimp only at hSw); go_simp; (try with_reducible rfl))
  simp only [Act.put, List.setIfInBounds_toArray, List.set_cons_zero, List.set_cons_succ]
  refine wpAnyH_at 1 (some 6) (v := ?v901) (by decide) rfl (by kernel_rfl) (by kernel_rfl) (by kernel_rfl) (fun _ _ _ h => h) (Or.inl ⟨by rfl, ?y901⟩) (by assumption) ?r901
  case y901 => (intro w hSw; (try dsimp only at hSw); go_simp; (try with_reducible rfl))
  simp only [Act.put, List.setIfInBounds_toArray, List.set_cons_zero, List.set_cons_succ]
  refine wpAnyH_at 2 (some 7) (v := ?v902) (by decide) rfl (by kernel_rfl) (by kernel_rfl) (by kernel_rfl) (fun _ _ _ h => h) (Or.inl ⟨by rfl, ?y902⟩) (by assumption) ?r902
  case y902 => (intro w hSw; (try dsimp only at hSw); go_simp; (try with_reducible rfl))
  simp only [Act.put, List.setIfInBounds_toArray, List.set_cons_zero, List.set_cons_succ]
  refine wpAnyH_at 3 (some 8) (v := undef) (by decide) rfl (by kernel_rfl) (by kernel_rfl) (by kernel_rfl) (fun _ _ _ h => h) (Or.inr ⟨by rfl, rfl⟩) (by assumption) ?_
  simp only [Act.put, List.setIfInBounds_toArray, List.set_cons_zero, List.set_cons_succ]
  refine wpAnyH_at 4 (some 9) (v := undef) (by decide) rfl (by kernel_rfl) (by kernel_rfl) (by kernel_rfl) (fun _ _ _ h => h) (Or.inr ⟨by rfl, rfl⟩) (by assumption) ?_
  simp only [Act.put, List.setIfInBounds_toArray, List.set_cons_zero, List.set_cons_succ]
  refine wpAnyH_at 5 (some 10) (v := undef) (by decide) rfl (by kernel_rfl) (by kernel_rfl) (by kernel_rfl) (fun _ _ _ h => h) (Or.inr ⟨by rfl, rfl⟩) (by assumption) ?_
  simp only [Act.put, List.setIfInBounds_toArray, List.set_cons_zero, List.set_cons_succ]
  refine wpAnyH_at 6 (some 11) (v := undef) (by decide) rfl (by kernel_rfl) (by kernel_rfl) (by kernel_rfl) (fun _ _ _ h => h) (Or.inr ⟨by rfl, rfl⟩) (by assumption) ?_
  simp only [Act.put, List.setIfInBounds_toArray, List.set_cons_zero, List.set_cons_succ]
  refine wpAnyH_at 7 (some 12) (v := undef) (by decide) rfl (by kernel_rfl) (by kernel_rfl) (by kernel_rfl) (fun _ _ _ h => h) (Or.inr ⟨by rfl, rfl⟩) (by assumption) ?_
  simp only [Act.put, List.setIfInBounds_toArray, List.set_cons_zero, List.set_cons_succ]
  refine wpAnyH_at 8 (some 13) (v := undef) (by decide) rfl (by kernel_rfl) (by kernel_rfl) (by kernel_rfl) (fun _ _ _ h => h) (Or.inr ⟨by rfl, rfl⟩) (by assumption) ?_
  simp only [Act.put, List.setIfInBounds_toArray, List.set_cons_zero, List.set_cons_succ]
  refine wpAnyH_at 9 (some 14) (v := undef) (by decide) rfl (by kernel_rfl) (by kernel_rfl) (by kernel_rfl) (fun _ _ _ h => h) (Or.inr ⟨by rfl, rfl⟩) (by assumption) ?_
  simp only [Act.put, List.setIfInBounds_toArray, List.set_cons_zero, List.set_cons_succ]
  refine wpAnyH_at 10 (some 15) (v := ?v990) (by decide) rfl (by kernel_rfl) (by kernel_rfl) (by kernel_rfl) (fun _ _ _ h => h) (Or.inl ⟨by rfl, ?y990⟩) (by assumption) ?r990
  case y990 => (intro w hSw; (try dsimp only at hSw); go_simp; (try with_reducible rfl))
  simp only [Act.put, List.setIfInBounds_toArray, List.set_cons_zero, List.set_cons_succ]
  refine wpAnyH_done (by kernel_rfl) ?_ _
  go_wp2_with fail
  go_ret
  exact ⟨rfl, K1.out.drew⟩
set_option maxRecDepth 100000 in
theorem nsettle (w : World) (t1 t2 t3 s : Int) (h34 : s = 3 ∨ s = 4) : Calls Try.prog 28 #[.pointer none, .agg #[.int .u8 t1, .int .u32 t2, .int .u32 t3], .int .i64 s] w fun e w' => e = .returned (.int .i64 6) ∧ Kept (fun _ => False) w w' := by
  have K1 := hid ((Kept.refl (fun _ => False) w).alloc (.cells #[.int .u8 t1, .int .u32 t2, .int .u32 t3] 28))
  go_enter Try.func28, Try.ntmps28
  by_cases h3 : s = 3
  · have e3 : (s != 3) = false := by simp [h3]
    clear h34 h3
    go_wp2_with fail
    refine wp_region_held_drew (S := fun _ => True) (by kernel_rfl) trivial (fun hHeld => ?_)
    refine wpAnyH_at 0 (some 15) (v := ?v800) (by decide) rfl (by kernel_rfl) (by kernel_rfl) (by kernel_rfl) (fun _ _ _ h => h) (Or.inl ⟨by rfl, ?y800⟩) (by assumption) ?r800
    case y800 => (intro w hSw; (try dsimp only at hSw); go_simp; (try with_reducible rfl))
    simp only [Act.put, List.setIfInBounds_toArray, List.set_cons_zero, List.set_cons_succ]
    refine wpAnyH_at 1 (some 16) (v := ?v801) (by decide) rfl (by kernel_rfl) (by kernel_rfl) (by kernel_rfl) (fun _ _ _ h => h) (Or.inl ⟨by rfl, ?y801⟩) (by assumption) ?r801
    case y801 => (intro w hSw; (try dsimp only at hSw); go_simp; (try with_reducible rfl))
    simp only [Act.put, List.setIfInBounds_toArray, List.set_cons_zero, List.set_cons_succ]
    refine wpAnyH_at 2 (some 17) (v := ?v802) (by decide) rfl (by kernel_rfl) (by kernel_rfl) (by kernel_rfl) (fun _ _ _ h => h) (Or.inl ⟨by rfl, ?y802⟩) (by assumption) ?r802
    case y802 => (intro w hSw; (try dsimp only at hSw); go_simp; (try with_reducible rfl))
    simp only [Act.put, List.setIfInBounds_toArray, List.set_cons_zero, List.set_cons_succ]
    refine wpAnyH_at 3 (some 18) (v := undef) (by decide) rfl (by kernel_rfl) (by kernel_rfl) (by kernel_rfl) (fun _ _ _ h => h) (Or.inr ⟨by rfl, rfl⟩) (by assumption) ?_
    simp only [Act.put, List.setIfInBounds_toArray, List.set_cons_zero, List.set_cons_succ]
    refine wpAnyH_at 4 (some 19) (v := undef) (by decide) rfl (by kernel_rfl) (by kernel_rfl) (by kernel_rfl) (fun _ _ _ h => h) (Or.inr ⟨by rfl, rfl⟩) (by assumption) ?_
    simp only [Act.put, List.setIfInBounds_toArray, List.set_cons_zero, List.set_cons_succ]
    refine wpAnyH_at 5 (some 20) (v := undef) (by decide) rfl (by kernel_rfl) (by kernel_rfl) (by kernel_rfl) (fun _ _ _ h => h) (Or.inr ⟨by rfl, rfl⟩) (by assumption) ?_
    simp only [Act.put, List.setIfInBounds_toArray, List.set_cons_zero, List.set_cons_succ]
    refine wpAnyH_at 6 (some 21) (v := undef) (by decide) rfl (by kernel_rfl) (by kernel_rfl) (by kernel_rfl) (fun _ _ _ h => h) (Or.inr ⟨by rfl, rfl⟩) (by assumption) ?_
    simp only [Act.put, List.setIfInBounds_toArray, List.set_cons_zero, List.set_cons_succ]
    refine wpAnyH_at 7 (some 22) (v := undef) (by decide) rfl (by kernel_rfl) (by kernel_rfl) (by kernel_rfl) (fun _ _ _ h => h) (Or.inr ⟨by rfl, rfl⟩) (by assumption) ?_
    simp only [Act.put, List.setIfInBounds_toArray, List.set_cons_zero, List.set_cons_succ]
    refine wpAnyH_at 8 (some 23) (v := undef) (by decide) rfl (by kernel_rfl) (by kernel_rfl) (by kernel_rfl) (fun _ _ _ h => h) (Or.inr ⟨by rfl, rfl⟩) (by assumption) ?_
    simp only [Act.put, List.setIfInBounds_toArray, List.set_cons_zero, List.set_cons_succ]
    refine wpAnyH_at 9 (some 24) (v := undef) (by decide) rfl (by kernel_rfl) (by kernel_rfl) (by kernel_rfl) (fun _ _ _ h => h) (Or.inr ⟨by rfl, rfl⟩) (by assumption) ?_
    simp only [Act.put, List.setIfInBounds_toArray, List.set_cons_zero, List.set_cons_succ]
    refine wpAnyH_at 10 (some 25) (v := ?v890) (by decide) rfl (by kernel_rfl) (by kernel_rfl) (by kernel_rfl) (fun _ _ _ h => h) (Or.inl ⟨by rfl, ?y890⟩) (by assumption) ?r890
    case y890 => (intro w hSw; (try dsimp only at hSw); go_simp; (try with_reducible rfl))
    simp only [Act.put, List.setIfInBounds_toArray, List.set_cons_zero, List.set_cons_succ]
    refine wpAnyH_at 11 (some 14) (v := ?v891) (by decide) rfl (by kernel_rfl) (by kernel_rfl) (by kernel_rfl) (fun _ _ _ h => h) (Or.inl ⟨by rfl, ?y891⟩) (by assumption) ?r891
    case y891 => (intro w hSw; (try dsimp only at hSw); go_simp; (try with_reducible rfl))
    simp only [Act.put, List.setIfInBounds_toArray, List.set_cons_zero, List.set_cons_succ]
    refine wpAnyH_done (by kernel_rfl) ?_ _
    go_wp2_with fail
    go_ret
    exact ⟨rfl, K1.out.drew⟩
  · have e3 : (s != 3) = true := by simpa using h3
    have e4 : (s != 4) = false := by simp; omega
    clear h34 h3
    go_wp2_with fail
    refine wp_region_held_drew (S := fun _ => True) (by kernel_rfl) trivial (fun hHeld => ?_)
    refine wpAnyH_at 0 (some 15) (v := ?v900) (by decide) rfl (by kernel_rfl) (by kernel_rfl) (by kernel_rfl) (fun _ _ _ h => h) (Or.inl ⟨by rfl, ?y900⟩) (by assumption) ?r900
    case y900 => (intro w hSw; (try dsimp only at hSw); go_simp; (try with_reducible rfl))
    simp only [Act.put, List.setIfInBounds_toArray, List.set_cons_zero, List.set_cons_succ]
    refine wpAnyH_at 1 (some 16) (v := ?v901) (by decide) rfl (by kernel_rfl) (by kernel_rfl) (by kernel_rfl) (fun _ _ _ h => h) (Or.inl ⟨by rfl, ?y901⟩) (by assumption) ?r901
    case y901 => (intro w hSw; (try dsimp only at hSw); go_simp; (try with_reducible rfl))
    simp only [Act.put, List.setIfInBounds_toArray, List.set_cons_zero, List.set_cons_succ]
    refine wpAnyH_at 2 (some 17) (v := ?v902) (by decide) rfl (by kernel_rfl) (by kernel_rfl) (by kernel_rfl) (fun _ _ _ h => h) (Or.inl ⟨by rfl, ?y902⟩) (by assumption) ?r902
    case y902 => (intro w hSw; (try dsimp only at hSw); go_simp; (try with_reducible rfl))
    simp only [Act.put, List.setIfInBounds_toArray, List.set_cons_zero, List.set_cons_succ]
    refine wpAnyH_at 3 (some 18) (v := undef) (by decide) rfl (by kernel_rfl) (by kernel_rfl) (by kernel_rfl) (fun _ _ _ h => h) (Or.inr ⟨by rfl, rfl⟩) (by assumption) ?_
    simp only [Act.put, List.setIfInBounds_toArray, List.set_cons_zero, List.set_cons_succ]
    refine wpAnyH_at 4 (some 19) (v := undef) (by decide) rfl (by kernel_rfl) (by kernel_rfl) (by kernel_rfl) (fun _ _ _ h => h) (Or.inr ⟨by rfl, rfl⟩) (by assumption) ?_
    simp only [Act.put, List.setIfInBounds_toArray, List.set_cons_zero, List.set_cons_succ]
    refine wpAnyH_at 5 (some 20) (v := undef) (by decide) rfl (by kernel_rfl) (by kernel_rfl) (by kernel_rfl) (fun _ _ _ h => h) (Or.inr ⟨by rfl, rfl⟩) (by assumption) ?_
    simp only [Act.put, List.setIfInBounds_toArray, List.set_cons_zero, List.set_cons_succ]
    refine wpAnyH_at 6 (some 21) (v := undef) (by decide) rfl (by kernel_rfl) (by kernel_rfl) (by kernel_rfl) (fun _ _ _ h => h) (Or.inr ⟨by rfl, rfl⟩) (by assumption) ?_
    simp only [Act.put, List.setIfInBounds_toArray, List.set_cons_zero, List.set_cons_succ]
    refine wpAnyH_at 7 (some 22) (v := undef) (by decide) rfl (by kernel_rfl) (by kernel_rfl) (by kernel_rfl) (fun _ _ _ h => h) (Or.inr ⟨by rfl, rfl⟩) (by assumption) ?_
    simp only [Act.put, List.setIfInBounds_toArray, List.set_cons_zero, List.set_cons_succ]
    refine wpAnyH_at 8 (some 23) (v := undef) (by decide) rfl (by kernel_rfl) (by kernel_rfl) (by kernel_rfl) (fun _ _ _ h => h) (Or.inr ⟨by rfl, rfl⟩) (by assumption) ?_
    simp only [Act.put, List.setIfInBounds_toArray, List.set_cons_zero, List.set_cons_succ]
    refine wpAnyH_at 9 (some 24) (v := undef) (by decide) rfl (by kernel_rfl) (by kernel_rfl) (by kernel_rfl) (fun _ _ _ h => h) (Or.inr ⟨by rfl, rfl⟩) (by assumption) ?_
    simp only [Act.put, List.setIfInBounds_toArray, List.set_cons_zero, List.set_cons_succ]
    refine wpAnyH_at 10 (some 25) (v := ?v990) (by decide) rfl (by kernel_rfl) (by kernel_rfl) (by kernel_rfl) (fun _ _ _ h => h) (Or.inl ⟨by rfl, ?y990⟩) (by assumption) ?r990
    case y990 => (intro w hSw; (try dsimp only at hSw); go_simp; (try with_reducible rfl))
    simp only [Act.put, List.setIfInBounds_toArray, List.set_cons_zero, List.set_cons_succ]
    refine wpAnyH_at 11 (some 14) (v := ?v991) (by decide) rfl (by kernel_rfl) (by kernel_rfl) (by kernel_rfl) (fun _ _ _ h => h) (Or.inl ⟨by rfl, ?y991⟩) (by assumption) ?r991
    case y991 => (intro w hSw; (try dsimp only at hSw); go_simp; (try with_reducible rfl))
    simp only [Act.put, List.setIfInBounds_toArray, List.set_cons_zero, List.set_cons_succ]
    refine wpAnyH_done (by kernel_rfl) ?_ _
    go_wp2_with fail
    go_ret
    exact ⟨rfl, K1.out.drew⟩
set_option maxHeartbeats 400000 in
theorem gnew_any (w : World) : Calls Try.prog 8 #[] w fun e w' => e = .returned (.pointer (some ⟨w.heap.size + 2, 0, none⟩)) ∧ GBook (fun _ => none) w.heap.size w' (w.heap.size + 2) w.heap.size (w.heap.size + 1) [] (fun _ => ⟨0, 0, fun _ => 0⟩) [] ∧ Kept (fun _ => False) w w' := by
  have hmm := @run_makeMap Try.prog
  go_enter Try.func8, Try.ntmps8
  go_wp2
  go_ret
  refine ⟨rfl, ⟨?_, ?_, ?_, (fun p hp => by cases hp), ⟨rfl, rfl, rfl, by omega⟩, fun _ _ => rfl, ⟨by omega, Nat.le_refl _, by omega, fun i t h => by cases h⟩⟩, (((Kept.refl _ _).alloc _).alloc _).alloc _⟩
  · simpa using row_new ((w.alloc (.map #[] 0)).alloc (.map #[] 0)) (.cells #[.map (some w.heap.size), .map (some (w.heap.size + 1))] 54)
  · exact ((MapT.made w).of_block (Below.heap_alloc _ _ _ (by simp))).of_block (Below.heap_alloc _ _ _ (by simp; omega))
  · have h := MapT.made (w.alloc (.map #[] 0))
    have e : (w.alloc (.map #[] 0)).heap.size = w.heap.size + 1 := by simp
    rw [e] at h
    exact h.of_block (Below.heap_alloc _ _ _ (by simp))
end Go.Proofs.Ytaobioleodfafaa
/- Commit: the book, nil or not, as one thing with its blocks. -/
namespace Go.Proofs.Ytaobioleodfafaa
open Go.RowKit
/-- these blocks, and what is new since -/
def Gr (P : Nat → Prop) (w w' : World) : Nat → Prop := fun i => P i ∨ (w.heap.size ≤ i ∧ i < w'.heap.size)
structure Bk (P : Nat → Prop) (w : World) (z : Bool) (ba : Option Addr) (G : List (Tx × Rn)) (K : List (Tx × Int)) : Prop where
  lt : ∀ i, P i → i < w.heap.size
  bk : (z = true ∧ ba = none ∧ G = [] ∧ K = []) ∨ (z = false ∧ ∃ own B bb m1 m2 A, ba = some ⟨bb, 0, none⟩ ∧ GBook own B w bb m1 m2 G A K ∧ ∀ i, i = bb ∨ i = m1 ∨ i = m2 ∨ own i ≠ none → P i)
theorem GBook.low0 {own : Nat → Option Tx} {B : Nat} {w : World} {bb m1 m2 : Nat} {G : List (Tx × Rn)} {A : Tx → Ad} {K : List (Tx × Int)} (h : GBook own B w bb m1 m2 G A K) : GBook own 0 w bb m1 m2 G A K :=
  ⟨h.obj, h.map1, h.map2, h.runs, h.top, h.new, Nat.zero_le _, Nat.zero_le _, Nat.zero_le _, fun _ _ _ => Nat.zero_le _⟩
theorem GBook.keptP {own : Nat → Option Tx} {B : Nat} {w w' : World} {bb m1 m2 : Nat} {G : List (Tx × Rn)} {A : Tx → Ad} {K : List (Tx × Int)} {F : Nat → Prop} (h : GBook own B w bb m1 m2 G A K) (k : Kept F w w') (hF : ∀ i, i = bb ∨ i = m1 ∨ i = m2 ∨ own i ≠ none → ¬ F i) : GBook own B w' bb m1 m2 G A K where
  obj := (k.block _ (row_lt h.obj) (hF _ (.inl rfl))).trans h.obj
  map1 := h.map1.of_block (k.block _ h.map1.lt (hF _ (.inr (.inl rfl))))
  map2 := h.map2.of_block (k.block _ h.map2.lt (hF _ (.inr (.inr (.inl rfl)))))
  runs := fun p hp => (h.runs p hp).kept k (fun i hi => hF _ (.inr (.inr (.inr (by rw [hi]; exact fun e => by cases e)))))
  top := h.top
  new := fun i hi => h.new i (Nat.le_trans k.size hi)
  low := h.low
section
variable {P : Nat → Prop} {w w' : World} {z : Bool} {ba : Option Addr} {G : List (Tx × Rn)} {K : List (Tx × Int)} {t1 t2 t3 : Int}
theorem Gr.lt (h : ∀ i, P i → i < w.heap.size) (k : w.heap.size ≤ w'.heap.size) : ∀ i, Gr P w w' i → i < w'.heap.size := fun i hi => hi.elim (fun h1 => Nat.lt_of_lt_of_le (h i h1) k) (fun h1 => h1.2)
/-- what does not touch it -/
theorem Bk.kept {F : Nat → Prop} (h : Bk P w z ba G K) (k : Kept F w w') (hF : ∀ i, P i → ¬ F i) : Bk P w' z ba G K := by
  refine ⟨fun i hi => Nat.lt_of_lt_of_le (h.lt i hi) k.size, ?_⟩
  rcases h.bk with h1 | ⟨h1, own, B, bb, m1, m2, A, h2, h3, h4⟩
  · exact .inl h1
  · exact .inr ⟨h1, own, B, bb, m1, m2, A, h2, h3.keptP k (fun i hi => hF i (h4 i hi)), h4⟩
theorem Bk.same (h : Bk P w z ba G K) (k : Kept (fun _ => False) w w') : Bk P w' z ba G K := h.kept k (fun _ _ => id)
theorem Bk.wide (h : Bk P w z ba G K) (Q : Nat → Prop) (hQ : ∀ i, P i → Q i) (hl : ∀ i, Q i → i < w.heap.size) : Bk Q w z ba G K := by
  refine ⟨hl, ?_⟩
  rcases h.bk with h1 | ⟨h1, own, B, bb, m1, m2, A, h2, h3, h4⟩
  · exact .inl h1
  · exact .inr ⟨h1, own, B, bb, m1, m2, A, h2, h3, fun i hi => hQ i (h4 i hi)⟩
theorem Bk.gr (h : Bk P w z ba G K) (k : Kept (fun _ => False) w w') : Bk (Gr P w w') w' z ba G K := (h.same k).wide _ (fun _ h => .inl h) (Gr.lt h.lt k.size)
theorem bvote (hb : Bk P w z ba G K) (x : Int) (yes : Bool) :
    Calls Try.prog 10 #[.pointer ba, .agg #[.int .u8 t1, .int .u32 t2, .int .u32 t3], .int .u8 x, .bool yes] w fun e w' => e = .returned (.tuple #[.int .i64 (voteR (lookG G (t1, t2, t3)) x yes).1.1, .int .i64 (voteR (lookG G (t1, t2, t3)) x yes).1.2]) ∧
      Bk P w' z ba (updG G (t1, t2, t3) (voteR (lookG G (t1, t2, t3)) x yes).2) K ∧ Kept P w w' := by
  obtain ⟨hlt, h⟩ := hb
  rcases h with ⟨rfl, rfl, rfl, rfl⟩ | ⟨rfl, own, B, bb, m1, m2, A, rfl, hb, hP⟩
  · refine (nvote w t1 t2 t3 x yes).mono ?_
    rintro e w' ⟨rfl, hk⟩
    exact ⟨rfl, ⟨fun i hi => Nat.lt_of_lt_of_le (hlt i hi) hk.size, .inl ⟨rfl, rfl, rfl, rfl⟩⟩, hk.mono (fun _ _ h => h.elim)⟩
  · refine (gvote_any hb x yes).mono ?_
    rintro e w' ⟨rfl, hb', hk⟩
    exact ⟨rfl, ⟨fun i hi => Nat.lt_of_lt_of_le (hlt i hi) hk.size, .inr ⟨rfl, own, B, bb, m1, m2, A, rfl, hb', hP⟩⟩, hk.mono (fun i _ h => hP i (.inr (.inr (.inr (by rw [h]; exact fun e => by cases e)))))⟩
theorem bcommit (hb : Bk P w z ba G K) :
    Calls Try.prog 11 #[.pointer ba, .agg #[.int .u8 t1, .int .u32 t2, .int .u32 t3]] w fun e w' => e = .returned (.int .i64 (comR (lookG G (t1, t2, t3))).1) ∧
      Bk P w' z ba (updG G (t1, t2, t3) (comR (lookG G (t1, t2, t3))).2) K ∧ Kept P w w' := by
  obtain ⟨hlt, h⟩ := hb
  rcases h with ⟨rfl, rfl, rfl, rfl⟩ | ⟨rfl, own, B, bb, m1, m2, A, rfl, hb, hP⟩
  · refine (ncommit w t1 t2 t3).mono ?_
    rintro e w' ⟨rfl, hk⟩
    exact ⟨rfl, ⟨fun i hi => Nat.lt_of_lt_of_le (hlt i hi) hk.size, .inl ⟨rfl, rfl, rfl, rfl⟩⟩, hk.mono (fun _ _ h => h.elim)⟩
  · refine (gcommit_any hb).mono ?_
    rintro e w' ⟨rfl, hb', hk⟩
    exact ⟨rfl, ⟨fun i hi => Nat.lt_of_lt_of_le (hlt i hi) hk.size, .inr ⟨rfl, own, B, bb, m1, m2, A, rfl, hb', hP⟩⟩, hk.mono (fun i _ h => hP i (.inr (.inr (.inr (by rw [h]; exact fun e => by cases e)))))⟩
theorem bapplied (hb : Bk P w z ba G K) (x : Int) :
    Calls Try.prog 24 #[.pointer ba, .agg #[.int .u8 t1, .int .u32 t2, .int .u32 t3], .int .u8 x] w fun e w' => e = .returned (.tuple #[.bool (appR (lookG G (t1, t2, t3)) x).1.1, .int .i64 (appR (lookG G (t1, t2, t3)) x).1.2]) ∧
      Bk P w' z ba (updG G (t1, t2, t3) (appR (lookG G (t1, t2, t3)) x).2) K ∧ Kept P w w' := by
  obtain ⟨hlt, h⟩ := hb
  rcases h with ⟨rfl, rfl, rfl, rfl⟩ | ⟨rfl, own, B, bb, m1, m2, A, rfl, hb, hP⟩
  · refine (napplied w t1 t2 t3 x).mono ?_
    rintro e w' ⟨rfl, hk⟩
    exact ⟨rfl, ⟨fun i hi => Nat.lt_of_lt_of_le (hlt i hi) hk.size, .inl ⟨rfl, rfl, rfl, rfl⟩⟩, hk.mono (fun _ _ h => h.elim)⟩
  · refine (gapplied_any hb x).mono ?_
    rintro e w' ⟨rfl, hb', hk⟩
    exact ⟨rfl, ⟨fun i hi => Nat.lt_of_lt_of_le (hlt i hi) hk.size, .inr ⟨rfl, own, B, bb, m1, m2, A, rfl, hb', hP⟩⟩, hk.mono (fun i _ h => hP i (.inr (.inr (.inr (by rw [h]; exact fun e => by cases e)))))⟩
theorem bruns (hb : Bk P w z ba G K) :
    Calls Try.prog 13 #[.pointer ba, .agg #[.int .u8 t1, .int .u32 t2, .int .u32 t3]] w fun e w' => e = .returned (.int .i64 (stR (lookG G (t1, t2, t3)))) ∧ Kept (fun _ => False) w w' := by
  obtain ⟨hlt, h⟩ := hb
  rcases h with ⟨rfl, rfl, rfl, rfl⟩ | ⟨rfl, own, B, bb, m1, m2, A, rfl, hb, hP⟩
  · exact nruns w t1 t2 t3
  · exact gruns_any hb
theorem bstands (hb : Bk P w z ba G K) :
    Calls Try.prog 14 #[.pointer ba, .agg #[.int .u8 t1, .int .u32 t2, .int .u32 t3]] w fun e w' => e = .returned (.int .i64 (stK K (t1, t2, t3))) ∧ Kept (fun _ => False) w w' := by
  obtain ⟨hlt, h⟩ := hb
  rcases h with ⟨rfl, rfl, rfl, rfl⟩ | ⟨rfl, own, B, bb, m1, m2, A, rfl, hb, hP⟩
  · exact nstands w t1 t2 t3
  · exact gstands_any hb
theorem bowing (hb : Bk P w z ba G K) (hn4 : ∀ p ∈ G, p.2.ns.length ≤ 4) :
    Calls Try.prog 16 #[.pointer ba, .agg #[.int .u8 t1, .int .u32 t2, .int .u32 t3]] w fun e w' => ∃ (a : Option Addr) (n c : Nat), e = .returned (.slice a n c) ∧ n ≤ 4 ∧ Own w' 5 1 (.slice a n c) n (bcells (oweR (lookG G (t1, t2, t3)))) ∧ (∀ g, (Value.slice a n c).ownBlock = some g → w.heap.size ≤ g) ∧ Kept (fun _ => False) w w' := by
  obtain ⟨hlt, h⟩ := hb
  rcases h with ⟨rfl, rfl, rfl, rfl⟩ | ⟨rfl, own, B, bb, m1, m2, A, rfl, hb, hP⟩
  · refine (nowing w t1 t2 t3).mono ?_
    rintro e w' ⟨rfl, hk⟩
    exact ⟨none, 0, 0, rfl, Nat.zero_le _, Own.nil _ _ _, fun g hg => by simp [Value.ownBlock] at hg, hk⟩
  · exact gowing_any hb hn4
def takeZ (z : Bool) (K : List (Tx × Int)) (t : Tx) : Int × List (Tx × Int) := if z then (6, K) else takeR K t
theorem btake (hb : Bk P w z ba G K) :
    Calls Try.prog 26 #[.pointer ba, .agg #[.int .u8 t1, .int .u32 t2, .int .u32 t3]] w fun e w' => e = .returned (.int .i64 (takeZ z K (t1, t2, t3)).1) ∧ Bk P w' z ba G (takeZ z K (t1, t2, t3)).2 ∧ Kept P w w' := by
  obtain ⟨hlt, h⟩ := hb
  rcases h with ⟨rfl, rfl, rfl, rfl⟩ | ⟨rfl, own, B, bb, m1, m2, A, rfl, hb, hP⟩
  · refine (ntake w t1 t2 t3).mono ?_
    rintro e w' ⟨rfl, hk⟩
    exact ⟨rfl, ⟨fun i hi => Nat.lt_of_lt_of_le (hlt i hi) hk.size, .inl ⟨rfl, rfl, rfl, rfl⟩⟩, hk.mono (fun _ _ h => h.elim)⟩
  · refine (gtake_any hb).mono ?_
    rintro e w' ⟨rfl, hb', hk⟩
    exact ⟨rfl, ⟨fun i hi => Nat.lt_of_lt_of_le (hlt i hi) hk.size, .inr ⟨rfl, own, B, bb, m1, m2, A, rfl, hb', hP⟩⟩, hk.mono (fun i _ h => hP i (.inr (.inr (.inl h))))⟩
theorem bsettle (hb : Bk P w z ba G K) (s : Int) :
    Calls Try.prog 28 #[.pointer ba, .agg #[.int .u8 t1, .int .u32 t2, .int .u32 t3], .int .i64 s] w fun e w' => e = .returned (.int .i64 (settleR K (t1, t2, t3) s).1) ∧ Bk P w' z ba G (settleR K (t1, t2, t3) s).2 ∧ Kept P w w' := by
  by_cases h34 : s = 3 ∨ s = 4
  · have e1 : settleR [] (t1, t2, t3) s = (6, []) := by
      unfold settleR
      rw [if_neg (by omega)]
      rfl
    obtain ⟨hlt, h⟩ := hb
    rcases h with ⟨rfl, rfl, rfl, rfl⟩ | ⟨rfl, own, B, bb, m1, m2, A, rfl, hb, hP⟩
    · refine (nsettle w t1 t2 t3 s h34).mono ?_
      rintro e w' ⟨rfl, hk⟩
      rw [e1]
      exact ⟨rfl, ⟨fun i hi => Nat.lt_of_lt_of_le (hlt i hi) hk.size, .inl ⟨rfl, rfl, rfl, rfl⟩⟩, hk.mono (fun _ _ h => h.elim)⟩
    · refine (gsettle_ok hb s h34).mono ?_
      rintro e w' ⟨rfl, hb', hk⟩
      exact ⟨rfl, ⟨fun i hi => Nat.lt_of_lt_of_le (hlt i hi) hk.size, .inr ⟨rfl, own, B, bb, m1, m2, A, rfl, hb', hP⟩⟩, hk.mono (fun i _ h => hP i (.inr (.inr (.inl h))))⟩
  · have e1 : settleR K (t1, t2, t3) s = (1, K) := by
      unfold settleR
      rw [if_pos (by omega)]
    rw [e1]
    refine (gsettle_arg _ w t1 t2 t3 s (by omega) (by omega)).mono ?_
    rintro e w' ⟨rfl, hk⟩
    exact ⟨rfl, hb.same hk, hk.mono (fun _ _ h => h.elim)⟩
def begZ (z : Bool) (ns : List Int) (there : Bool) : Int :=
  if ns.length = 0 ∨ 4 < ns.length then 1 else if ns.any (fun v => decide (4 ≤ v)) then 1 else if (ded ns).length < ns.length then 3 else if z then 6 else if there then 7 else 0
theorem bbegin (hb : Bk P w z ba G K) {F : Nat → Prop} {a : Option Addr} {N c : Nat} {ns : List Int} (hl : Lies F w 1 (.slice a N c) N (bcells ns)) (hr : ∀ v ∈ ns, 0 ≤ v ∧ v ≤ 255) :
    Calls Try.prog 9 #[.pointer ba, .agg #[.int .u8 t1, .int .u32 t2, .int .u32 t3], .slice a N c] w fun e w' => e = .returned (.int .i64 (begZ z ns (lookG G (t1, t2, t3)).isSome)) ∧
      Bk (Gr P w w') w' z ba (if begZ z ns (lookG G (t1, t2, t3)).isSome = 0 then G ++ [((t1, t2, t3), rn0 ns)] else G) K ∧ Kept P w w' := by
  have hn : ns.length = N := by have := hl.len; simpa using this
  by_cases h4 : 1 ≤ N ∧ N ≤ 4
  · have e0 : ∀ there, begZ z ns there = if ns.any (fun v => decide (4 ≤ v)) then 1 else if (ded ns).length < ns.length then 3 else if z then 6 else if there then 7 else 0 := fun there => by
      unfold begZ
      rw [if_neg (by omega)]
    have e1 : ∀ there, begR ns there = if ns.any (fun v => decide (4 ≤ v)) then 1 else if (ded ns).length < ns.length then 3 else if there then 7 else 0 := fun there => by
      unfold begR
      rw [if_neg (by omega)]
    obtain ⟨hlt, h⟩ := hb
    rcases h with ⟨rfl, rfl, rfl, rfl⟩ | ⟨rfl, own, B, bb, m1, m2, A, rfl, hb, hP⟩
    · have e2 : ∀ there, begZ true ns there = if ns.any (fun v => decide (4 ≤ v)) then 1 else if (ded ns).length < ns.length then 3 else 6 := fun there => by
        rw [e0]; rfl
      have e3 : ∀ there, begZ true ns there ≠ 0 := fun there => by
        rw [e2]
        split
        · decide
        · split <;> decide
      rw [if_neg (e3 _), e2]
      refine (begin_nil w t1 t2 t3 hl h4 hr).mono ?_
      rintro e w' ⟨rfl, hk⟩
      exact ⟨rfl, ⟨Gr.lt hlt hk.size, .inl ⟨rfl, rfl, rfl, rfl⟩⟩, hk.mono (fun _ _ h => h.elim)⟩
    · have e2 : ∀ there, begZ false ns there = begR ns there := fun there => by
        rw [e0, e1]; rfl
      rw [e2]
      refine (gbegin_any hb hl h4 hr).mono ?_
      rintro e w' ⟨rfl, hk, own', A', ho, hb'⟩
      refine ⟨rfl, ⟨Gr.lt hlt hk.size, .inr ⟨rfl, own', B, bb, m1, m2, A', rfl, hb', ?_⟩⟩, hk.mono (fun i _ h => hP i (.inr (.inl h)))⟩
      rintro i (h | h | h | h)
      · exact .inl (hP i (.inl h))
      · exact .inl (hP i (.inr (.inl h)))
      · exact .inl (hP i (.inr (.inr (.inl h))))
      · rcases ho i h with h1 | h1
        · exact .inl (hP i (.inr (.inr (.inr h1))))
        · refine .inr ⟨h1, ?_⟩
          rcases Nat.lt_or_ge i w'.heap.size with h2 | h2
          · exact h2
          · exact absurd (hb'.new i h2) h
  · have e0 : ∀ there, begZ z ns there = 1 := fun there => by
      unfold begZ
      rw [if_pos (by omega)]
    rw [e0, if_neg (by decide)]
    refine (begin_len _ w t1 t2 t3 a N c (by omega)).mono ?_
    rintro e w' ⟨rfl, hk⟩
    exact ⟨rfl, hb.gr hk, hk.mono (fun _ _ h => h.elim)⟩
theorem bnew (w : World) : Calls Try.prog 8 #[] w fun e w' => ∃ ba, e = .returned (.pointer ba) ∧ ba ≠ none ∧ Bk (fun i => w.heap.size ≤ i ∧ i < w'.heap.size) w' false ba [] [] ∧ Kept (fun _ => False) w w' := by
  refine (gnew_any w).mono ?_
  rintro e w' ⟨rfl, hb, hk⟩
  refine ⟨_, rfl, (fun e => by cases e), ⟨fun i h => h.2, .inr ⟨rfl, _, _, _, _, _, _, rfl, hb, ?_⟩⟩, hk⟩
  have h1 := row_lt hb.obj
  have h2 := hb.map1.lt
  have h3 := hb.map2.lt
  rintro i (h | h | h | h)
  · omega
  · omega
  · omega
  · exact absurd rfl h
end
end Go.Proofs.Ytaobioleodfafaa
/- The document's book in memory. -/
namespace Go.Proofs.Ytaobioleodfafaa
open Go.RowKit
section
variable {α : Type} {f : α → List Value} {m : Nat}
theorem flat_len (hf : ∀ x, (f x).length = m) : ∀ L : List α, (L.flatMap f).length = L.length * m
  | [] => by simp
  | x :: L => by rw [List.flatMap_cons, List.length_append, hf, flat_len hf L, List.length_cons, Nat.succ_mul]; omega
theorem flat_at (hf : ∀ x, (f x).length = m) : ∀ (L : List α) (k j : Nat) (x : α), L[k]? = some x → j < m → (L.flatMap f)[k * m + j]? = (f x)[j]?
  | [], _, _, _, h, _ => by simp at h
  | y :: L, 0, j, x, h, hj => by
    simp at h; subst h
    rw [List.flatMap_cons, Nat.zero_mul, Nat.zero_add, List.getElem?_append_left (by rw [hf]; exact hj)]
  | y :: L, k + 1, j, x, h, hj => by
    rw [List.flatMap_cons, List.getElem?_append_right (by rw [hf, Nat.succ_mul]; omega), hf, show (k + 1) * m + j - m = k * m + j by rw [Nat.succ_mul]; omega]
    exact flat_at hf L k j x (by simpa using h) hj
theorem flat_set (hf : ∀ x, (f x).length = m) : ∀ (L : List α) (k j : Nat) (x y : α) (u : Value), L[k]? = some x → j < m → f y = (f x).set j u → (L.flatMap f).set (k * m + j) u = (L.set k y).flatMap f
  | [], _, _, _, _, _, h, _, _ => by simp at h
  | z :: L, 0, j, x, y, u, h, hj, e => by
    simp at h; subst h
    rw [List.flatMap_cons, List.set_cons_zero, List.flatMap_cons, e, Nat.zero_mul, Nat.zero_add, List.set_append_left _ _ (by rw [hf]; exact hj)]
  | z :: L, k + 1, j, x, y, u, h, hj, e => by
    rw [List.flatMap_cons, List.set_cons_succ, List.flatMap_cons, List.set_append_right _ _ (by rw [hf, Nat.succ_mul]; omega), hf, show (k + 1) * m + j - m = k * m + j by rw [Nat.succ_mul]; omega, flat_set hf L k j x y u (by simpa using h) hj e]
end
/-- where a run's lists lie -/
structure Dx where
  nb : Nat
  nc : Nat
  yb : Nat
  db : Nat
def runC (d : Dx) (t : Tx) (r : Rn) : List Value := [.int .u8 t.1, .int .u32 t.2.1, .int .u32 t.2.2, .slice (some ⟨d.nb, 0, none⟩) r.ns.length d.nc, .slice (some ⟨d.yb, 0, none⟩) r.ns.length r.ns.length, .slice (some ⟨d.db, 0, none⟩) r.ns.length r.ns.length, .int .i64 r.st]
def takC (p : Tx × Int) : List Value := [.int .u8 p.1.1, .int .u32 p.1.2.1, .int .u32 p.1.2.2, .int .i64 p.2]
theorem runC_len (d : Dx) (t : Tx) (r : Rn) : (runC d t r).length = 7 := rfl
theorem takC_len (p : Tx × Int) : (takC p).length = 4 := rfl
def boolL (r : Rn) (Y : Int → Bool) : List Value := (ordered r.ns).map fun v => .bool (Y v)
structure DRun (O : Nat → Prop) (w : World) (d : Dx) (r : Rn) : Prop where
  nodes : Own w 5 1 (.slice (some ⟨d.nb, 0, none⟩) r.ns.length d.nc) r.ns.length (bcells (ordered r.ns))
  yes : w.heap[d.yb]? = some (.cells (boolL r r.Y).toArray 4 (0, 0))
  did : w.heap[d.db]? = some (.cells (boolL r r.D).toArray 4 (0, 0))
  own : O d.nb ∧ O d.yb ∧ O d.db
  ne : d.yb ≠ d.db
theorem DRun.kept {O F : Nat → Prop} {w w' : World} {d : Dx} {r : Rn} (h : DRun O w d r) (k : Kept F w w') (hF : ∀ i, O i → ¬ F i) : DRun O w' d r where
  nodes := h.nodes.kept k (fun g hg => by simp [Value.ownBlock] at hg; subst hg; exact hF _ h.own.1)
  yes := (k.block _ (row_lt h.yes) (hF _ h.own.2.1)).trans h.yes
  did := (k.block _ (row_lt h.did) (hF _ h.own.2.2)).trans h.did
  own := h.own
  ne := h.ne
structure DBook (own : Nat → Option Tx) (w : World) (xb : Nat) (ra ta : Option Addr) (rc tc : Nat) (G : List (Tx × Rn)) (Z : Tx → Dx) (T : List (Tx × Int)) : Prop where
  obj : w.heap[xb]? = some (.cells #[.slice ra G.length rc, .slice ta T.length tc] 41 (0, 0))
  runs : Own w 89 7 (.slice ra G.length rc) G.length (G.flatMap fun p => runC (Z p.1) p.1 p.2)
  takes : Own w 94 4 (.slice ta T.length tc) T.length (T.flatMap takC)
  run : ∀ p ∈ G, DRun (fun i => own i = some p.1) w (Z p.1) p.2
  top : own xb = none ∧ (∀ g, (Value.slice ra G.length rc).ownBlock = some g → own g = none) ∧ (∀ g, (Value.slice ta T.length tc).ownBlock = some g → own g = none)
  new : ∀ i, w.heap.size ≤ i → own i = none
/-- the document's book, nil or not, as one thing with its blocks -/
structure Dk (P : Nat → Prop) (w : World) (z : Bool) (xa : Option Addr) (G : List (Tx × Rn)) (T : List (Tx × Int)) : Prop where
  lt : ∀ i, P i → i < w.heap.size
  bk : (z = true ∧ xa = none ∧ G = [] ∧ T = []) ∨ (z = false ∧ ∃ own xb ra ta rc tc Z, xa = some ⟨xb, 0, none⟩ ∧ DBook own w xb ra ta rc tc G Z T ∧ ∀ i, i = xb ∨ (Value.slice ra G.length rc).ownBlock = some i ∨ (Value.slice ta T.length tc).ownBlock = some i ∨ own i ≠ none → P i)
section
variable {own : Nat → Option Tx} {w w' : World} {xb : Nat} {ra ta : Option Addr} {rc tc : Nat} {G : List (Tx × Rn)} {Z : Tx → Dx} {T : List (Tx × Int)} {F : Nat → Prop}
theorem DBook.keptP (h : DBook own w xb ra ta rc tc G Z T) (k : Kept F w w') (hF : ∀ i, i = xb ∨ (Value.slice ra G.length rc).ownBlock = some i ∨ (Value.slice ta T.length tc).ownBlock = some i ∨ own i ≠ none → ¬ F i) : DBook own w' xb ra ta rc tc G Z T where
  obj := (k.block _ (row_lt h.obj) (hF _ (.inl rfl))).trans h.obj
  runs := h.runs.kept k (fun g hg => hF _ (.inr (.inl hg)))
  takes := h.takes.kept k (fun g hg => hF _ (.inr (.inr (.inl hg))))
  run := fun p hp => (h.run p hp).kept k (fun i hi => hF _ (.inr (.inr (.inr (by rw [hi]; exact fun e => by cases e)))))
  top := h.top
  new := fun i hi => h.new i (Nat.le_trans k.size hi)
theorem DBook.same (h : DBook own w xb ra ta rc tc G Z T) (k : Kept (fun _ => False) w w') : DBook own w' xb ra ta rc tc G Z T := h.keptP k (fun _ _ => id)
theorem DBook.cells (h : DBook own w xb ra ta rc tc G Z T) : w.cell? ⟨xb, 0, none⟩ = some (.slice ra G.length rc) ∧ w.cell? ⟨xb, 1, none⟩ = some (.slice ta T.length tc) := ⟨by rw [row_cell h.obj]; rfl, by rw [row_cell h.obj]; rfl⟩
theorem DBook.rcell (h : DBook own w xb ra ta rc tc G Z T) {k : Nat} {t : Tx} {r : Rn} (hk : G[k]? = some (t, r)) : ∃ rb, ra = some ⟨rb, 0, none⟩ ∧
    ((w.cell? ⟨rb, k * 7, none⟩ = some (.int .u8 t.1) ∧ w.cell? ⟨rb, k * 7 + 1, none⟩ = some (.int .u32 t.2.1) ∧ w.cell? ⟨rb, k * 7 + 2, none⟩ = some (.int .u32 t.2.2)) ∧
    w.cell? ⟨rb, k * 7 + 3, none⟩ = some (.slice (some ⟨(Z t).nb, 0, none⟩) r.ns.length (Z t).nc) ∧ w.cell? ⟨rb, k * 7 + 4, none⟩ = some (.slice (some ⟨(Z t).yb, 0, none⟩) r.ns.length r.ns.length) ∧
    w.cell? ⟨rb, k * 7 + 5, none⟩ = some (.slice (some ⟨(Z t).db, 0, none⟩) r.ns.length r.ns.length) ∧ w.cell? ⟨rb, k * 7 + 6, none⟩ = some (.int .i64 r.st) ∧ w.frozen? ⟨rb, k * 7 + 6, none⟩ = false) := by
  have hlt : k < G.length := (List.getElem?_eq_some_iff.1 hk).1
  obtain ⟨rb, c, e, _, _⟩ := h.runs.some_of_pos (by omega)
  simp only [Value.slice.injEq] at e
  obtain ⟨rfl, _, _⟩ := e
  refine ⟨rb, rfl, ?_⟩
  have key : ∀ j u, (runC (Z t) t r)[j]? = some u → j < 7 → w.cell? ⟨rb, k * 7 + j, none⟩ = some u := fun j u hu hj => by
    have h1 := flat_at (f := fun p : Tx × Rn => runC (Z p.1) p.1 p.2) (m := 7) (fun _ => rfl) G k j (t, r) hk hj
    rw [hu] at h1
    obtain ⟨h2, h3⟩ := List.getElem?_eq_some_iff.1 h1
    rw [h.runs.cells rfl _ h2, h3]
  exact ⟨⟨key 0 _ rfl (by omega), key 1 _ rfl (by omega), key 2 _ rfl (by omega)⟩, key 3 _ rfl (by omega), key 4 _ rfl (by omega), key 5 _ rfl (by omega), key 6 _ rfl (by omega), h.runs.free rfl _⟩
theorem DBook.tcell (h : DBook own w xb ra ta rc tc G Z T) {k : Nat} {t : Tx} {s : Int} (hk : T[k]? = some (t, s)) : ∃ tb, ta = some ⟨tb, 0, none⟩ ∧
    ((w.cell? ⟨tb, k * 4, none⟩ = some (.int .u8 t.1) ∧ w.cell? ⟨tb, k * 4 + 1, none⟩ = some (.int .u32 t.2.1) ∧ w.cell? ⟨tb, k * 4 + 2, none⟩ = some (.int .u32 t.2.2)) ∧ w.cell? ⟨tb, k * 4 + 3, none⟩ = some (.int .i64 s) ∧ w.frozen? ⟨tb, k * 4 + 3, none⟩ = false) := by
  have hlt : k < T.length := (List.getElem?_eq_some_iff.1 hk).1
  obtain ⟨tb, c, e, _, _⟩ := h.takes.some_of_pos (by omega)
  simp only [Value.slice.injEq] at e
  obtain ⟨rfl, _, _⟩ := e
  refine ⟨tb, rfl, ?_⟩
  have key : ∀ j u, (takC (t, s))[j]? = some u → j < 4 → w.cell? ⟨tb, k * 4 + j, none⟩ = some u := fun j u hu hj => by
    have h1 := flat_at (f := takC) (m := 4) (fun _ => rfl) T k j (t, s) hk hj
    rw [hu] at h1
    obtain ⟨h2, h3⟩ := List.getElem?_eq_some_iff.1 h1
    rw [h.takes.cells rfl _ h2, h3]
  exact ⟨⟨key 0 _ rfl (by omega), key 1 _ rfl (by omega), key 2 _ rfl (by omega)⟩, key 3 _ rfl (by omega), h.takes.free rfl _⟩
end
section
variable {O : Nat → Prop} {w : World} {d : Dx} {r : Rn}
theorem boolL_cell {b : Nat} {Y : Int → Bool} (h : w.heap[b]? = some (.cells (boolL r Y).toArray 4 (0, 0))) {j : Nat} {v : Int} (hj : (ordered r.ns)[j]? = some v) : w.cell? ⟨b, j, none⟩ = some (.bool (Y v)) := by
  rw [row_cell h]
  simp [boolL, hj]
theorem DRun.ncell (h : DRun O w d r) {j : Nat} {v : Int} (hj : (ordered r.ns)[j]? = some v) : w.cell? ⟨d.nb, j, none⟩ = some (.int .u8 v) := by
  obtain ⟨h1, h2⟩ := List.getElem?_eq_some_iff.1 hj
  rw [h.nodes.cells rfl j (by simpa [bcells] using h1)]
  simp [bcells, h2]
end
section
variable {P : Nat → Prop} {w w' : World} {z : Bool} {xa : Option Addr} {G : List (Tx × Rn)} {T : List (Tx × Int)}
theorem Dk.kept {F : Nat → Prop} (h : Dk P w z xa G T) (k : Kept F w w') (hF : ∀ i, P i → ¬ F i) : Dk P w' z xa G T := by
  refine ⟨fun i hi => Nat.lt_of_lt_of_le (h.lt i hi) k.size, ?_⟩
  rcases h.bk with h1 | ⟨h1, own, xb, ra, ta, rc, tc, Z, h2, h3, h4⟩
  · exact .inl h1
  · exact .inr ⟨h1, own, xb, ra, ta, rc, tc, Z, h2, h3.keptP k (fun i hi => hF i (h4 i hi)), h4⟩
theorem Dk.same (h : Dk P w z xa G T) (k : Kept (fun _ => False) w w') : Dk P w' z xa G T := h.kept k (fun _ _ => id)
theorem Dk.wide (h : Dk P w z xa G T) (Q : Nat → Prop) (hQ : ∀ i, P i → Q i) (hl : ∀ i, Q i → i < w.heap.size) : Dk Q w z xa G T := by
  refine ⟨hl, ?_⟩
  rcases h.bk with h1 | ⟨h1, own, xb, ra, ta, rc, tc, Z, h2, h3, h4⟩
  · exact .inl h1
  · exact .inr ⟨h1, own, xb, ra, ta, rc, tc, Z, h2, h3, fun i hi => hQ i (h4 i hi)⟩
theorem Dk.gr (h : Dk P w z xa G T) (k : Kept (fun _ => False) w w') : Dk (Gr P w w') w' z xa G T := (h.same k).wide _ (fun _ h => .inl h) (Gr.lt h.lt k.size)
end
end Go.Proofs.Ytaobioleodfafaa
/- The document: run. -/
namespace Go.Proofs.Ytaobioleodfafaa
open Go.RowKit
theorem look_at : ∀ (G : List (Tx × Rn)) (k : Nat) (t : Tx) (r : Rn), G[k]? = some (t, r) → (∀ j p, j < k → G[j]? = some p → p.1 ≠ t) → lookG G t = some r
  | [], _, _, _, h, _ => by simp at h
  | (a, x) :: G, 0, t, r, h, _ => by simp at h; obtain ⟨rfl, rfl⟩ := h; simp [lookG]
  | (a, x) :: G, k + 1, t, r, h, hj => by
    have h0 := hj 0 (a, x) (by omega) rfl
    unfold lookG
    rw [if_neg (fun e => h0 e.symm)]
    exact look_at G k t r (by simpa using h) (fun j p hjk hp => hj (j + 1) p (by omega) (by simpa using hp))
theorem look_non : ∀ (G : List (Tx × Rn)) (t : Tx), (∀ (j : Nat) p, G[j]? = some p → p.1 ≠ t) → lookG G t = none
  | [], _, _ => rfl
  | (a, x) :: G, t, hj => by
    have h0 := hj 0 (a, x) rfl
    unfold lookG
    rw [if_neg (fun e => h0 e.symm)]
    exact look_non G t (fun j p hp => hj (j + 1) p (by simpa using hp))
section
variable {own : Nat → Option Tx} {w : World} {xb : Nat} {ra ta : Option Addr} {rc tc : Nat} {G : List (Tx × Rn)} {Z : Tx → Dx} {T : List (Tx × Int)} {t1 t2 t3 : Int}
set_option maxRecDepth 100000 in
set_option maxHeartbeats 1000000 in
theorem drun_nil (w : World) (t1 t2 t3 : Int) : Calls Try.prog 40 #[.pointer none, .agg #[.int .u8 t1, .int .u32 t2, .int .u32 t3]] w fun e w' => e = .returned (.int .i64 (-1)) ∧ Kept (fun _ => False) w w' := by
  have K1 := hid ((Kept.refl (fun _ => False) w).alloc (.cells #[.int .u8 t1, .int .u32 t2, .int .u32 t3] 28))
  go_enter Try.func40, Try.ntmps40
  go_wp2_with fail
  go_loopw [5] (fun i wr => i = .int .i64 0 ∧ Kept (fun _ => False) w wr) (fun _ _ => 0)
  case atStart => exact ⟨rfl, K1.out⟩
  case round =>
    obtain ⟨rfl, hk⟩ := hrel
    go_wp2
    go_ret
    exact ⟨rfl, hk⟩
set_option maxRecDepth 100000 in
set_option maxHeartbeats 1000000 in
theorem drun_some (hd : DBook own w xb ra ta rc tc G Z T) (hz : G.length ≤ 1000000) : Calls Try.prog 40 #[.pointer (some ⟨xb, 0, none⟩), .agg #[.int .u8 t1, .int .u32 t2, .int .u32 t3]] w fun e w' => (∃ i : Int, e = .returned (.int .i64 i) ∧ ((lookG G (t1, t2, t3) = none ∧ i = -1) ∨ ∃ (r : Rn) (k : Nat), lookG G (t1, t2, t3) = some r ∧ i = k ∧ G[k]? = some ((t1, t2, t3), r))) ∧ Kept (fun _ => False) w w' := by
  have hk1 := (Kept.refl (fun _ => False) w).alloc (.cells #[.int .u8 t1, .int .u32 t2, .int .u32 t3] 28)
  have hkb := row_new w (.cells #[.int .u8 t1, .int .u32 t2, .int .u32 t3] 28)
  obtain ⟨w1, hw1⟩ : ∃ w1, w.alloc (.cells #[.int .u8 t1, .int .u32 t2, .int .u32 t3] 28) = w1 := ⟨_, rfl⟩
  obtain ⟨kb, hkb'⟩ : ∃ kb, w.heap.size = kb := ⟨_, rfl⟩
  rw [hw1] at hk1 hkb
  rw [hkb'] at hkb
  have HD := hid (hd.same hk1); have HK := hid hkb; have K1 := hid hk1
  obtain ⟨n, hn⟩ : ∃ n, G.length = n := ⟨_, rfl⟩
  have HN := hid hn
  rw [hn] at hz
  clear hd hkb hk1 hn
  go_enter Try.func40, Try.ntmps40
  go_wp2_with fail
  try rw [hw1, hkb']
  clear hw1 hkb'
  go_loopw [5] (fun i wr => ∃ k : Nat, k ≤ n ∧ i = .int .i64 k ∧ Kept (fun _ => False) w1 wr ∧ ∀ j p, j < k → G[j]? = some p → p.1 ≠ (t1, t2, t3)) (fun i _ => n - (RowKit.intOf i).toNat)
  case atStart => exact ⟨0, Nat.zero_le _, rfl, Kept.refl _ _, fun j p h => absurd h (Nat.not_lt_zero _)⟩
  case round =>
    rename World => wr
    obtain ⟨k, hk, rfl, hkp, hp⟩ := hrel
    have HP := hid hp; have KR := hid hkp
    have HDR := hid (HD.out.same hkp)
    have hkr := (hkp.block _ (row_lt HK.out) id).trans HK.out
    obtain ⟨c0, c1⟩ := HDR.out.cells
    obtain ⟨d0, d1, d2⟩ := cells3 hkr
    rw [HN.out] at c0
    clear hp hkp hkr
    by_cases hlt : k < n
    · have hltI : (k : Int) < (n : Int) := by omega
      obtain ⟨⟨⟨x1, x2, x3⟩, r⟩, hgk⟩ : ∃ p, G[k]? = some p := ⟨_, List.getElem?_eq_getElem (by rw [HN.out]; exact hlt)⟩
      obtain ⟨rb, rfl, ⟨e0, e1, e2⟩, -⟩ := HDR.out.rcell hgk
      have HGK := hid hgk
      clear hgk
      obtain ⟨b, hb⟩ : ∃ b, decide (((x1, x2, x3) : Tx) = (t1, t2, t3)) = b := ⟨_, rfl⟩
      have hsame : ∀ w', (Op.equalIn 10000 28 (.agg #[.int .u8 x1, .int .u32 x2, .int .u32 x3]) (.agg #[.int .u8 t1, .int .u32 t2, .int .u32 t3])).run Try.prog w' = .ok b w' := fun w' => by
        rw [← hb]; exact tx_same (x1, x2, x3) (t1, t2, t3) w'
      have HBQ := hid hb
      clear hb
      cases b with
      | true =>
        have hxt : (x1, x2, x3) = (t1, t2, t3) := of_decide_eq_true HBQ.out
        have hres := hid (show lookG G (t1, t2, t3) = some r ∧ G[k]? = some ((t1, t2, t3), r) by rw [← hxt]; exact ⟨look_at G k _ r HGK.out (by rw [hxt]; exact HP.out), HGK.out⟩)
        clear hxt
        go_wp2_with fail
        go_quiet (fail)
        have KQ := hid ((K1.out.trans KR.out).trans (kept_drewN (F := fun _ => False) wr nq))
        go_wp2
        go_ret
        exact ⟨⟨k, rfl, .inr ⟨r, k, hres.out.1, rfl, hres.out.2⟩⟩, KQ.out⟩
      | false =>
        have hxt := hid (of_decide_eq_false HBQ.out)
        go_wp2_with fail
        go_quiet (fail)
        have KQ := hid (KR.out.trans (kept_drewN (F := fun _ => False) wr nq))
        go_wp2
        go_roundw
        case rel => exact ⟨k + 1, by omega, by go_num, KQ.out, fun j p hj hp => by
          rcases Nat.lt_succ_iff_lt_or_eq.1 hj with h1 | rfl
          · exact HP.out j p h1 hp
          · rw [HGK.out] at hp; cases hp; exact hxt.out⟩
        case measure => (simp only [RowKit.intOf]; omega)
    · obtain rfl : k = n := by omega
      have hnone := hid (look_non G (t1, t2, t3) (fun j p hp => HP.out j p (by have := (List.getElem?_eq_some_iff.1 hp).1; rw [HN.out] at this; exact this) hp))
      go_wp2
      go_ret
      exact ⟨⟨-1, rfl, .inl ⟨hnone.out, rfl⟩⟩, K1.out.trans KR.out⟩
end
end Go.Proofs.Ytaobioleodfafaa
/- The document: node, every, less. -/
namespace Go.Proofs.Ytaobioleodfafaa
open Go.RowKit
set_option maxRecDepth 100000 in
set_option maxHeartbeats 1000000 in
theorem dnode {O : Nat → Prop} {w : World} {d : Dx} {r : Rn} (hr : DRun O w d r) (hz : r.ns.length ≤ 4) (t1 t2 t3 x : Int) :
    Calls Try.prog 41 #[.agg #[.int .u8 t1, .int .u32 t2, .int .u32 t3, .slice (some ⟨d.nb, 0, none⟩) r.ns.length d.nc, .slice (some ⟨d.yb, 0, none⟩) r.ns.length r.ns.length, .slice (some ⟨d.db, 0, none⟩) r.ns.length r.ns.length, .int .i64 r.st], .int .u8 x] w fun e w' => (∃ i : Int, e = .returned (.int .i64 i) ∧ ((x ∉ r.ns ∧ i = -1) ∨ ∃ k : Nat, x ∈ r.ns ∧ i = k ∧ (ordered r.ns)[k]? = some x)) ∧ Kept (fun _ => False) w w' := by
  have HR := hid hr
  have HOM := hid (fun (v : Int) => show v ∈ ordered r.ns ↔ v ∈ r.ns from (List.mergeSort_perm r.ns _).mem_iff)
  obtain ⟨n, hn⟩ : ∃ n, r.ns.length = n := ⟨_, rfl⟩
  have HN := hid (show (ordered r.ns).length = n by rw [ordered_len]; exact hn)
  rw [hn] at hz ⊢
  clear hr hn
  obtain ⟨nb, nc, yb, db⟩ := d
  simp only
  have K0 := hid (Kept.refl (fun _ => False) w)
  go_enter Try.func41, Try.ntmps41
  go_wp2_with fail
  go_loopw [10] (fun i wr => ∃ k : Nat, k ≤ n ∧ i = .int .i64 k ∧ Kept (fun _ => False) w wr ∧ ∀ j v, j < k → (ordered r.ns)[j]? = some v → v ≠ x) (fun i _ => n - (RowKit.intOf i).toNat)
  case atStart => exact ⟨0, Nat.zero_le _, rfl, K0.out.alloc _, fun j p h => absurd h (Nat.not_lt_zero _)⟩
  case round =>
    rename World => wr
    obtain ⟨k, hk, rfl, hkp, hp⟩ := hrel
    have HP := hid hp; have KR := hid hkp
    clear hp hkp
    by_cases hlt : k < n
    · have hltI : (k : Int) < (n : Int) := by omega
      obtain ⟨v, hv⟩ : ∃ v, (ordered r.ns)[k]? = some v := ⟨_, List.getElem?_eq_getElem (by rw [HN.out]; exact hlt)⟩
      have cv := KR.out.cell (HR.out.ncell hv) id
      simp only at cv
      have HV := hid hv
      clear hv
      obtain ⟨b, hb⟩ : ∃ b, (v == x) = b := ⟨_, rfl⟩
      have HBQ := hid hb
      cases b with
      | true =>
        have hvx : v = x := by simpa using HBQ.out
        have hres := hid (show x ∈ r.ns ∧ (ordered r.ns)[k]? = some x by rw [← hvx]; exact ⟨(HOM.out v).1 (List.mem_of_getElem? HV.out), HV.out⟩)
        clear hvx
        go_wp2
        go_ret
        exact ⟨⟨k, rfl, .inr ⟨k, hres.out.1, rfl, hres.out.2⟩⟩, KR.out⟩
      | false =>
        have hvx := hid (show v ≠ x by simpa using HBQ.out)
        go_wp2
        go_roundw
        case rel => exact ⟨k + 1, by omega, by go_num, KR.out, fun j p hj hp => by
          rcases Nat.lt_succ_iff_lt_or_eq.1 hj with h1 | rfl
          · exact HP.out j p h1 hp
          · rw [HV.out] at hp; cases hp; exact hvx.out⟩
        case measure => (simp only [RowKit.intOf]; omega)
    · obtain rfl : k = n := by omega
      have hnone := hid (show x ∉ r.ns from fun h => by
        obtain ⟨j, hj⟩ := List.getElem?_of_mem ((HOM.out x).2 h)
        exact HP.out j x (by have := (List.getElem?_eq_some_iff.1 hj).1; rw [HN.out] at this; exact this) hj rfl)
      go_wp2
      go_ret
      exact ⟨⟨-1, rfl, .inl ⟨hnone.out, rfl⟩⟩, KR.out⟩
set_option maxRecDepth 100000 in
set_option maxHeartbeats 1000000 in
theorem devery {w : World} {b n : Nat} {L : List Bool} (hl : L.length = n) (hz : n ≤ 4) (h : ∀ k x, L[k]? = some x → w.cell? ⟨b, k, none⟩ = some (.bool x)) :
    Calls Try.prog 42 #[.slice (some ⟨b, 0, none⟩) n n] w fun e w' => e = .returned (.bool (L.all id)) ∧ w = w' := by
  have HC := hid h; have HL := hid hl
  clear h hl
  go_enter Try.func42, Try.ntmps42
  go_wp2_with fail
  go_loopw [7] (fun i wr => ∃ k : Nat, k ≤ n ∧ i = .int .i64 k ∧ w = wr ∧ ∀ j v, j < k → L[j]? = some v → v = true) (fun i _ => n - (RowKit.intOf i).toNat)
  case atStart => exact ⟨0, Nat.zero_le _, rfl, rfl, fun j p h => absurd h (Nat.not_lt_zero _)⟩
  case round =>
    obtain ⟨k, hk, rfl, rfl, hp⟩ := hrel
    have HP := hid hp
    clear hp
    by_cases hlt : k < n
    · have hltI : (k : Int) < (n : Int) := by omega
      obtain ⟨v, hv⟩ : ∃ v, L[k]? = some v := ⟨_, List.getElem?_eq_getElem (by rw [HL.out]; exact hlt)⟩
      have cv := HC.out k v hv
      have HV := hid hv
      clear hv
      cases v with
      | true =>
        go_wp2
        go_roundw
        case rel => exact ⟨k + 1, by omega, by go_num, (by first | rfl | trivial), fun j p hj hp => by
          rcases Nat.lt_succ_iff_lt_or_eq.1 hj with h1 | rfl
          · exact HP.out j p h1 hp
          · rw [HV.out] at hp; cases hp; rfl⟩
        case measure => (simp only [RowKit.intOf]; omega)
      | false =>
        have hall := hid (show L.all id = false by rw [List.all_eq_false]; exact ⟨false, List.mem_of_getElem? HV.out, by simp⟩)
        go_wp2
        go_ret
        rw [hall.out]
        exact ⟨rfl, rfl⟩
    · obtain rfl : k = n := by omega
      have hall := hid (show L.all id = true by
        rw [List.all_eq_true]
        intro x hx
        obtain ⟨j, hj⟩ := List.getElem?_of_mem hx
        exact HP.out j x (by have := (List.getElem?_eq_some_iff.1 hj).1; rw [HL.out] at this; exact this) hj)
      go_wp2
      go_ret
      rw [hall.out]
      exact ⟨rfl, rfl⟩
theorem dall {w : World} {r : Rn} {b : Nat} {Y : Int → Bool} (h : w.heap[b]? = some (.cells (boolL r Y).toArray 4 (0, 0))) (hz : r.ns.length ≤ 4) :
    Calls Try.prog 42 #[.slice (some ⟨b, 0, none⟩) r.ns.length r.ns.length] w fun e w' => e = .returned (.bool (r.ns.all Y)) ∧ w = w' := by
  have e : ((ordered r.ns).map Y).all id = r.ns.all Y := by
    rw [List.all_map]
    have hp := List.mergeSort_perm r.ns (fun x y => decide (x ≤ y))
    rw [Bool.eq_iff_iff, List.all_eq_true, List.all_eq_true]
    exact ⟨fun h x hx => h x (hp.mem_iff.2 hx), fun h x hx => h x (hp.mem_iff.1 hx)⟩
  rw [← e]
  refine devery (by rw [List.length_map, ordered_len]) hz (fun k x hk => ?_)
  rw [List.getElem?_map] at hk
  obtain ⟨v, hv, rfl⟩ := Option.map_eq_some_iff.1 hk
  exact boolL_cell h hv
end Go.Proofs.Ytaobioleodfafaa
/- cmp.Compare, cmp.Or of three. -/
namespace Go.Proofs.Ytaobioleodfafaa
open Go.RowKit
def cmpI (x y : Int) : Int := if x < y then -1 else if y < x then 1 else 0
set_option maxHeartbeats 400000 in
theorem nanu8 (x : Int) (w : World) : Calls Try.prog 55 #[.int .u8 x] w fun e w' => e = .returned (.bool false) ∧ w = w' := by
  go_enter Try.func55, Try.ntmps55
  go_wp2
  go_ret
  exact ⟨ret_bool (by simp), rfl⟩
set_option maxHeartbeats 400000 in
theorem compareu8 (x y : Int) (w : World) : Calls Try.prog 48 #[.int .u8 x, .int .u8 y] w fun e w' => e = .returned (.int .i64 (cmpI x y)) ∧ w = w' := by
  go_enter Try.func48, Try.ntmps48
  go_wp2_with fail
  refine (nanu8 _ _).mono ?_; rintro e w' ⟨rfl, rfl⟩
  go_wp2_with fail
  refine (nanu8 _ _).mono ?_; rintro e w' ⟨rfl, rfl⟩
  rcases Int.lt_trichotomy x y with h | h | h
  · have hc : cmpI x y = -1 := by simp [cmpI, h]
    go_wp2
    go_ret
    exact ⟨ret_int hc.symm, rfl⟩
  · have hc : cmpI x y = 0 := by simp [cmpI, h]
    have h1 : ¬ x < y := by omega
    have h2 : ¬ y < x := by omega
    clear h
    go_wp2
    go_ret
    exact ⟨ret_int hc.symm, rfl⟩
  · have hc : cmpI x y = 1 := by simp [cmpI, h]; omega
    have h1 : ¬ x < y := by omega
    go_wp2
    go_ret
    exact ⟨ret_int hc.symm, rfl⟩
set_option maxHeartbeats 400000 in
theorem nanu32 (x : Int) (w : World) : Calls Try.prog 56 #[.int .u32 x] w fun e w' => e = .returned (.bool false) ∧ w = w' := by
  go_enter Try.func56, Try.ntmps56
  go_wp2
  go_ret
  exact ⟨ret_bool (by simp), rfl⟩
set_option maxHeartbeats 400000 in
theorem compareu32 (x y : Int) (w : World) : Calls Try.prog 49 #[.int .u32 x, .int .u32 y] w fun e w' => e = .returned (.int .i64 (cmpI x y)) ∧ w = w' := by
  go_enter Try.func49, Try.ntmps49
  go_wp2_with fail
  refine (nanu32 _ _).mono ?_; rintro e w' ⟨rfl, rfl⟩
  go_wp2_with fail
  refine (nanu32 _ _).mono ?_; rintro e w' ⟨rfl, rfl⟩
  rcases Int.lt_trichotomy x y with h | h | h
  · have hc : cmpI x y = -1 := by simp [cmpI, h]
    go_wp2
    go_ret
    exact ⟨ret_int hc.symm, rfl⟩
  · have hc : cmpI x y = 0 := by simp [cmpI, h]
    have h1 : ¬ x < y := by omega
    have h2 : ¬ y < x := by omega
    clear h
    go_wp2
    go_ret
    exact ⟨ret_int hc.symm, rfl⟩
  · have hc : cmpI x y = 1 := by simp [cmpI, h]; omega
    have h1 : ¬ x < y := by omega
    go_wp2
    go_ret
    exact ⟨ret_int hc.symm, rfl⟩
def orI (a b c : Int) : Int := if a ≠ 0 then a else if b ≠ 0 then b else c
def nth3 (a b c : Int) (k : Nat) : Int := if k = 0 then a else if k = 1 then b else c
set_option maxRecDepth 100000 in
set_option maxHeartbeats 1000000 in
theorem or_any {w : World} {lb : Nat} {a b c : Int} (h : w.heap[lb]? = some (.cells #[.int .i64 a, .int .i64 b, .int .i64 c] 3 (0, 0))) :
    Calls Try.prog 47 #[.slice (some ⟨lb, 0, none⟩) 3 3] w fun e w' => e = .returned (.int .i64 (orI a b c)) ∧ w = w' := by
  have HC := hid (fun (k : Nat) (hk : k < 3) => show w.cell? ⟨lb, k, none⟩ = some (.int .i64 (nth3 a b c k)) from by
    rw [row_cell h]
    match k, hk with
    | 0, _ => rfl
    | 1, _ => rfl
    | 2, _ => rfl)
  clear h
  go_enter Try.func47, Try.ntmps47
  go_wp2_with fail
  go_loopw [8] (fun i wr => ∃ k : Nat, k ≤ 3 ∧ i = .int .i64 k ∧ w = wr ∧ ∀ j, j < k → nth3 a b c j = 0) (fun i _ => 3 - (RowKit.intOf i).toNat)
  case atStart => exact ⟨0, by omega, rfl, rfl, fun j h => absurd h (Nat.not_lt_zero _)⟩
  case round =>
    obtain ⟨k, hk, rfl, rfl, hz⟩ := hrel
    have HZ := hid hz
    clear hz
    by_cases hlt : k < 3
    · have hltI : (k : Int) < 3 := by omega
      have cc := HC.out k hlt
      obtain ⟨x, hx⟩ : ∃ x, nth3 a b c k = x := ⟨_, rfl⟩
      rw [hx] at cc
      have HX := hid hx
      obtain ⟨bz, hbz⟩ : ∃ b, (x != 0) = b := ⟨_, rfl⟩
      clear hx
      cases bz with
      | true =>
        have hor : orI a b c = x := by
          have h1 : x ≠ 0 := by simpa using hbz
          have h2 := HX.out
          match k, hlt with
          | 0, _ => simp [nth3] at h2; simp [orI, h2, h1]
          | 1, _ => have e0 := HZ.out 0 (by omega); simp [nth3] at h2 e0; simp [orI, e0, h2, h1]
          | 2, _ => have e0 := HZ.out 0 (by omega); have e1 := HZ.out 1 (by omega); simp [nth3] at h2 e0 e1; simp [orI, e0, e1, h2]
        have HOR := hid hor
        clear hor
        go_wp2
        go_ret
        exact ⟨ret_int HOR.out.symm, rfl⟩
      | false =>
        have hx0 : x = 0 := by simpa using hbz
        have HX0 := hid hx0
        clear hx0
        go_wp2
        go_roundw
        case rel => exact ⟨k + 1, by omega, by go_num, (by first | rfl | trivial), fun j hj => by
          rcases Nat.lt_succ_iff_lt_or_eq.1 hj with h1 | rfl
          · exact HZ.out j h1
          · rw [HX.out, HX0.out]⟩
        case measure => (simp only [RowKit.intOf]; omega)
    · obtain rfl : k = 3 := by omega
      have hor : orI a b c = 0 := by
        have e0 := HZ.out 0 (by omega); have e1 := HZ.out 1 (by omega); have e2 := HZ.out 2 (by omega)
        simp [nth3] at e0 e1 e2
        simp [orI, e0, e1, e2]
      have HOR := hid hor
      clear hor
      go_wp2
      go_ret
      exact ⟨ret_int HOR.out.symm, rfl⟩
end Go.Proofs.Ytaobioleodfafaa
