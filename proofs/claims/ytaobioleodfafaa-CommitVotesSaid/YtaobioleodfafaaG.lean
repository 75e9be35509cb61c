/- Owing, of what is committed: as many as there are nodes. -/
import Derived.Test.YtaobioleodfafaaF
import Derived.Test.YtaobioleodfafaaKey
namespace Go.Proofs.Ytaobioleodfafaa
open Go.RowKit
theorem infoB : (Try.prog.info? 5).map (fun i => (i.zero, i.size, i.bytes)) = some (some (.int .u8 0), 1, 1) := by kernel_rfl
theorem byte_src (w : World) (x : Int) {b : Nat} (hb : w.heap.size = b) : Src (w.alloc (.cells #[.int .u8 x] 5)) 1 (.slice (some ⟨b, 0, none⟩) 1 1) 1 [.int .u8 x] := by
  subst hb
  exact src_row rfl (fun j u hu => by rw [row_cell (row_new w _)]; simpa using hu) (by simp [Value.oneCell'])
set_option maxRecDepth 100000 in
set_option maxHeartbeats 1000000 in
theorem owing_len {B T B' T' : Nat} {w : World} {bb m1 rb mp : Nat} {ns : List Int} {pb : Int → Nat} {Y : Int → Bool} {t1 t2 t3 : Int} (hb : BookAt B T w bb m1 [((t1, t2, t3), ptr rb)]) (hr : RunAt B' T' w rb mp ns pb Y 3) (hn : ns.length ≤ 4) :
    Calls Try.prog 16 #[.pointer (some ⟨bb, 0, none⟩), .agg #[.int .u8 t1, .int .u32 t2, .int .u32 t3]] w fun e w' => (∃ a c, e = .returned (.slice a ns.length c)) ∧ Kept (fun _ => False) w w' := by
  have hk1 := (Kept.refl (fun _ => False) w).alloc (.cells #[.int .u8 t1, .int .u32 t2, .int .u32 t3] 28)
  have hkb := row_new w (.cells #[.int .u8 t1, .int .u32 t2, .int .u32 t3] 28)
  obtain ⟨w1, hw1⟩ : ∃ w1, w.alloc (.cells #[.int .u8 t1, .int .u32 t2, .int .u32 t3] 28) = w1 := ⟨_, rfl⟩
  obtain ⟨kb, hkb'⟩ : ∃ kb, w.heap.size = kb := ⟨_, rfl⟩
  rw [hw1] at hk1 hkb
  rw [hkb'] at hkb
  have HB := hid (hb.same hk1); have HR := hid (hr.same hk1); have K1 := hid hk1; have HK := hid hkb
  obtain ⟨c0, l0⟩ := HB.out.facts
  obtain ⟨d0, d1, d2⟩ := cells3 HK.out
  obtain ⟨N, hN⟩ : ∃ N, ns.length = N := ⟨_, rfl⟩
  rw [hN] at hn ⊢
  have HN := hid hN
  clear hb hr hkb hk1 hN
  go_enter Try.func16, Try.ntmps16
  go_wp2_with fail
  try rw [hw1, hkb']
  clear hw1 hkb'
  go_quiet (fail)
  have KQ := kept_drewN (F := fun _ => False) w1 nq
  have HB2 := hid (HB.out.same KQ); have HR2 := hid (HR.out.same KQ); have HK2 := hid ((KQ.block _ (row_lt HK.out) id).trans HK.out); have K2 := hid (K1.out.trans KQ)
  obtain ⟨w2, hw2⟩ : ∃ w2, w1.drewN nq = w2 := ⟨_, rfl⟩
  rw [hw2] at HB2 HR2 HK2 K2 ⊢
  obtain ⟨c0, l0⟩ := HB2.out.facts
  obtain ⟨d0, d1, d2⟩ := cells3 HK2.out
  clear HB HR HK K1 KQ hw2
  go_wp2_with fail
  go_quiet (fail)
  have KQ := kept_drewN (F := fun _ => False) w2 nq
  have HR3 := hid (HR2.out.same KQ); have K3 := hid (K2.out.trans KQ)
  obtain ⟨w3, hw3⟩ : ∃ w3, w2.drewN nq = w3 := ⟨_, rfl⟩
  rw [hw3] at HR3 K3 ⊢
  obtain ⟨r0, r1, _⟩ := HR3.out.facts
  clear HB2 HR2 HK2 K2 KQ hw3 c0 l0 d0 d1 d2 r1
  go_wp2_with fail
  refine (keys_any (some mp) w3).mono ?_
  rintro e w4 ⟨rfl, hw4⟩
  have hb := row_new w3 (.cells #[.map (some mp)] 55)
  have hk4 := (Kept.refl (fun _ => False) w3).alloc (.cells #[.map (some mp)] 55)
  rw [← hw4] at hb hk4
  have cb := row_cell hb 0
  simp only [List.getElem?_toArray, List.getElem?_cons_zero] at cb
  obtain ⟨bm, hbm⟩ : ∃ bm, w3.heap.size = bm := ⟨_, rfl⟩
  rw [hbm] at cb ⊢
  have HR4 := hid (HR3.out.same hk4); have K4 := hid (K3.out.trans hk4)
  clear hb hk4 hw4 hbm HR3 K3 r0
  go_wp2_with fail
  have hpl : (pents ns pb).length = N := by simp [pents, HN.out]
  have hpk : (pents ns pb).map (·.1) = ns := by
    simp only [pents, List.map_map]
    have e : ((fun p : Int × Value => p.1) ∘ fun v => (v, ptr (pb v))) = id := rfl
    rw [e, List.map_id]
  refine (sorted_any cb (L := pents ns pb) (by exact HR4.out.map.mapOf) (by rw [hpl]; omega)).mono ?_
  rintro e w5 ⟨sa, sc, rfl, hs, hf, hk5⟩
  rw [hpk] at hs
  rw [hpl] at hs hf ⊢
  have HOM := hid (fun (x : Int) (hx : x ∈ ordered ns) => show x ∈ ns from (List.mergeSort_perm ns _).mem_iff.1 hx)
  obtain ⟨D, hD⟩ : ∃ D, ordered ns = D := ⟨_, rfl⟩
  have hDl : D.length = N := by rw [← hD, ordered_len]; exact HN.out
  rw [hD] at hs HOM
  have HS := hid hs; have HF := hid hf; have HR5 := hid (HR4.out.same hk5); have K5 := hid (K4.out.trans hk5); have HDL := hid hDl
  clear hs hf hk5 cb hpl hpk hD hDl HR4 K4
  go_wp2_with fail
  go_loopw [6, 34] (fun o i wr => ∃ (k : Nat) (a : Option Addr) (c : Nat) (xs : List Value), i = .int .i64 k ∧ k ≤ N ∧ o = .slice a k c ∧ Own wr 5 1 (.slice a k c) k xs ∧ (∀ b, (Value.slice a k c).ownBlock = some b → w5.heap.size ≤ b) ∧ Kept (fun _ => False) w5 wr) (fun _ i _ => N - (RowKit.intOf i).toNat)
  case atStart => exact ⟨0, none, 0, [], rfl, Nat.zero_le _, rfl, Own.nil _ _ _, fun b hb => by simp [Value.ownBlock] at hb, Kept.refl _ _⟩
  case round =>
    rename World => wA
    obtain ⟨k, a, c, xs, rfl, hk, rfl, ho, hf, hkp⟩ := hrel
    have HA := hid ho; have HAF := hid hf; have KA := hid hkp
    clear ho hf hkp
    by_cases hlt : k < N
    · have hltI : (k : Int) < (N : Int) := by omega
      obtain ⟨v, hv⟩ : ∃ v, D[k]? = some v := ⟨_, List.getElem?_eq_getElem (by rw [HDL.out]; exact hlt)⟩
      have hvn := HOM.out v (List.mem_of_getElem? hv)
      have HRA := hid (HR5.out.same KA.out)
      obtain ⟨r0, r1, _⟩ := HRA.out.facts
      obtain ⟨p0, p1, _⟩ := HRA.out.pcell hvn
      have lk0 : (Instr.lookup 55 (.map (some mp)) (.int .u8 v) false).run Try.prog wA = .ok (.pointer (some ⟨pb v, 0, none⟩)) wA := HRA.out.look hvn 0
      obtain ⟨gs, sc', hse, hs1, hs2⟩ := HS.out.some_of_pos (by omega)
      simp only [Value.slice.injEq] at hse
      obtain ⟨rfl, _, rfl⟩ := hse
      have cs : wA.cell? ⟨gs, k, none⟩ = some (.int .u8 v) := by
        have := KA.out.cell (HS.out.cells rfl k (by simp [HDL.out]; exact hlt)) id
        rw [this]
        simp only [List.getElem_map]
        rw [(List.getElem?_eq_some_iff.1 hv).2]
      unfold maxLen at hs2
      clear hv hvn hs1
      go_wp2_with (at_builtin; refine wpList_app rfl _ _ 22 rfl 5 _ 1 1 Try.underlying22 infoB rfl (by decide) _ k xs rfl (by exact HA.out.alloc _) _ rfl 1 _ (byte_src _ v (by simp)) (by unfold maxLen; omega) (by omega) ?_; intro a' c' w6 ho3 hk3 hf3 _; have HA3 := hid ho3; have HK3 := hid hk3; have HF3 := hid hf3; clear ho3 hk3 hf3)
      go_roundw
      case rel =>
        refine ⟨k + 1, a', c', _, by go_num, by omega, rfl, HA3.out, fun b hb => ?_, (KA.out.alloc _).trans' HK3.out (fun i hi => .inr (HAF.out i hi))⟩
        rcases HF3.out b hb with h | h
        · exact HAF.out b h
        · simp at h; have := KA.out.size; omega
      case measure => (simp only [RowKit.intOf]; omega)
    · obtain rfl : k = N := by omega
      go_wp2
      go_ret
      exact ⟨⟨a, c, rfl⟩, K5.out.trans KA.out⟩
end Go.Proofs.Ytaobioleodfafaa
