/- Faults: Links, links. -/
import Derived.Test.YtlkhbepmkembgaaDoorQ
namespace Go.Proofs.YtlkhbepmkembgaaDoor
open Go.RowKit
theorem linkInfoF : (Tryd.prog.info? 57).map (fun i => (i.zero, i.size, i.bytes)) = some (some (.agg #[.int .i64 0, .int .u32 0]), 2, 16) := by kernel_rfl
theorem linkInfoR : (Tryd.prog.info? 42).map (fun i => (i.zero, i.size, i.bytes)) = some (some (.agg #[.int .i64 0, .int .u32 0]), 2, 16) := by kernel_rfl
theorem src_link (w : World) (E : TypeId) (l : FL) : Src (w.alloc (.cells #[.int .i64 l.1, .int .u32 l.2] E)) 2 (.slice (some ⟨w.heap.size, 0, none⟩) 1 1) 1 (lcell l) :=
  src_row rfl (fun j u hu => by rw [row_cell (row_new w _)]; simpa [lcell] using hu) (by simp [lcell, Value.oneCell'])
set_option maxHeartbeats 4000000 in
set_option maxRecDepth 100000 in
theorem flinks_any {W : World} {v : Value} {L : List FL} {r : Int} {has : Int → Bool} (h : ErrAt W v L r has) (hG : ErrT W) (hL : L.length ≤ 1000) :
    Calls Tryd.prog 11 #[v] W fun e w' => ∃ u, e = .returned u ∧ LL w' u L ∧ Kept (fun _ => False) W w' := by
  have HL := hid hL
  have HC := hid (chains_any h hG hL)
  clear h hG hL
  go_enter Tryd.func11, Tryd.ntmps11
  go_wp2_with fail
  refine HC.out.mono ?_; rintro e w1 ⟨a, c, ps, rfl, ho, hp, hb, hk⟩
  have HO := hid ho; have HP := hid hp; have HK := hid hk
  clear ho hp hb hk HC
  go_wp2_with fail
  go_loopw [3, 9] (fun out i wr => ∃ (k : Nat) (x : Option Addr) (y : Nat), k ≤ L.length ∧ i = .int .i64 k ∧ out = .slice x k y ∧ Own wr 57 2 (.slice x k y) k (lcells (L.take k)) ∧ (∀ g, (Value.slice x k y).ownBlock = some g → w1.heap.size ≤ g) ∧ Kept (fun _ => False) w1 wr) (fun _ i _ => L.length - (RowKit.intOf i).toNat)
  case atStart => exact ⟨0, none, 0, Nat.zero_le _, rfl, rfl, Own.nil _ _ _, fun g hg => by simp [Value.ownBlock] at hg, Kept.refl _ _⟩
  case round =>
    rename World => wr
    obtain ⟨k, x, y, hk, rfl, rfl, ho2, hb2, hkp⟩ := hrel
    have HKP := hid hkp; have HO2 := hid ho2; have HB2 := hid hb2
    have KW := hid (HK.out.trans hkp)
    clear hkp ho2 hb2
    by_cases hlt : k < L.length
    · obtain ⟨l, hl⟩ : ∃ l, L[k]? = some l := ⟨_, List.getElem?_eq_getElem hlt⟩
      obtain ⟨b, e, hpb, hrow⟩ := HP.out.2 k l hl
      obtain ⟨g, cap, hse, _, _⟩ := HO.out.some_of_pos (by omega)
      simp only [Value.slice.injEq] at hse
      obtain ⟨rfl, _, rfl⟩ := hse
      have hlen := HP.out.1
      have cs : wr.cell? ⟨g, k, none⟩ = some (.pointer (some ⟨b, 0, none⟩)) := by
        have h1 := HKP.out.cell (HO.out.cells rfl k (by rw [HO.out.len]; omega)) id
        rw [h1]
        have : ps[k]'(by omega) = b := (List.getElem?_eq_some_iff.1 hpb).2
        simp [ptrs, this]
      have hrow' := (KW.out.block b (row_lt hrow) id).trans hrow
      have d0 := row_cell hrow' 0
      have d1 := row_cell hrow' 1
      simp at d0 d1
      have HX := hid (show lcells (L.take (k + 1)) = lcells (L.take k) ++ lcell l by rw [List.take_add_one, hl]; exact lcells_snoc _ _)
      have hkI : (k : Int) < (L.length : Int) := by omega
      have hlm := HL.out
      have HSR := hid (src_link wr 57 l)
      clear hl hrow hpb hlen hrow'
      go_wp2_with (at_builtin; refine wpList_app rfl _ _ 33 rfl 57 _ 2 16 Tryd.underlying33 linkInfoF rfl (by decide) _ k (lcells (L.take k)) rfl (HO2.out.alloc _) _ rfl 1 _ HSR.out (by unfold maxLen; omega) (by omega) ?_; intro a' c' w3 ho3 hk3 hf3 _; have HA3 := hid ho3; have HK3 := hid hk3; have HF3 := hid hf3; clear ho3 hk3 hf3)
      go_roundw
      case rel =>
        refine ⟨k + 1, a', c', by omega, by go_num, rfl, by rw [HX.out]; exact HA3.out, fun g hg => ?_, ?_⟩
        · rcases HF3.out g hg with h | h
          · exact HB2.out g h
          · simp at h; have := HKP.out.size; omega
        · exact (HKP.out.alloc _).trans' HK3.out (fun i hi => .inr (HB2.out i hi))
      case measure => (simp only [RowKit.intOf]; omega)
    · obtain rfl : k = L.length := by omega
      have HX := hid (show L.take L.length = L from List.take_length)
      go_wp2_with fail
      go_ret
      refine ⟨_, rfl, ?_, KW.out⟩
      have := HO2.out
      rw [HX.out] at this
      exact this.lies (lcells_one _) (fun _ _ => id)
set_option maxHeartbeats 4000000 in
set_option maxRecDepth 100000 in
theorem lawlinks_any {W : World} {v : Value} {L : List FL} (h : LL W v L) (hL : L.length ≤ 1000) :
    Calls Tryd.prog 14 #[v] W fun e w' => ∃ u, e = .returned u ∧ LL w' u L ∧ Kept (fun _ => False) W w' := by
  have HL := hid hL
  have HH := hid h
  obtain ⟨ao, ac, rfl⟩ := h.isSlice
  clear h hL
  go_enter Tryd.func14, Tryd.ntmps14
  go_wp2_with fail
  go_loopw [3, 8] (fun out i wr => ∃ (k : Nat) (x : Option Addr) (y : Nat), k ≤ L.length ∧ i = .int .i64 k ∧ out = .slice x k y ∧ Own wr 42 2 (.slice x k y) k (lcells (L.take k)) ∧ (∀ g, (Value.slice x k y).ownBlock = some g → W.heap.size ≤ g) ∧ Kept (fun _ => False) W wr) (fun _ i _ => L.length - (RowKit.intOf i).toNat)
  case atStart => exact ⟨0, none, 0, Nat.zero_le _, rfl, rfl, Own.nil _ _ _, fun g hg => by simp [Value.ownBlock] at hg, Kept.refl _ _⟩
  case round =>
    rename World => wr
    obtain ⟨k, x, y, hk, rfl, rfl, ho2, hb2, hkp⟩ := hrel
    have HKP := hid hkp; have HO2 := hid ho2; have HB2 := hid hb2
    clear hkp ho2 hb2
    by_cases hlt : k < L.length
    · obtain ⟨l, hl⟩ : ∃ l, L[k]? = some l := ⟨_, List.getElem?_eq_getElem hlt⟩
      obtain ⟨g, off, c, hv, d0, d1⟩ := ll_at (HH.out.same HKP.out) hl
      simp only [Value.slice.injEq] at hv
      obtain ⟨rfl, _, rfl⟩ := hv
      have HX := hid (show lcells (L.take (k + 1)) = lcells (L.take k) ++ lcell l by rw [List.take_add_one, hl]; exact lcells_snoc _ _)
      have hkI : (k : Int) < (L.length : Int) := by omega
      have hlm := HL.out
      obtain ⟨o, q⟩ := l
      simp only at d0 d1
      obtain ⟨wx, hwx⟩ : ∃ wx, wr.alloc (.cells #[.int .i64 o, .int .u32 q] 57) = wx := ⟨_, rfl⟩
      have hkx : Kept (fun _ => False) wr wx := hwx ▸ (Kept.refl _ _).alloc _
      have hrx : wx.heap[wr.heap.size]? = some (.cells #[.int .i64 o, .int .u32 q] 57 (0, 0)) := by rw [← hwx]; exact row_new _ _
      obtain ⟨xb, hxb⟩ : ∃ xb, wr.heap.size = xb := ⟨_, rfl⟩
      rw [hxb] at hrx
      have e0 := row_cell hrx 0
      have e1 := row_cell hrx 1
      simp at e0 e1
      have HKX := hid (HKP.out.trans hkx)
      have HO3 := hid (HO2.out.kept hkx (fun _ _ => id))
      have HSR := hid (src_link wx 42 (o, q))
      clear hl hrx hkx
      go_wp2_with (at_builtin; refine wpList_app rfl _ _ 22 rfl 42 _ 2 16 Tryd.underlying22 linkInfoR rfl (by decide) _ k (lcells (L.take k)) rfl (HO3.out.alloc _) _ rfl 1 _ HSR.out (by unfold maxLen; omega) (by omega) ?_; intro a' c' w3 ho3 hk3 hf3 _; have HA3 := hid ho3; have HK3 := hid hk3; have HF3 := hid hf3; clear ho3 hk3 hf3)
      clear hwx hxb
      go_roundw
      case rel =>
        refine ⟨k + 1, a', c', by omega, by go_num, rfl, by rw [HX.out]; exact HA3.out, fun g hg => ?_, ?_⟩
        · rcases HF3.out g hg with h | h
          · exact HB2.out g h
          · simp at h; have := HKX.out.size; omega
        · exact (HKX.out.alloc _).trans' HK3.out (fun i hi => .inr (HB2.out i hi))
      case measure => (simp only [RowKit.intOf]; omega)
    · obtain rfl : k = L.length := by omega
      have HX := hid (show L.take L.length = L from List.take_length)
      go_wp2_with fail
      go_ret
      refine ⟨_, rfl, ?_, HKP.out⟩
      have := HO2.out
      rw [HX.out] at this
      exact this.lies (lcells_one _) (fun _ _ => id)
theorem links_nil (w : World) : Calls Tryd.prog 11 #[.nilIface] w fun e w' => e = .returned (.slice none 0 0) ∧ w = w' := by
  go_enter Tryd.func11, Tryd.ntmps11
  go_wp2_with fail
  refine (chains_nil _).mono ?_; rintro e w' ⟨rfl, rfl⟩
  go_wp2_with fail
  refine wp_loop_rounds 1 ?_
  rw [rounds_succ]
  go_wp2_with fail
  go_ret
  exact ⟨rfl, rfl⟩
end Go.Proofs.YtlkhbepmkembgaaDoor
