/- Waiting. -/
import Derived.Test.YtpjhdpfaogdboaaO
namespace Go.Proofs.Ytpjhdpfaogdboaa
set_option linter.unusedSimpArgs false
set_option linter.unusedVariables false
open Go.RowKit
theorem waitP_take {L : List Ow} {k : Nat} {o : Ow} (h : L[k]? = some o) : waitP (L.take (k + 1)) = waitP (L.take k) ++ (if 0 < o.ws.length then [o.tx] else []) := by
  unfold waitP
  rw [List.take_add_one, h, List.filter_append, List.map_append]
  by_cases h0 : 0 < o.ws.length
  · simp [h0]
  · simp [h0]
theorem waitP_len (L : List Ow) : (waitP L).length ≤ L.length := by
  unfold waitP
  rw [List.length_map]
  exact List.length_filter_le _ _
structure Wai (w w1 : World) (A : Tx → Ad) (L : List Ow) (S : List Tx) (a : Option Addr) (N c : Nat) (ga : Option Addr) (gc : Nat) (wr : World) : Prop where
  g : Own wr 32 3 (.slice ga S.length gc) S.length (S.flatMap encT)
  n : ∀ b, (Value.slice ga S.length gc).ownBlock = some b → w1.heap.size ≤ b
  l : Lies (fun g => g < w.heap.size ∨ w1.heap.size ≤ g) wr 1 (.slice a N c) N (ptrs (obs A L))
  k : Kept (fun _ => False) w1 wr
section
variable {own : Nat → Option Tx} {B : Nat} {w w' : World} {tb mb : Nat} {L : List Ow} {A : Tx → Ad}
set_option maxRecDepth 100000 in
set_option maxHeartbeats 2000000 in
theorem waiting_any (hb : Tab own B w tb mb L A) (hL : L.length ≤ 1000000) :
    Calls Try.prog 17 #[.pointer (some ⟨tb, 0, none⟩)] w fun e w' => ∃ ga gc, e = .returned (.slice ga (waitP L).length gc) ∧ Own w' 32 3 (.slice ga (waitP L).length gc) (waitP L).length ((waitP L).flatMap encT) ∧ (∀ b, (Value.slice ga (waitP L).length gc).ownBlock = some b → w.heap.size ≤ b) ∧ Kept (fun _ => False) w w' := by
  have HB := hid hb; have HL := hid hL
  clear hb hL
  go_enter Try.func17, Try.ntmps17
  go_wp2_with fail
  refine (all_any HB.out HL.out).mono ?_
  rintro e w1 ⟨a, c, rfl, hl, hk1⟩
  obtain ⟨N, hN⟩ : ∃ N, L.length = N := ⟨_, rfl⟩
  rw [hN] at hl ⊢
  have HN := hid hN
  have hN6 : N ≤ 1000000 := by have := HL.out; omega
  have K1 := hid hk1
  have HS0 := hid (show Wai w w1 A L (waitP (L.take 0)) a N c none 0 w1 from ⟨Own.nil _ _ _, fun b h => by simp [Value.ownBlock] at h, hl.mono (fun g hg h => h.elim id (fun h => by omega)), Kept.refl _ _⟩)
  clear hl hk1 hN
  go_wp2_with fail
  go_loopw [3, 11] (fun g i wr => ∃ (k : Nat) (S : List Tx) (ga : Option Addr) (gc : Nat), g = .slice ga S.length gc ∧ i = .int .i64 k ∧ k ≤ N ∧ waitP (L.take k) = S ∧ Wai w w1 A L S a N c ga gc wr) (fun _ i _ => N - (RowKit.intOf i).toNat)
  case atStart => exact ⟨0, _, none, 0, rfl, rfl, Nat.zero_le _, rfl, HS0.out⟩
  case round =>
    rename World => wr
    clear HS0
    obtain ⟨k, S, ga, gc, rfl, rfl, hk, hsk, hst⟩ := hrel
    have HST := hid hst; have HSK := hid hsk
    clear hst hsk
    by_cases hlt : k < N
    · have hltI : (k : Int) < (N : Int) := by omega
      obtain ⟨o, ho⟩ : ∃ o, L[k]? = some o := ⟨_, List.getElem?_eq_getElem (by rw [HN.out]; exact hlt)⟩
      have HO := hid ho
      have hom := List.mem_of_getElem? ho
      have hob : (obs A L)[k]? = some (A o.tx).ob := by rw [obs, List.getElem?_map, ho]; rfl
      obtain ⟨_, hcap, hcm, gb, off, rfl, c0⟩ := lies_ptr HST.out.l hob
      unfold maxLen at hcm
      have hkw : Kept (fun _ => False) w wr := K1.out.trans HST.out.k
      obtain ⟨ob, hobb⟩ : ∃ ob, (A o.tx).ob = ob := ⟨_, rfl⟩
      have HOI := hid ((HB.out.ows o hom).same hkw)
      have hwa := fun w' (k : Kept (fun _ => False) wr w') => waits_any (HOI.out.same k)
      obtain ⟨x0, x1, x2, _, _, _, _⟩ := cells7 HOI.out.obj
      rw [hobb] at c0 hwa x0 x1 x2
      unfold ptr at c0
      have HWA := hid hwa
      have HNX := hid (waitP_take ho)
      have hsl : S.length ≤ N := by
        have := waitP_len (L.take k)
        rw [HSK.out, List.length_take] at this
        omega
      clear ho hom hob hobb hkw hwa
      go_wp2_with fail
      refine (HWA.out _ (Kept.refl _ _)).mono ?_
      rintro e w' ⟨rfl, rfl⟩
      by_cases hw0 : 0 < o.ws.length
      · have hd : decide (0 < o.ws.length) = true := by simp [hw0]
        rw [hd]
        have HSN := hid (show waitP (L.take (k + 1)) = S ++ [o.tx] by rw [HNX.out, HSK.out, if_pos hw0])
        obtain ⟨m, hm⟩ : ∃ m, S.length = m := ⟨_, rfl⟩
        have HMM := hid hm
        have hg := HST.out.g
        rw [hm] at hg hsl ⊢
        have HG := hid hg
        have HT := hid (show (S ++ [o.tx]).flatMap encT = S.flatMap encT ++ encT o.tx by simp)
        clear hw0 hd hg hm c0
        go_wp2_with (at_builtin; refine wpList_app rfl _ _ 27 rfl 32 (txv (0, 0, 0)) 3 12 Try.underlying27 infoT rfl (by decide) (.slice ga m gc) m _ rfl (by exact HG.out.alloc _) _ rfl 1 _ (tx_src _ o.tx.1 o.tx.2.1 o.tx.2.2 rfl) (by unfold maxLen; omega) (by omega) ?_; intro ga2 gc2 w8 ho3 hk3 hf3 _; have HA8 := hid ho3; have HK8 := hid hk3; have HF8 := hid hf3; clear ho3 hk3 hf3)
        have k78 : Kept (fun i => (Value.slice ga m gc).ownBlock = some i) wr w8 := ((Kept.refl _ wr).alloc _).trans HK8.out
        have hgn : ∀ i, (Value.slice ga m gc).ownBlock = some i → w1.heap.size ≤ i := fun i h => HST.out.n i (by rw [HMM.out]; exact h)
        have HS8 := hid (show Wai w w1 A L (S ++ [o.tx]) (some ⟨gb, off, none⟩) N c ga2 gc2 w8 from by
          have hln : (S ++ [o.tx]).length = m + 1 := by rw [List.length_append, HMM.out]; rfl
          refine ⟨?_, fun b hb => ?_, HST.out.l.kept k78 (fun i _ h => .inr (hgn i h)), HST.out.k.trans' k78 (fun i h => .inr (hgn i h))⟩
          · rw [hln, HT.out]
            exact HA8.out
          · have hb' : (Value.slice ga2 (m + 1) gc2).ownBlock = some b := by rwa [hln] at hb
            rcases HF8.out b hb' with h | h
            · exact hgn b h
            · have := HST.out.k.size
              simp at h
              omega)
        clear k78 hgn
        go_roundw
        case rel => exact ⟨k + 1, _, ga2, gc2, by rw [List.length_append, HMM.out]; rfl, by go_num, by omega, HSN.out, HS8.out⟩
        case measure => (simp only [RowKit.intOf]; omega)
      · have hd : decide (0 < o.ws.length) = false := by simp [hw0]
        rw [hd]
        have HSN := hid (show waitP (L.take (k + 1)) = S by rw [HNX.out, HSK.out, if_neg hw0, List.append_nil])
        clear hw0 hd c0
        go_wp2
        go_roundw
        case rel => exact ⟨k + 1, S, ga, gc, rfl, by go_num, by omega, HSN.out, HST.out⟩
        case measure => (simp only [RowKit.intOf]; omega)
    · obtain rfl : k = N := by omega
      have hse : waitP L = S := by rw [← HSK.out, ← HN.out, List.take_length]
      have HSE := hid hse
      clear hse
      go_wp2
      go_ret
      rw [HSE.out]
      exact ⟨ga, gc, rfl, HST.out.g, fun b hb => Nat.le_trans K1.out.size (HST.out.n b hb), K1.out.trans HST.out.k⟩
end
end Go.Proofs.Ytpjhdpfaogdboaa
