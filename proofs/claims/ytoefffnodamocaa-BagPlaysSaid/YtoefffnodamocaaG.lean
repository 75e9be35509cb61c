/- All; the document's Same; lists of bytes. -/
import Derived.Test.YtoefffnodamocaaE
namespace Go.Proofs.Ytoefffnodamocaa
open Go.RowKit

/-- a slice that reads as these lists of bytes -/
def Bls (w : World) (v : Value) (L : List (List Int)) : Prop :=
  ∃ ao c, v = .slice ao L.length c ∧ (L.length ≤ c ∧ c ≤ maxLen) ∧ (ao = none → L.length = 0 ∧ c = 0) ∧ ∀ (j : Nat) (l : List Int), L[j]? = some l → ∃ b off p, ao = some ⟨b, off, none⟩ ∧ w.cell? ⟨b, off + j, none⟩ = some p ∧ Byt w p l

theorem bls_own {w : World} {v : Value} {L : List (List Int)} {ps : List Value} (h : Own w 22 1 v L.length ps) (hp : ∀ (i : Nat) (p : Value) (l : List Int), ps[i]? = some p → L[i]? = some l → Byt w p l) : Bls w v L := by
  rcases h.shape with ⟨rfl, h0, _⟩ | ⟨g, cap, cur, rfl, hg, hnc, hcm, hcs, htk⟩
  · refine ⟨none, 0, by rw [h0], by simp [h0, maxLen], fun _ => ⟨h0, rfl⟩, fun j x hj => ?_⟩
    have := (List.getElem?_eq_some_iff.1 hj).1
    omega
  · refine ⟨_, _, rfl, ⟨by omega, by omega⟩, (fun h => nomatch h), fun j x hj => ?_⟩
    obtain ⟨hlt, e⟩ := List.getElem?_eq_some_iff.1 hj
    have hl : ps.length = L.length := by simpa using h.len
    have := h.cells (g := g) rfl j (by omega)
    exact ⟨g, 0, _, rfl, by rw [Nat.zero_add]; exact this, hp j _ x (by simp) hj⟩
theorem Pays.bls {w : World} {v : Value} {L : List (List Int)} {ps : List Value} {F : Nat → Prop} (h : Own w 22 1 v L.length ps) (hp : Pays w ps L F) : Bls w v L :=
  bls_own h fun i p l h1 h2 => (hp.2 i p l h1 h2).1.byt

set_option maxHeartbeats 400000 in
theorem same_lists {w : World} {va vb : Value} {la lb : List (List Int)} (ha : Bls w va la) (hb : Bls w vb lb) :
    Calls Try.prog 15 #[va, vb] w fun e w' => e = .returned (.bool (decide (la = lb))) ∧ Kept (fun _ => False) w w' := by
  obtain ⟨a, ca, rfl, ⟨hac, hacm⟩, _, ha2⟩ := ha
  have ha1 := Nat.le_trans hac hacm; clear hac hacm
  obtain ⟨b, cb, rfl, _, _, hb2⟩ := hb
  have HA := hid ha2
  have HB := hid hb2
  clear ha2 hb2
  unfold maxLen at ha1
  by_cases hn : la.length = lb.length
  · have hn' : ((la.length : Int) != (lb.length : Int)) = false := by simp [hn]
    have HN := hid hn; clear hn
    go_enter Try.func15, Try.ntmps15
    go_wp2_with fail
    go_loopw [13] (fun i wr => ∃ k : Nat, k ≤ la.length ∧ i = .int .i64 k ∧ Kept (fun _ => False) w wr ∧ la.take k = lb.take k)
      (fun i _ => la.length - (intOf i).toNat)
    case atStart => exact ⟨0, Nat.zero_le _, rfl, Kept.refl _ _, by simp⟩
    case round =>
      obtain ⟨k, hk, rfl, hkp, hp⟩ := hrel
      have HP := hid hp; clear hp
      have HK := hid hkp; clear hkp
      by_cases hlt : k < la.length
      · obtain ⟨ba, oa, pa, rfl, c1, ra⟩ := HA.out k la[k] (by simp [hlt])
        obtain ⟨bb, ob, pb, rfl, c2, rb⟩ := HB.out k (lb[k]'(by have := HN.out; omega)) (by simp)
        have c1 := HK.out.cell c1 id
        have c2 := HK.out.cell c2 id
        have RA := hid (ra.kept HK.out (fun _ _ => id))
        have RB := hid (rb.kept HK.out (fun _ _ => id))
        clear ra rb
        have hlt' : (k : Int) < (lb.length : Int) := by have := HN.out; omega
        go_wp2_with fail
        refine wp_region_still_tail 8 (by kernel_rfl) (by kernel_rfl) ?_
        simp only [List.take_succ_cons, List.take_zero, List.drop_succ_cons, List.drop_zero, World.drew_eq]
        iterate 8 still_step
        refine wpStill_nil ?_
        change wpList _ _ _ _ _ (World.drew _)
        go_wp2_with fail
        refine (same_bytes (by exact RA.out.kept (Kept.refl (fun _ => False) _).drew (fun _ _ => id)) (by exact RB.out.kept (Kept.refl (fun _ => False) _).drew (fun _ _ => id))).mono ?_; rintro e w2 ⟨rfl, hk2⟩
        have HK2 := hid (HK.out.trans hk2.of_drew); clear hk2
        by_cases hx : la[k] = lb[k]'(by have := HN.out; omega)
        · have hx' : (decide (la[k] = lb[k]'(by have := HN.out; omega))) = true := by simp [hx]
          go_wp2
          go_roundw
          case rel => exact ⟨k + 1, by omega, by simp, HK2.out, by rw [List.take_succ_eq_append_getElem hlt, List.take_succ_eq_append_getElem (by have := HN.out; omega : k < lb.length), HP.out, hx]⟩
          case measure => simp [intOf]; omega
        · have hx' : (decide (la[k] = lb[k]'(by have := HN.out; omega))) = false := by simp [hx]
          have hd : (decide (la = lb)) = false := by simp; rintro rfl; exact hx rfl
          go_wp2
          go_ret
          exact ⟨ret_bool hd.symm, HK2.out⟩
      · obtain rfl : k = la.length := by omega
        have hd : (decide (la = lb)) = true := by
          have := HP.out
          rw [List.take_length, HN.out, List.take_length] at this
          simpa using this
        go_wp2
        go_ret
        exact ⟨ret_bool hd.symm, HK.out⟩
  · have hn' : ((la.length : Int) != (lb.length : Int)) = true := by simp; omega
    have hd : (decide (la = lb)) = false := by simp; rintro rfl; exact hn rfl
    go_enter Try.func15, Try.ntmps15
    go_wp2
    go_ret
    exact ⟨ret_bool hd.symm, Kept.refl _ _⟩

set_option maxHeartbeats 400000 in
theorem all_any {w : World} {bb : Nat} {L : List (List Int)} {F : Nat → Prop} (h : BagAt 50 w bb L F) (hL : L.length ≤ 2000) :
    Calls Try.prog 14 #[.pointer (some ⟨bb, 0, none⟩)] w fun e w' => ∃ ao c ps, e = .returned (.slice ao L.length c) ∧ Own w' 22 1 (.slice ao L.length c) L.length ps ∧ (∀ g, (Value.slice ao L.length c).ownBlock = some g → w.heap.size ≤ g) ∧ Pays w' ps L (fun k => w.heap.size ≤ k) ∧ Kept (fun _ => False) w w' := by
  have H := hid h
  obtain ⟨ao, cap, ps, h1, h2, h3, h4, h5⟩ := h
  have c := row_cell h1 0
  simp at c
  have H2 := hid h2
  have H3 := hid h3
  clear h1 h2 h3 h4 h5
  go_enter Try.func14, Try.ntmps14
  go_wp2_with fail
  have hB := hid (show True from trivial)
  go_loopw [3, 13] (fun out i wr => ∃ (k : Nat) (oa : Option Addr) (oc : Nat) (qs : List Value), k ≤ L.length ∧ i = .int .i64 k ∧ out = .slice oa k oc ∧ Own wr 22 1 (.slice oa k oc) k qs ∧ (∀ g, (Value.slice oa k oc).ownBlock = some g → w.heap.size ≤ g) ∧ Pays wr qs (L.take k) (fun k => w.heap.size ≤ k) ∧ Kept (fun _ => False) w wr)
    (fun _ i _ => L.length - (intOf i).toNat)
  case atStart => exact ⟨0, none, 0, [], Nat.zero_le _, rfl, rfl, Own.nil _ _ _, by simp [Value.ownBlock], ⟨by simp, fun i p l h => by simp at h⟩, Kept.refl _ _⟩
  case round =>
    obtain ⟨k, oa, oc, qs, hk, rfl, rfl, ho, hf, hp, hkp⟩ := hrel
    have HO := hid ho; clear ho
    have HF := hid hf; clear hf
    have HP := hid hp; clear hp
    have HK := hid hkp; clear hkp
    by_cases hlt : k < L.length
    · obtain ⟨g, cap', e0, hn1, hn2⟩ := H2.out.some_of_pos (by omega)
      simp only [Value.slice.injEq] at e0
      obtain ⟨rfl, _, rfl⟩ := e0
      have hps : k < ps.length := by rw [H3.out.1]; exact hlt
      obtain ⟨q1, q2, q3⟩ := H3.out.2 k ps[k] L[k] (by simp [hps]) (by simp [hlt])
      have c2 := HK.out.cell (H2.out.cells (g := g) rfl k hps) id
      obtain ⟨p, hp⟩ : ∃ p, ps[k] = p := ⟨_, rfl⟩
      rw [hp] at q1 q2 c2
      have Q1 := hid (q1.kept HK.out (fun _ _ => id))
      have Q3 := hid q3
      clear q1 q2 q3 hp
      go_wp2_with fail
      refine (clone_sl _ L[k] _ (by exact Own.src Q1.out (u8s_one _)) (by have := Q3.out; omega)).mono ?_; rintro e w2 ⟨pa, pc, rfl, hown, hfr, hk2⟩
      have HN := hid hown; clear hown
      have HFR := hid hfr; clear hfr
      have HK2 := hid hk2; clear hk2
      have HO2 := hid (HO.out.kept HK2.out (fun _ _ => id))
      go_wp2_with (at_builtin; refine wpList_app rfl _ _ 34 rfl 22 (.slice none 0 0) 1 24 Try.underlying34 info22 rfl (by decide) (.slice oa k oc) k qs rfl (by exact HO2.out.alloc _) _ rfl 1 [.slice pa L[k].length pc] (by exact src_one _ rfl) (by simp only [maxLen]; omega) (by omega) ?_)
      intro a3 c3 w3 hown3 hk3 hf3 _
      have HO3 := hid hown3; clear hown3
      have HK3 := hid hk3; clear hk3
      have HF3 := hid hf3; clear hf3
      go_wp2
      go_roundw
      case rel =>
        have hal : Kept (fun _ => False) w2 (w2.alloc (.cells #[.slice pa L[k].length pc] 22)) := (Kept.refl _ _).alloc _
        have hne : ∀ g, (Value.slice oa k oc).ownBlock = some g → ∃ cs T, (w2.alloc (.cells #[.slice pa L[k].length pc] 22)).heap[g]? = some (.cells cs T (0, 0)) ∧ T ≠ 5 := fun g hg => by
          obtain ⟨cur, hc⟩ := (HO2.out.alloc (.cells #[.slice pa L[k].length pc] 22)).block hg
          exact ⟨_, _, hc, by decide⟩
        refine ⟨k + 1, a3, c3, qs ++ [.slice pa L[k].length pc], by omega, by simp, rfl, HO3.out, fun g hg => ?_, ?_, ?_⟩
        · rcases HF3.out g hg with h | h
          · exact HF.out g h
          · have := HK.out.size; have := HK2.out.size; (try simp at h); omega
        · rw [List.take_succ_eq_append_getElem hlt]
          have p1 := (pays_snoc ((HP.out.kept HK2.out (fun _ _ => id))) HN.out (fun g hg => by have := HFR.out g hg; have := HK.out.size; omega) Q3.out)
          exact pays_other (p1.kept hal (fun _ _ => id)) HK3.out hne
        · exact ((HK.out.trans HK2.out).trans hal).trans' HK3.out (fun i hi => .inr (HF.out i hi))
      case measure => simp [intOf]; omega
    · obtain rfl : k = L.length := by omega
      go_wp2
      go_ret
      have := HP.out
      rw [List.take_length] at this
      exact ⟨_, _, _, rfl, HO.out, HF.out, this, HK.out⟩
end Go.Proofs.Ytoefffnodamocaa
