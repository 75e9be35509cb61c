/- Drop, Take, Hold. -/
import Derived.Test.YtoefffnodamocaaC
namespace Go.Proofs.Ytoefffnodamocaa
open Go.RowKit

def without (L : List (List Int)) (i : Nat) : List (List Int) := L.take i ++ L.drop (i + 1)
theorem without_len {L : List (List Int)} {i : Nat} (h : i < L.length) : (without L i).length = i + (L.length - (i + 1)) := by simp [without]; omega

set_option maxRecDepth 100000 in
set_option maxHeartbeats 1000000 in
theorem drop_yes {w : World} {bb : Nat} {L : List (List Int)} {F : Nat → Prop} (h : BagAt 50 w bb L F) (i : Nat) (hi : i < L.length) :
    Calls Try.prog 11 #[.pointer (some ⟨bb, 0, none⟩), .int .i64 i] w fun e w' => e = .returned (.int .i64 0) ∧ Kept F w w' ∧ BagAt 50 w' bb (without L i) F := by
  have H := hid h
  obtain ⟨ao, cap, ps, h1, h2, h3, h4, h5⟩ := h
  have c := row_cell h1 0
  simp at c
  have ht : thr L.length (i : Int) = 0 := by simp [thr]; omega
  have hm : (i : Int) < (L.length : Int) := by omega
  obtain ⟨g0, cap0, e0, hn1, hn2⟩ := h2.some_of_pos (by omega)
  have hmx : (i : Int) + 1 ≤ 9223372036854775807 := by unfold maxLen at hn2; omega
  have H1 := hid h1
  have H2 := hid h2
  have H3 := hid h3
  have H4 := hid h4
  have H5 := hid h5
  clear h1 h2 h3 h4 h5 e0 hn1 hn2
  go_enter Try.func11, Try.ntmps11
  go_wp2_with fail
  refine (there_any H.out _).mono ?_; rintro e w' ⟨rfl, rfl⟩
  go_wp2_with fail
  refine (del_any H2.out (pays_one H3.out) i (i + 1) (by omega) (by omega)).mono ?_; rintro e w2 ⟨cap', rfl, hown, hk⟩
  have hb2 : w2.heap[bb]? = some (.cells #[.slice ao L.length cap] 50 (0, 0)) := by
    rw [hk.block bb (row_lt H1.out) (fun e => H2.out.ne_block H1.out (by decide) e)]; exact H1.out
  have c2 := row_cell hb2 0
  simp at c2
  have f2 := row_free hb2 0
  have HB2 := hid hb2
  have HO := hid hown
  have HK := hid hk
  clear hb2 hown hk
  obtain ⟨a2, ha2⟩ : ∃ a2, (Option.map (fun g => (⟨g, 0, none⟩ : Addr)) (Value.slice ao L.length cap).ownBlock) = a2 := ⟨_, rfl⟩
  rw [ha2] at HO ⊢
  have HA := hid ha2; clear ha2
  go_wp2
  go_ret
  have k4 : Kept (fun k => k = bb) w2 (w2.setCell ⟨bb, 0, none⟩ (.slice a2 (i + (L.length - (i + 1))) cap')) := (Kept.refl (fun k => k = bb) w2).setCell (.inl rfl) _
  refine ⟨rfl, ((HK.out.mono (fun g _ hg => H5.out g hg))).trans (k4.mono (fun g _ e => by subst e; exact H4.out)), a2, cap', ps.take i ++ ps.drop (i + 1), ?_, ?_, ?_, H4.out, fun g hg => ?_⟩
  · rw [without_len hi]
    have := row_set HB2.out 0 (.slice a2 (i + (L.length - (i + 1))) cap')
    simpa using this
  · rw [without_len hi]
    exact HO.out.kept k4 (fun g hg e => by subst e; exact HO.out.ne_block HB2.out (by decide) hg)
  · exact pays_other (pays_del (pays_other H3.out HK.out (fun g hg => by obtain ⟨c, e⟩ := H2.out.block hg; exact ⟨c, 22, e, by decide⟩)) i) k4 (fun g hg => by subst hg; exact ⟨_, 50, HB2.out, by decide⟩)
  · have e1 := HA.out
    cases hao : (Value.slice ao L.length cap).ownBlock with
    | none => rw [hao] at e1; simp at e1; subst e1; simp [Value.ownBlock] at hg
    | some g2 =>
      rw [hao] at e1; simp at e1; subst e1
      simp [Value.ownBlock] at hg
      subst hg
      exact H5.out _ hao

set_option maxHeartbeats 400000 in
theorem drop_no {w : World} {bb : Nat} {L : List (List Int)} {F : Nat → Prop} (h : BagAt 50 w bb L F) (i : Int) (hi : ¬ (0 ≤ i ∧ i < L.length)) :
    Calls Try.prog 11 #[.pointer (some ⟨bb, 0, none⟩), .int .i64 i] w fun e w' => e = .returned (.int .i64 6) ∧ w = w' := by
  have ht : thr L.length (i : Int) = 6 := by simp only [thr, if_neg hi]
  have HI := hid hi; clear hi
  go_enter Try.func11, Try.ntmps11
  go_wp2_with fail
  refine (there_any h _).mono ?_; rintro e w' ⟨rfl, rfl⟩
  go_wp2
  go_ret
  exact ⟨rfl, rfl⟩

set_option maxHeartbeats 400000 in
theorem take_yes {w : World} {bb : Nat} {L : List (List Int)} {F : Nat → Prop} (h : BagAt 50 w bb L F) (hF : ∀ k, F k → k < w.heap.size) (i : Nat) (l : List Int) (hi : L[i]? = some l) :
    Calls Try.prog 17 #[.pointer (some ⟨bb, 0, none⟩), .int .i64 i] w fun e w' => ∃ pa pc, e = .returned (.tuple #[.slice pa l.length pc, .int .i64 0]) ∧ Own w' 5 1 (.slice pa l.length pc) l.length (u8s l) ∧
      (∀ g, (Value.slice pa l.length pc).ownBlock = some g → w.heap.size ≤ g) ∧ Kept F w w' ∧ BagAt 50 w' bb (without L i) F := by
  have H := hid h; clear h
  have HI := hid hi; clear hi
  have HF := hid hF; clear hF
  go_enter Try.func17, Try.ntmps17
  go_wp2_with fail
  refine (copy_yes H.out i l HI.out).mono ?_; rintro e w2 ⟨pa, pc, rfl, hown, hfr, hk⟩
  have HO := hid hown
  have HFR := hid hfr
  have HK := hid hk
  clear hown hfr hk
  go_wp2_with fail
  refine (drop_yes (H.out.kept HK.out (fun _ _ h => h)) i (List.getElem?_eq_some_iff.1 HI.out).1).mono ?_; rintro e w3 ⟨rfl, hk3, hb3⟩
  go_wp2
  go_ret2
  refine ⟨pa, pc, rfl, ?_, HFR.out, (HK.out.mono (fun _ _ h => h.elim)).trans hk3, hb3⟩
  exact HO.out.kept hk3 (fun g hg hFg => by have := HF.out g hFg; have := HFR.out g hg; omega)

set_option maxHeartbeats 400000 in
theorem take_no {w : World} {bb : Nat} {L : List (List Int)} {F : Nat → Prop} (h : BagAt 50 w bb L F) (i : Int) (hi : ¬ (0 ≤ i ∧ i < L.length)) :
    Calls Try.prog 17 #[.pointer (some ⟨bb, 0, none⟩), .int .i64 i] w fun e w' => e = .returned (.tuple #[.slice none 0 0, .int .i64 6]) ∧ w = w' := by
  have H := hid h; clear h
  have HI := hid hi; clear hi
  go_enter Try.func17, Try.ntmps17
  go_wp2_with fail
  refine (copy_no H.out i HI.out).mono ?_; rintro e w' ⟨rfl, rfl⟩
  go_wp2_with fail
  refine (drop_no H.out i HI.out).mono ?_; rintro e w' ⟨rfl, rfl⟩
  go_wp2
  go_ret2
  exact ⟨rfl, rfl⟩

set_option maxRecDepth 100000 in
set_option maxHeartbeats 1000000 in
theorem hold_yes {w : World} {bb : Nat} {L : List (List Int)} {F : Nat → Prop} (h : BagAt 50 w bb L F) (hF : ∀ k, F k → k < w.heap.size) (hL : L.length ≤ 2000) (i : Nat) (l : List Int) (hi : L[i]? = some l) (hll : l.length ≤ 16384) :
    Calls Try.prog 10 #[.pointer (some ⟨bb, 0, none⟩), .int .i64 i] w fun e w' => e = .returned (.int .i64 0) ∧ Kept F w w' ∧ ∃ F', BagAt 50 w' bb (without L i ++ [l]) F' ∧ (∀ k, F' k → F k ∨ w.heap.size ≤ k) := by
  have H := hid h; clear h
  have HI := hid hi; clear hi
  have HF := hid hF; clear hF
  have HL := hid hL; clear hL
  have HLL := hid hll; clear hll
  go_enter Try.func10, Try.ntmps10
  go_wp2_with fail
  refine (take_yes H.out HF.out i l HI.out).mono ?_; rintro e w2 ⟨pa, pc, rfl, hown, hfr, hk, hb⟩
  have HO := hid hown
  have HFR := hid hfr
  have HK := hid hk
  clear hown hfr hk
  obtain ⟨ao, cap, ps, h1, h2, h3, h4, h5⟩ := hb
  have c := row_cell h1 0
  simp at c
  have H1 := hid h1
  have H2 := hid h2
  have H3 := hid h3
  have H4 := hid h4
  have H5 := hid h5
  clear h1 h2 h3 h4 h5
  have hwl : (without L i).length ≤ 2000 := by
    rw [without_len (List.getElem?_eq_some_iff.1 HI.out).1]
    have := HL.out; have := (List.getElem?_eq_some_iff.1 HI.out).1; omega
  have HWL := hid hwl; clear hwl
  go_wp2_with (at_builtin; refine wpList_app rfl _ _ 34 rfl 22 (.slice none 0 0) 1 24 Try.underlying34 info22 rfl (by decide) (.slice ao (without L i).length cap) (without L i).length ps rfl (by exact H2.out.alloc _) _ rfl 1 [.slice pa l.length pc] (by exact src_one _ rfl) (by have := HWL.out; simp only [maxLen]; omega) (by have := HWL.out; omega) ?_)
  intro a3 c3 w3 hown3 hk3 hf3 _
  have hbg := bag_grow (G := fun k => F k ∨ w.heap.size ≤ k) ((H3.out.mono (fun _ h => .inl h)).kept ((Kept.refl (fun _ => False) _).alloc (.cells #[.slice pa l.length pc] 22)) (fun _ _ h => h)) (row_old H1.out _) (.inl H4.out) (H2.out.alloc _) (fun g hg => .inl (H5.out g hg)) (HO.out.alloc _) (fun g hg => .inr (HFR.out g hg)) HLL.out hown3 hk3 (by simpa using hf3) (by decide) (by decide)
  have c4 := row_cell hbg.1 0
  simp at c4
  have f4 := row_free hbg.1 0
  have HBG := hid hbg
  have HK3 := hid hk3
  clear hbg hown3 hk3 hf3
  go_wp2
  go_ret
  refine ⟨rfl, ?_, _, HBG.out.2, fun k hk => ?_⟩
  · exact (((HK.out.alloc _).trans' HK3.out (fun i hi => .inl (H5.out i hi)))).setCell (.inl H4.out) _
  · have := HK.out.size
    rcases hk with (hk | hk) | hk
    · exact .inl hk
    · exact .inr hk
    · right; simp at hk; omega

set_option maxHeartbeats 400000 in
theorem hold_no {w : World} {bb : Nat} {L : List (List Int)} {F : Nat → Prop} (h : BagAt 50 w bb L F) (i : Int) (hi : ¬ (0 ≤ i ∧ i < L.length)) :
    Calls Try.prog 10 #[.pointer (some ⟨bb, 0, none⟩), .int .i64 i] w fun e w' => e = .returned (.int .i64 6) ∧ w = w' := by
  have H := hid h; clear h
  have HI := hid hi; clear hi
  go_enter Try.func10, Try.ntmps10
  go_wp2_with fail
  refine (take_no H.out i HI.out).mono ?_; rintro e w' ⟨rfl, rfl⟩
  go_wp2
  go_ret
  exact ⟨rfl, rfl⟩
end Go.Proofs.Ytoefffnodamocaa
