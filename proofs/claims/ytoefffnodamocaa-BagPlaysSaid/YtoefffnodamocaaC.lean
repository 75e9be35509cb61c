/- Put, Drop, Take, Hold. -/
import Derived.Test.YtoefffnodamocaaB
import Derived.Deep.RegionHeld3
import Derived.Deep.RegionLaw
namespace Go.Proofs.Ytoefffnodamocaa
open Go.RowKit

theorem pays_one {w : World} {ps : List Value} {L : List (List Int)} {F : Nat → Prop} (h : Pays w ps L F) : ∀ u ∈ ps, u.oneCell' = true := by
  intro u hu
  obtain ⟨i, hi, e⟩ := List.getElem_of_mem hu
  obtain ⟨h1, _⟩ := h.2 i u (L[i]'(by rw [← h.1]; exact hi)) (by rw [← e]; simp) (by simp [← h.1, hi])
  exact h1.one
/-- payloads stay while blocks of other element types than theirs are written -/
theorem pays_other {w w' : World} {ps : List Value} {L : List (List Int)} {F G : Nat → Prop} (h : Pays w ps L F) (k : Kept G w w') (hG : ∀ g, G g → ∃ cs T, w.heap[g]? = some (.cells cs T (0, 0)) ∧ T ≠ 5) : Pays w' ps L F :=
  ⟨h.1, fun i p l hp hl => let ⟨h1, h2, h3⟩ := h.2 i p l hp hl; ⟨h1.kept k fun g hg hgg => by
    obtain ⟨cs, T, e, ne⟩ := hG g hgg
    exact h1.ne_block e (fun e => ne e.symm) hg, h2, h3⟩⟩
theorem pays_snoc {w : World} {ps : List Value} {L : List (List Int)} {F : Nat → Prop} (h : Pays w ps L F) {p : Value} {l : List Int} (hq : Own w 5 1 p l.length (u8s l)) (hF : ∀ g, p.ownBlock = some g → F g) (hl : l.length ≤ 16384) : Pays w (ps ++ [p]) (L ++ [l]) F := by
  refine ⟨by simp [h.1], fun i q m hq' hm => ?_⟩
  by_cases hi : i < ps.length
  · rw [List.getElem?_append_left hi] at hq'
    rw [List.getElem?_append_left (by rw [← h.1]; exact hi)] at hm
    exact h.2 i q m hq' hm
  · have hip : i = ps.length := by
      have := (List.getElem?_eq_some_iff.1 hq').1
      simp at this; omega
    subst hip
    rw [List.getElem?_append_right (Nat.le_refl _)] at hq'
    rw [h.1, List.getElem?_append_right (Nat.le_refl _)] at hm
    simp at hq' hm
    subst hq'; subst hm
    exact ⟨hq, hF, hl⟩
theorem pays_del {w : World} {ps : List Value} {L : List (List Int)} {F : Nat → Prop} (h : Pays w ps L F) (i : Nat) : Pays w (ps.take i ++ ps.drop (i + 1)) (L.take i ++ L.drop (i + 1)) F := by
  rw [← List.eraseIdx_eq_take_drop_succ, ← List.eraseIdx_eq_take_drop_succ]
  refine ⟨?_, fun j q m hq hm => ?_⟩
  · simp only [List.length_eraseIdx, h.1]
  · rw [List.getElem?_eraseIdx] at hq hm
    split at hq
    · rename_i hj; rw [if_pos hj] at hm; exact h.2 j q m hq hm
    · rename_i hj; rw [if_neg hj] at hm; exact h.2 (j + 1) q m hq hm

/-- A bag whose list was grown by one message. -/
theorem bag_grow {T : TypeId} {w2 w3 : World} {bb : Nat} {L : List (List Int)} {G : Nat → Prop} {ao : Option Addr} {cap : Nat} {ps : List Value} {l : List Int} {p v' : Value}
    (hp : Pays w2 ps L G) (hb : w2.heap[bb]? = some (.cells #[.slice ao L.length cap] T (0, 0))) (hG : G bb) (hl : Own w2 22 1 (.slice ao L.length cap) L.length ps) (hv : ∀ g, (Value.slice ao L.length cap).ownBlock = some g → G g)
    (hq : Own w2 5 1 p l.length (u8s l)) (hqG : ∀ g, p.ownBlock = some g → G g) (hql : l.length ≤ 16384)
    (hown : Own w3 22 1 v' (L.length + 1) (ps ++ [p])) (hk : Kept (fun k => (Value.slice ao L.length cap).ownBlock = some k) w2 w3) (hf : ∀ g, v'.ownBlock = some g → (Value.slice ao L.length cap).ownBlock = some g ∨ w2.heap.size ≤ g) (hT : T ≠ 22) (hT5 : T ≠ 5) :
    w3.heap[bb]? = some (.cells #[.slice ao L.length cap] T (0, 0)) ∧ BagAt T (w3.setCell ⟨bb, 0, none⟩ v') bb (L ++ [l]) (fun k => G k ∨ w2.heap.size ≤ k) := by
  have hbb : w3.heap[bb]? = some (.cells #[.slice ao L.length cap] T (0, 0)) := by
    rw [hk.block bb (row_lt hb) (fun e => hl.ne_block hb (fun e => hT e.symm) e)]; exact hb
  refine ⟨hbb, ?_⟩
  obtain ⟨ao', cap', rfl⟩ := hown.isSlice
  have hp3 := pays_other (pays_snoc hp hq hqG hql) hk (fun g hg => by obtain ⟨c, e⟩ := hl.block hg; exact ⟨c, 22, e, by decide⟩)
  have k4 : Kept (fun k => k = bb) w3 (w3.setCell ⟨bb, 0, none⟩ (.slice ao' (L.length + 1) cap')) := (Kept.refl (fun k => k = bb) w3).setCell (.inl rfl) _
  refine ⟨ao', cap', ps ++ [p], ?_, ?_, ?_, .inl hG, fun g hg => ?_⟩
  · have := row_set hbb 0 (.slice ao' (L.length + 1) cap')
    simpa using this
  · have h5 := hown.kept k4 (fun g hg e => by subst e; exact hown.ne_block hbb (fun e => hT e.symm) hg)
    simpa using h5
  · exact (pays_other hp3 k4 (fun g hg => by subst hg; exact ⟨_, T, hbb, hT5⟩)).mono (fun _ h => .inl h)
  · have : (Value.slice ao' (L.length + 1) cap').ownBlock = some g := by simpa [Value.ownBlock] using hg
    rcases hf g this with h | h
    · exact .inl (hv g h)
    · exact .inr h

def putE (L : List (List Int)) (l : List Int) : Int := if 16384 < l.length then 2 else if l.length = 0 then 3 else if 2000 ≤ L.length then 10 else 0
def putL (L : List (List Int)) (l : List Int) : List (List Int) := if putE L l = 0 then L ++ [l] else L

set_option maxRecDepth 100000 in
set_option maxHeartbeats 1000000 in
theorem put_any {w : World} {bb : Nat} {L : List (List Int)} {F : Nat → Prop} (h : BagAt 50 w bb L F) (v : Value) (l : List Int) (hv : Bts w v l) (hl : l.length ≤ 140737488351232) (hL : L.length ≤ 2000) :
    Calls Try.prog 9 #[.pointer (some ⟨bb, 0, none⟩), v] w fun e w' => e = .returned (.int .i64 (putE L l)) ∧ Kept F w w' ∧
      ∃ F', BagAt 50 w' bb (putL L l) F' ∧ (∀ k, F' k → F k ∨ w.heap.size ≤ k) := by
  have H := hid h
  have HV := hid hv
  obtain ⟨a0, c0, rfl, _⟩ := hv
  obtain ⟨ao, cap, ps, h1, h2, h3, h4, h5⟩ := h
  have c := row_cell h1 0
  simp at c
  have cf := row_free h1 0
  have HL := hid hl; clear hl
  have HLL := hid hL; clear hL
  by_cases e1 : 16384 < l.length
  · have e1' : (16384 : Int) < (l.length : Int) := by omega
    clear h1 h2 h3 h4 h5 c cf
    have HE := hid e1; clear e1
    go_enter Try.func9, Try.ntmps9
    go_wp2
    go_ret
    have hE : putE L l = 2 := by simp [putE, HE.out]
    exact ⟨ret_int hE.symm, Kept.refl _ _, F, by simp only [putL, hE]; exact H.out, fun k hk => .inl hk⟩
  · have e1' : ¬ (16384 : Int) < (l.length : Int) := by omega
    by_cases e2 : l.length = 0
    · have e2' : ((l.length : Int) == 0) = true := by rw [beq_iff_eq]; omega
      clear h1 h2 h3 h4 h5 c cf
      have HE := hid e1; clear e1
      have HE2 := hid e2; clear e2
      go_enter Try.func9, Try.ntmps9
      go_wp2
      go_ret
      have hE : putE L l = 3 := by simp [putE, HE2.out, HE.out]
      exact ⟨ret_int hE.symm, Kept.refl _ _, F, by simp only [putL, hE]; exact H.out, fun k hk => .inl hk⟩
    · have e2' : ((l.length : Int) == 0) = false := by rw [beq_eq_false_iff_ne]; omega
      by_cases e3 : 2000 ≤ L.length
      · have e3' : (2000 : Int) ≤ (L.length : Int) := by omega
        clear h1 h2 h3 h4 h5
        have HE := hid e1; clear e1
        have HE2 := hid e2; clear e2
        have HE3 := hid e3; clear e3
        go_enter Try.func9, Try.ntmps9
        go_wp2
        go_ret
        have hE : putE L l = 10 := by simp [putE, HE.out, HE2.out, HE3.out]
        exact ⟨ret_int hE.symm, Kept.refl _ _, F, by simp only [putL, hE]; exact H.out, fun k hk => .inl hk⟩
      · have e3' : ¬ (2000 : Int) ≤ (L.length : Int) := by omega
        have HE := hid e1; clear e1
        have HE2 := hid e2; clear e2
        have HE3 := hid e3; clear e3
        have H1 := hid h1; clear h1
        have H2 := hid h2; clear h2
        have H3 := hid h3
        have HFB := hid h4
        have HFL := hid h5
        have H1' : ∀ (w2 : World), Kept (fun _ => False) w w2 → ∀ o, (w2.alloc o).heap[bb]? = some (.cells #[.slice ao L.length cap] 50 (0, 0)) := fun w2 k o => row_old ((k.block bb (row_lt H1.out) (fun h => h)).trans H1.out) o
        have H3' : ∀ (w2 : World), Kept (fun _ => False) w w2 → ∀ o, Pays (w2.alloc o) ps L (fun k => F k ∨ w.heap.size ≤ k) := fun w2 k o => (h3.kept ((k.alloc o)) (fun _ _ h => h)).mono (fun _ h => .inl h)
        clear h3 h4 h5
        have X1 := hid H1'; clear H1'
        have X3 := hid H3'; clear H3'
        go_enter Try.func9, Try.ntmps9
        go_wp2_with fail
        go_region_law (first
            | (refine step_app rfl (.tmp 27) (.tmp 30) 34 rfl 22 (.slice none 0 0) 1 24 Try.underlying34 info22 rfl (by decide) (.slice ao L.length cap) L.length ps (by simp [Act.eval, Act.put]) (by exact ((H2.out.kept HK.out (fun _ _ h => h)).alloc _)) _ (by simp [Act.eval, Act.put]; rfl) 1 [.slice pa l.length pc] (by exact src_one _ rfl) (by have := HLL.out; simp only [maxLen]; omega) (by have := HLL.out; omega) ?_; intro a3 c3' w3 hown3 hk3 hf3 _; have hbg := bag_grow (G := fun k => F k ∨ w.heap.size ≤ k) (X3.out w2 HK.out _) (X1.out w2 HK.out _) (.inl HFB.out) ((H2.out.kept HK.out (fun _ _ h => h)).alloc _) (fun g hg => .inl (HFL.out g hg)) (HOWN.out.alloc _) (fun g hg => .inr (HFR.out g hg)) (by have := HE.out; omega) hown3 hk3 hf3 (by decide) (by decide); have c4 := row_cell hbg.1 0; simp at c4; have f4 := row_free hbg.1 0; have HBG := hid hbg; have HK3 := hid hk3; clear hbg hown3 hk3 hf3)
            | (go_simp; go_at_call 19; refine (clone_sl _ l _ (by exact HV.out) HL.out).mono ?_; rintro e w2 ⟨pa, pc, rfl, hown, hfr, hk⟩; have HOWN := hid hown; have HFR := hid hfr; have HK := hid (Kept.of_drew hk); have c2 := HK.out.cell c (fun h => h); have l2 : bb < w2.heap.size := World.block_lt_of_cell? _ _ c2; have c3 : ∀ o, (w2.alloc o).cell? ⟨bb, 0, none⟩ = some (.slice ao L.length cap) := (fun o => by rw [World.cell?_alloc_lt _ _ _ l2]; exact c2); clear hown hfr hk))
        all_goals
          go_wp2
          go_ret
          have hE : putE L l = 0 := by simp [putE, HE.out, HE2.out, HE3.out]
          refine ⟨ret_int hE.symm, ?_, _, by simp only [putL, hE]; exact HBG.out.2, fun k hk => ?_⟩
          · exact ((((HK.out.mono (G := F) (fun _ _ h => h.elim)).alloc _).trans' HK3.out (fun i hi => .inl (HFL.out i hi)))).setCell (.inl HFB.out) _
          · have := HK.out.size
            rcases hk with (hk | hk) | hk
            · exact .inl hk
            · exact .inr hk
            · right; simp at hk; omega
end Go.Proofs.Ytoefffnodamocaa
